/- Layer blake, plainly: what the digest computes. No program is named here. -/
import Derived.Test.YtcbogkpgkdijaaaDoorBitsB
set_option linter.unusedVariables false
set_option linter.unusedSimpArgs false
namespace Go.Proofs.YtcbogkpgkdijaaaDoor.BlaP
open Go.RowKit Go.Proofs.YtcbogkpgkdijaaaDoor.Mem Go.Proofs.YtcbogkpgkdijaaaDoor.Num Go.Proofs.YtcbogkpgkdijaaaDoor.BitsA Go.Proofs.YtcbogkpgkdijaaaDoor.BitsB

def X (a b : Int) : Int := Go.bits .xor .u64 a b
def M : Int := 18446744073709551616
def at_ (xs : List Int) (i : Nat) : Int := xs.getD i 0
/-- One step of a mix: a number more. -/
def addS (v : List Int) (a b : Nat) (x : Int) : List Int := v.set a ((at_ v a + at_ v b + x) % 18446744073709551616)
def turnS (v : List Int) (d a : Nat) (n : Int) : List Int := v.set d (ror 64 (X (at_ v d) (at_ v a)) n)
def mix (v : List Int) (a b c d : Nat) (x y : Int) : List Int :=
  turnS (addS (turnS (addS (turnS (addS (turnS (addS v a b x) d a 32) c d 0) b c 24) a b y) d a 16) c d 0) b c 63
def U64 (xs : List Int) : Prop := ∀ c ∈ xs, 0 ≤ c ∧ c < 18446744073709551616
theorem U64.at_ {xs : List Int} (h : U64 xs) (i : Nat) : 0 ≤ at_ xs i ∧ at_ xs i < 18446744073709551616 := by
  unfold BlaP.at_
  rcases Nat.lt_or_ge i xs.length with hi | hi
  · rw [List.getD_eq_getElem?_getD, List.getElem?_eq_getElem hi]
    exact h _ (List.getElem_mem hi)
  · rw [List.getD_eq_getElem?_getD, List.getElem?_eq_none hi]; decide
theorem U64.set {xs : List Int} (h : U64 xs) (i : Nat) (v : Int) (hv : 0 ≤ v ∧ v < 18446744073709551616) : U64 (xs.set i v) := by
  intro c hc
  rcases List.mem_or_eq_of_mem_set hc with h1 | rfl
  · exact h c h1
  · exact hv
theorem ror64_lt (x n : Int) (h0 : 0 ≤ x) (hx : x < 18446744073709551616) : 0 ≤ ror 64 x n ∧ ror 64 x n < 18446744073709551616 := by
  have := rot_lt 64 ((-n) % ((64 : Nat) : Int)).toNat x.toNat (by omega) (by omega)
  unfold ror
  omega
theorem X_lt {a b : Int} : 0 ≤ X a b ∧ X a b < 18446744073709551616 := by
  unfold X bits
  rw [wrap_u64]
  omega
theorem addS_length (v : List Int) (a b : Nat) (x : Int) : (addS v a b x).length = v.length := by simp [addS]
theorem turnS_length (v : List Int) (d a : Nat) (n : Int) : (turnS v d a n).length = v.length := by simp [turnS]
theorem mix_length (v : List Int) (a b c d : Nat) (x y : Int) : (mix v a b c d x y).length = v.length := by simp [mix, addS_length, turnS_length]
theorem addS_U {v : List Int} (h : U64 v) (a b : Nat) (x : Int) : U64 (addS v a b x) := h.set _ _ (by omega)
theorem turnS_U {v : List Int} (h : U64 v) (d a : Nat) (n : Int) : U64 (turnS v d a n) := h.set _ _ (ror64_lt _ _ X_lt.1 X_lt.2)
theorem mix_U {v : List Int} (h : U64 v) (a b c d : Nat) (x y : Int) : U64 (mix v a b c d x y) :=
  turnS_U (addS_U (turnS_U (addS_U (turnS_U (addS_U (turnS_U (addS_U h _ _ _) _ _ _) _ _ _) _ _ _) _ _ _) _ _ _) _ _ _) _ _ _
def iv : List Int := [7640891576956012808, 13503953896175478587, 4354685564936845355, 11912009170470909681, 5840696475078001361, 11170449401992604703, 2270897969802886507, 6620516959819538809]
def table : List (List Nat) := [[0, 1, 2, 3, 4, 5, 6, 7, 8, 9, 10, 11, 12, 13, 14, 15], [14, 10, 4, 8, 9, 15, 13, 6, 1, 12, 0, 2, 11, 7, 5, 3], [11, 8, 12, 0, 5, 2, 15, 13, 10, 14, 3, 6, 7, 1, 9, 4], [7, 9, 3, 1, 13, 12, 11, 14, 2, 6, 5, 10, 4, 0, 15, 8], [9, 0, 5, 7, 2, 4, 10, 15, 14, 1, 11, 12, 6, 8, 3, 13], [2, 12, 6, 10, 0, 11, 8, 3, 4, 13, 7, 5, 15, 14, 1, 9], [12, 5, 1, 15, 14, 13, 4, 10, 0, 7, 6, 3, 9, 2, 8, 11], [13, 11, 7, 14, 12, 1, 3, 9, 5, 0, 15, 4, 8, 6, 2, 10], [6, 15, 14, 9, 11, 3, 0, 8, 12, 2, 13, 7, 1, 4, 10, 5], [10, 2, 8, 4, 7, 6, 1, 5, 15, 11, 9, 14, 3, 12, 13, 0]]
/-- The table's number at a place of a round. -/
def pick (r j : Nat) : Nat := (table.getD (r % 10) []).getD j 0
def halfA (m v : List Int) (r : Nat) : Nat → List Int
  | 0 => v
  | i + 1 => mix (halfA m v r i) i (4 + i) (8 + i) (12 + i) (at_ m (pick r (2 * i))) (at_ m (pick r (2 * i + 1)))
def halfB (m v : List Int) (r : Nat) : Nat → List Int
  | 0 => v
  | i + 1 => mix (halfB m v r i) i (4 + (i + 1) % 4) (8 + (i + 2) % 4) (12 + (i + 3) % 4) (at_ m (pick r (8 + 2 * i))) (at_ m (pick r (9 + 2 * i)))
def rounds (m v : List Int) : Nat → List Int
  | 0 => v
  | r + 1 => halfB m (halfA m (rounds m v r) r 4) r 4
/-- The words of a block. -/
def words (xs : List Int) : List Int := (List.range 16).map fun i => val (firstS (xs.drop (8 * i)) 8).reverse
def start (st : List Int) (many : Int) (last : Bool) : List Int :=
  let v := (st ++ iv).set 12 (X (at_ (st ++ iv) 12) many)
  if last then v.set 14 (X 18446744073709551615 (at_ v 14)) else v
def close (st v : List Int) : Nat → List Int
  | 0 => st
  | i + 1 => (close st v i).set i (X (at_ (close st v i) i) (X (at_ v i) (at_ v (i + 8))))
def compress (st xs : List Int) (many : Int) (last : Bool) : List Int := close st (rounds (words xs) (start st many last) 12) 8
end Go.Proofs.YtcbogkpgkdijaaaDoor.BlaP
