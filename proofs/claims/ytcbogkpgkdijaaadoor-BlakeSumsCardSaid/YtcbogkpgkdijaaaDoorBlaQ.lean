/- Layer blake, plainly: the document's sum. No program is named here. -/
import Derived.Test.YtcbogkpgkdijaaaDoorBlaB
set_option linter.unusedVariables false
set_option linter.unusedSimpArgs false
namespace Go.Proofs.YtcbogkpgkdijaaaDoor.BlaQ
open Go.RowKit Go.Proofs.YtcbogkpgkdijaaaDoor.Mem Go.Proofs.YtcbogkpgkdijaaaDoor.Num Go.Proofs.YtcbogkpgkdijaaaDoor.BitsA Go.Proofs.YtcbogkpgkdijaaaDoor.BitsB Go.Proofs.YtcbogkpgkdijaaaDoor.BlaP Go.Proofs.YtcbogkpgkdijaaaDoor.BlaB

theorem xor_nat (a b : Nat) (ha : a < 2 ^ 64) (hb : b < 2 ^ 64) : X a b = ((a ^^^ b : Nat) : Int) := by
  have hx : a ^^^ b < 2 ^ 64 := Nat.xor_lt_two_pow ha hb
  have h1 : (BitVec.ofInt 64 (a : Int)).toNat = a := by
    rw [BitVec.ofInt_natCast, BitVec.toNat_ofNat]; exact Nat.mod_eq_of_lt ha
  have h2 : (BitVec.ofInt 64 (b : Int)).toNat = b := by
    rw [BitVec.ofInt_natCast, BitVec.toNat_ofNat]; exact Nat.mod_eq_of_lt hb
  show IntKind.u64.wrap ((BitVec.ofInt 64 (a : Int) ^^^ BitVec.ofInt 64 (b : Int)).toNat : Int) = _
  rw [BitVec.toNat_xor, h1, h2, wrap_u64]
  omega
theorem lt64 {x : Int} (h : 0 ≤ x ∧ x < 18446744073709551616) : ∃ n : Nat, x = n ∧ n < 2 ^ 64 := ⟨x.toNat, by omega, by omega⟩
theorem X_assoc {a b c : Int} (ha : 0 ≤ a ∧ a < 18446744073709551616) (hb : 0 ≤ b ∧ b < 18446744073709551616) (hc : 0 ≤ c ∧ c < 18446744073709551616) : X (X a b) c = X a (X b c) := by
  obtain ⟨a, rfl, ka⟩ := lt64 ha
  obtain ⟨b, rfl, kb⟩ := lt64 hb
  obtain ⟨c, rfl, kc⟩ := lt64 hc
  rw [xor_nat a b ka kb, xor_nat b c kb kc, xor_nat _ _ (Nat.xor_lt_two_pow ka kb) kc, xor_nat _ _ ka (Nat.xor_lt_two_pow kb kc), Nat.xor_assoc]
theorem X_not {a : Int} (ha : 0 ≤ a ∧ a < 18446744073709551616) : X 18446744073709551615 a = 18446744073709551615 - a := by
  obtain ⟨a, rfl, ka⟩ := lt64 ha
  clear ha
  have ha := ka
  rw [show (18446744073709551615 : Int) = ((18446744073709551615 : Nat) : Int) from rfl, xor_nat _ _ (by decide) ha]
  have e : 18446744073709551615 ^^^ a = 18446744073709551615 - a := by
    apply Nat.eq_of_testBit_eq
    intro i
    rw [Nat.testBit_xor, show (18446744073709551615 : Nat) - a = 2 ^ 64 - (a + 1) by omega, Nat.testBit_two_pow_sub_succ ha, show (18446744073709551615 : Nat) = 2 ^ 64 - 1 from rfl, Nat.testBit_two_pow_sub_one]
    by_cases hi : i < 64
    · simp [hi]
    · have : a.testBit i = false := Nat.testBit_lt_two_pow (Nat.lt_of_lt_of_le ha (Nat.pow_le_pow_right (by decide) (by omega)))
      simp [hi, this]
  rw [e]
  omega
theorem first_get (xs : List Int) (n j : Nat) : (firstS xs n).getD j 0 = if j < n then xs.getD j 0 else 0 := by
  unfold firstS
  simp only [List.getD_eq_getElem?_getD, List.getElem?_take]
  split
  · rcases Nat.lt_or_ge j xs.length with h | h
    · rw [List.getElem?_append_left h]
    · rw [List.getElem?_append_right h, List.getElem?_eq_none h]
      simp only [List.getElem?_replicate]
      split <;> rfl
  · rfl
theorem drop_get (xs : List Int) (n j : Nat) : (xs.drop n).getD j 0 = xs.getD (n + j) 0 := by simp [List.getD_eq_getElem?_getD]
/-- The block from a place on. -/
def blk (xs : List Int) (k : Nat) : List Int := firstS (xs.drop (128 * k)) 128
theorem blk_length (xs : List Int) (k : Nat) : (blk xs k).length = 128 := firstS_length _ _
theorem win_blk (xs : List Int) (k i : Nat) (hi : i < 16) : win xs (128 * k + 8 * i) 8 = firstS ((blk xs k).drop (8 * i)) 8 := by
  refine ext_getD (by rw [win_length, firstS_length]) ?_
  intro j hj
  rw [win_length] at hj
  rw [first_get, if_pos hj, drop_get, blk, first_get, if_pos (by omega), drop_get]
  unfold win
  rw [List.getD_eq_getElem?_getD, List.getElem?_map, List.getElem?_range hj]
  simp only [Option.map_some, Option.getD_some]
  congr 1
  omega
theorem chunk_blk (xs : List Int) (k : Nat) (h : 128 * (k + 1) ≤ xs.length) : chunk xs k = blk xs k := by
  unfold chunk blk firstS
  rw [List.take_append_of_le_length (by rw [List.length_drop]; omega)]
/-- How many blocks there are, but the last. -/
def nb (n : Nat) : Nat := (n - 1) / 128
theorem nb_lt {n k : Nat} (h : k < nb n) : 128 * (k + 1) ≤ n - 1 := by unfold nb at h; omega
theorem nb_le (n : Nat) : n ≤ 128 * (nb n + 1) := by unfold nb; omega
theorem nb_go (n : Nat) : (n + 127) / 128 = 0 ∧ nb n = 0 ∨ ((n + 127) / 128 = nb n + 1 ∧ ¬ (n + 127) / 128 = 0) := by unfold nb; omega
/-- What the document's numbers are behind the first k blocks. -/
def stAt (xs : List Int) (k : Nat) : List Int := if k ≤ nb xs.length then blocks xs k else compress (blocks xs (nb xs.length)) (blk xs (nb xs.length)) xs.length true
theorem stAt_length (xs : List Int) (k : Nat) : (stAt xs k).length = 8 := by
  unfold stAt
  split
  · exact blocks_length _ _
  · exact compress_length (blocks_length _ _)
theorem stAt_U (xs : List Int) (k : Nat) : U64 (stAt xs k) := by
  unfold stAt
  split
  · exact blocks_U _ _
  · exact compress_U (blocks_U _ _)
theorem stAt_succ (xs : List Int) (k : Nat) (h : k ≤ nb xs.length) : stAt xs (k + 1) = compress (stAt xs k) (blk xs k) (min (128 * (k + 1)) xs.length : Nat) (decide (k = nb xs.length)) := by
  rcases Nat.lt_or_ge k (nb xs.length) with hk | hk
  · have h1 := nb_lt hk
    unfold stAt
    rw [if_pos (by omega), if_pos h, blocks, chunk_blk xs k (by omega), Nat.min_eq_left (by omega), decide_eq_false (by omega)]
    rfl
  · have e : k = nb xs.length := by omega
    subst e
    unfold stAt
    rw [if_neg (by omega), if_pos (Nat.le_refl _), Nat.min_eq_right (nb_le _), decide_eq_true rfl]
theorem stAt_sum (xs : List Int) : little4 ((stAt xs (nb xs.length + 1)).take 4) = sumOf xs := by
  unfold stAt
  rw [if_neg (by omega)]
  rfl
/-- The document's order of the last step. -/
def closeR (st v : List Int) : Nat → List Int
  | 0 => st
  | i + 1 => (closeR st v i).set i (X (X (at_ (closeR st v i) i) (at_ v i)) (at_ v (i + 8)))
theorem closeR_length {st v : List Int} (i : Nat) (h : st.length = 8) : (closeR st v i).length = 8 := by
  induction i with
  | zero => exact h
  | succ i ih => rw [closeR, List.length_set, ih]
theorem closeR_eq {st v : List Int} (h : U64 st) (hv : U64 v) (i : Nat) : closeR st v i = close st v i := by
  induction i with
  | zero => rfl
  | succ i ih => rw [closeR, close, ih, X_assoc ((close_U i h).at_ i) (hv.at_ i) (hv.at_ (i + 8))]
/-- The document's first numbers of a block. -/
def startR (st : List Int) (many : Int) (last : Bool) : List Int :=
  let v := (st ++ iv).set 12 (X (at_ (st ++ iv) 12) many)
  if last then v.set 14 (18446744073709551615 - at_ v 14) else v
theorem startR_eq {st : List Int} {many : Int} {last : Bool} (h : U64 st) : startR st many last = BlaP.start st many last := by
  unfold startR BlaP.start
  cases last
  · rfl
  · have hU : U64 ((st ++ iv).set 12 (X (at_ (st ++ iv) 12) many)) := (u64_app h iv_U).set _ _ X_lt
    simp only [if_true]
    rw [X_not (hU.at_ 14)]
end Go.Proofs.YtcbogkpgkdijaaaDoor.BlaQ
