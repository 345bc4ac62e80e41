/- Layer sha, plainly: a digest that is handed its bytes bit by bit. No program is named here. -/
import Derived.Test.YtcbogkpgkdijaaaDoorShaP
set_option linter.unusedVariables false
set_option linter.unusedSimpArgs false
namespace Go.Proofs.YtcbogkpgkdijaaaDoor.ShaB
open Go.RowKit Go.Proofs.YtcbogkpgkdijaaaDoor.Mem Go.Proofs.YtcbogkpgkdijaaaDoor.Num Go.Proofs.YtcbogkpgkdijaaaDoor.BitsA Go.Proofs.YtcbogkpgkdijaaaDoor.BitsB Go.Proofs.YtcbogkpgkdijaaaDoor.ShaP

def chunk (xs : List Int) (n : Nat) : List Int := (xs.drop (64 * n)).take 64
/-- The state behind the first n blocks. -/
def blocks (xs : List Int) : Nat → List Int
  | 0 => first8
  | n + 1 => compress (blocks xs n) (chunk xs n)
def stateOf (xs : List Int) : List Int := blocks xs (xs.length / 64)
theorem blocks_length (xs : List Int) (n : Nat) : (blocks xs n).length = 8 := by
  induction n with
  | zero => rfl
  | succ n ih => exact compress_length ih
theorem blocks_U (xs : List Int) (n : Nat) : U (blocks xs n) := by
  induction n with
  | zero => exact first8_U
  | succ n ih => exact compress_U ih
theorem chunk_append (xs ys : List Int) (n : Nat) (h : 64 * (n + 1) ≤ xs.length) : chunk (xs ++ ys) n = chunk xs n := by
  unfold chunk
  rw [List.drop_append_of_le_length (by omega), List.take_append_of_le_length (by rw [List.length_drop]; omega)]
theorem blocks_append (xs ys : List Int) (n : Nat) (h : 64 * n ≤ xs.length) : blocks (xs ++ ys) n = blocks xs n := by
  induction n with
  | zero => rfl
  | succ n ih => rw [blocks, blocks, ih (by omega), chunk_append xs ys n h]

/-- What a digest that was handed xs holds. -/
structure Rep (xs st bl : List Int) (op : Nat) : Prop where
  st : st = stateOf xs
  opn : op = xs.length % 64
  len : bl.length = 64
  at_ : bl.take op = xs.drop (64 * (xs.length / 64))
  by_ : Bytes bl
theorem Rep.zero (bl : List Int) (hl : bl.length = 64) (hb : Bytes bl) : Rep [] first8 bl 0 := ⟨rfl, rfl, hl, rfl, hb⟩
theorem Rep.lt {xs st bl : List Int} {op : Nat} (h : Rep xs st bl op) : op < 64 := by have := h.opn; omega
theorem Rep.U {xs st bl : List Int} {op : Nat} (h : Rep xs st bl op) : U st := by rw [h.st]; exact blocks_U _ _
theorem Rep.len8 {xs st bl : List Int} {op : Nat} (h : Rep xs st bl op) : st.length = 8 := by rw [h.st]; exact blocks_length _ _
theorem bytes_splice {bl c : List Int} (op : Nat) (h : Bytes bl) (hc : Bytes c) : Bytes (splice bl op c) := by
  intro x hx
  unfold splice at hx
  rcases List.mem_append.1 hx with h1 | h1
  · exact h x (List.mem_of_mem_take h1)
  · rcases List.mem_append.1 h1 with h2 | h2
    · exact hc x h2
    · exact h x (List.mem_of_mem_drop h2)
theorem Rep.less {xs st bl c : List Int} {op : Nat} (h : Rep xs st bl op) (hc : op + c.length < 64) (hb : Bytes c) : Rep (xs ++ c) st (splice bl op c) (op + c.length) := by
  have ho := h.opn
  have hd : (xs ++ c).length / 64 = xs.length / 64 := by rw [List.length_append]; omega
  refine ⟨?_, by rw [List.length_append]; omega, by rw [length_splice _ _ _ (by rw [h.len]; omega), h.len], ?_, bytes_splice op h.by_ hb⟩
  · rw [h.st]
    unfold stateOf
    rw [hd, blocks_append _ _ _ (by omega)]
  · rw [hd, List.drop_append_of_le_length (by omega), ← h.at_]
    unfold splice
    have hl := h.len
    rw [← List.append_assoc, List.take_append_of_le_length (by rw [List.length_append, List.length_take]; omega)]
    exact List.take_of_length_le (by rw [List.length_append, List.length_take]; omega)
theorem Rep.full {xs st bl c : List Int} {op : Nat} (h : Rep xs st bl op) (hc : op + c.length = 64) (hb : Bytes c) : Rep (xs ++ c) (compress st (splice bl op c)) (splice bl op c) 0 := by
  have ho := h.opn
  have hl := h.len
  have hd : (xs ++ c).length / 64 = xs.length / 64 + 1 := by rw [List.length_append]; omega
  refine ⟨?_, by rw [List.length_append]; omega, by rw [length_splice _ _ _ (by rw [h.len]; omega), h.len], ?_, bytes_splice op h.by_ hb⟩
  · unfold stateOf
    rw [hd, blocks, blocks_append _ _ _ (by omega), ← (show st = blocks xs (xs.length / 64) from h.st)]
    congr 1
    unfold chunk splice
    rw [List.drop_append_of_le_length (by omega), ← h.at_, List.drop_of_length_le (l := bl) (by omega), List.append_nil]
    exact (List.take_of_length_le (by rw [List.length_append, List.length_take]; omega)).symm
  · rw [hd, List.take_zero, List.drop_of_length_le (by rw [List.length_append]; omega)]

/-- What is put behind a text. -/
def pad (n : Nat) : List Int := 128 :: (List.replicate ((119 - n % 64) % 64) 0 ++ (digs ((8 * (n : Int)) % 18446744073709551616) 8).reverse)
/-- The bytes of numbers of 32 bits. -/
def big4 (s : List Int) : List Int := s.flatMap fun x => (digs x 4).reverse
def sumOf (xs : List Int) : List Int := big4 (stateOf (xs ++ pad xs.length))
theorem bytes_pad (n : Nat) : Bytes (pad n) := by
  intro c hc
  unfold pad at hc
  rcases List.mem_cons.1 hc with rfl | h
  · decide
  · rcases List.mem_append.1 h with h1 | h1
    · rw [List.eq_of_mem_replicate h1]; decide
    · exact bytes_digs _ _ c (List.mem_reverse.1 h1)
theorem big4_snoc (s : List Int) (n : Nat) (h : n < s.length) : big4 (s.take (n + 1)) = big4 (s.take n) ++ (digs (at_ s n) 4).reverse := by
  rw [List.take_succ_eq_append_getElem h, big4, List.flatMap_append]
  simp [big4, ShaP.at_, List.getD_eq_getElem?_getD, List.getElem?_eq_getElem h]
theorem big4_length (s : List Int) : (big4 s).length = 4 * s.length := by
  induction s with
  | nil => rfl
  | cons x s ih => simp only [big4, List.flatMap_cons, List.length_append, List.length_reverse, digs_length, List.length_cons] at *; omega
theorem bytes_big4 (s : List Int) : Bytes (big4 s) := by
  intro c hc
  simp only [big4, List.mem_flatMap] at hc
  obtain ⟨x, _, h⟩ := hc
  exact bytes_digs _ _ c (List.mem_reverse.1 h)
end Go.Proofs.YtcbogkpgkdijaaaDoor.ShaB
