/- Layer blake, plainly: a digest that is handed its bytes bit by bit. No program is named here. -/
import Derived.Test.YtcbogkpgkdijaaaDoorBlaP
import Derived.Test.YtcbogkpgkdijaaaDoorApp
set_option linter.unusedVariables false
set_option linter.unusedSimpArgs false
namespace Go.Proofs.YtcbogkpgkdijaaaDoor.BlaB
open Go.RowKit Go.Proofs.YtcbogkpgkdijaaaDoor.Mem Go.Proofs.YtcbogkpgkdijaaaDoor.Num Go.Proofs.YtcbogkpgkdijaaaDoor.BitsA Go.Proofs.YtcbogkpgkdijaaaDoor.BitsB Go.Proofs.YtcbogkpgkdijaaaDoor.BlaP

theorem halfA_length {m v : List Int} (r i : Nat) (h : v.length = 16) : (halfA m v r i).length = 16 := by
  induction i with
  | zero => exact h
  | succ i ih => rw [halfA, mix_length, ih]
theorem halfB_length {m v : List Int} (r i : Nat) (h : v.length = 16) : (halfB m v r i).length = 16 := by
  induction i with
  | zero => exact h
  | succ i ih => rw [halfB, mix_length, ih]
theorem rounds_length {m v : List Int} (r : Nat) (h : v.length = 16) : (rounds m v r).length = 16 := by
  induction r with
  | zero => exact h
  | succ r ih => rw [rounds, halfB_length r 4 (halfA_length r 4 ih)]
theorem halfA_U {m v : List Int} (r i : Nat) (h : U64 v) : U64 (halfA m v r i) := by
  induction i with
  | zero => exact h
  | succ i ih => exact mix_U ih _ _ _ _ _ _
theorem halfB_U {m v : List Int} (r i : Nat) (h : U64 v) : U64 (halfB m v r i) := by
  induction i with
  | zero => exact h
  | succ i ih => exact mix_U ih _ _ _ _ _ _
theorem rounds_U {m v : List Int} (r : Nat) (h : U64 v) : U64 (rounds m v r) := by
  induction r with
  | zero => exact h
  | succ r ih => exact halfB_U r 4 (halfA_U r 4 ih)
theorem close_length {st v : List Int} (i : Nat) (h : st.length = 8) : (close st v i).length = 8 := by
  induction i with
  | zero => exact h
  | succ i ih => rw [close, List.length_set, ih]
theorem close_U {st v : List Int} (i : Nat) (h : U64 st) : U64 (close st v i) := by
  induction i with
  | zero => exact h
  | succ i ih => exact ih.set _ _ X_lt
theorem compress_length {st xs : List Int} {many : Int} {last : Bool} (h : st.length = 8) : (compress st xs many last).length = 8 := close_length 8 h
theorem compress_U {st xs : List Int} {many : Int} {last : Bool} (h : U64 st) : U64 (compress st xs many last) := close_U 8 h
theorem iv_U : U64 iv := by unfold U64 iv; decide +kernel
theorem u64_app {xs ys : List Int} (h : U64 xs) (k : U64 ys) : U64 (xs ++ ys) := fun c hc => by
  rcases List.mem_append.1 hc with h1 | h1
  · exact h c h1
  · exact k c h1
theorem start_length {st : List Int} {many : Int} {last : Bool} (h : st.length = 8) : (BlaP.start st many last).length = 16 := by
  unfold BlaP.start
  cases last <;> simp [h, iv]
theorem start_U {st : List Int} {many : Int} {last : Bool} (h : U64 st) : U64 (BlaP.start st many last) := by
  unfold BlaP.start
  cases last
  · exact (u64_app h iv_U).set _ _ X_lt
  · exact ((u64_app h iv_U).set _ _ X_lt).set _ _ X_lt
/-- The words, one by one. -/
def wordsTo (xs : List Int) : Nat → List Int
  | 0 => List.replicate 16 0
  | i + 1 => (wordsTo xs i).set i (val (firstS (xs.drop (8 * i)) 8).reverse)
theorem wordsTo_length (xs : List Int) (i : Nat) : (wordsTo xs i).length = 16 := by
  induction i with
  | zero => simp [wordsTo]
  | succ i ih => rw [wordsTo, List.length_set, ih]
theorem wordsTo_all (xs : List Int) : wordsTo xs 16 = words xs := rfl
theorem words_length (xs : List Int) : (words xs).length = 16 := by simp [words]
theorem words_U (xs : List Int) : U64 (words xs) := by
  intro c hc
  simp only [words, List.mem_map] at hc
  obtain ⟨i, _, rfl⟩ := hc
  exact val_range _
theorem map_splice (f : Int → Value) (L C : List Int) (o : Nat) : splice (L.map f) o (C.map f) = (splice L o C).map f := by
  unfold splice
  simp [List.map_append, List.map_take, List.map_drop]
theorem splice_a (st : List Int) (h : st.length = 8) : splice (List.replicate 16 (0 : Int)) 0 st = st ++ List.replicate 8 0 := by
  unfold splice
  simp [h]
theorem splice_b (st : List Int) (h : st.length = 8) : splice (st ++ List.replicate 8 (0 : Int)) 8 iv = st ++ iv := by
  unfold splice
  simp [h, iv, List.take_append, List.take_of_length_le]
/-- The table, row behind row. -/
def flat : List Int := (table.flatMap id).map fun (n : Nat) => (n : Int)
def rowOf (q : Nat) : List Int := (table.getD q []).map fun (n : Nat) => (n : Int)
theorem flat_length : flat.length = 160 := by decide +kernel
theorem rowOf_length (q : Nat) (h : q < 10) : (rowOf q).length = 16 := by
  revert h; revert q; decide +kernel
theorem flat_row (q j : Nat) (h : q < 10) (hj : j < 16) : flat.getD (16 * q + j) 0 = (rowOf q).getD j 0 := by
  revert hj; revert j; revert h; revert q; decide +kernel +kernel
theorem pick_lt (r j : Nat) (hj : j < 16) : pick r j < 16 := by
  have h : ∀ q, q < 10 → ∀ j, j < 16 → (table.getD q []).getD j 0 < 16 := by decide +kernel
  exact h _ (Nat.mod_lt _ (by decide)) j hj
theorem row_pick (r j : Nat) (hj : j < 16) : (rowOf (r % 10)).getD j 0 = (pick r j : Int) := by
  have h : ∀ q, q < 10 → ∀ j, j < 16 → (rowOf q).getD j 0 = (((table.getD q []).getD j 0 : Nat) : Int) := by decide +kernel
  exact h _ (Nat.mod_lt _ (by decide)) j hj

/-! A digest. -/
def chunk (xs : List Int) (n : Nat) : List Int := (xs.drop (128 * n)).take 128
def first8 : List Int := iv.set 0 (X (at_ iv 0) 16842784)
/-- The state behind the first n blocks. -/
def blocks (xs : List Int) : Nat → List Int
  | 0 => first8
  | n + 1 => compress (blocks xs n) (chunk xs n) (128 * ((n : Int) + 1)) false
theorem first8_U : U64 first8 := iv_U.set _ _ X_lt
theorem blocks_length (xs : List Int) (n : Nat) : (blocks xs n).length = 8 := by
  induction n with
  | zero => rfl
  | succ n ih => exact compress_length ih
theorem blocks_U (xs : List Int) (n : Nat) : U64 (blocks xs n) := by
  induction n with
  | zero => exact first8_U
  | succ n ih => exact compress_U ih
theorem chunk_append (xs ys : List Int) (n : Nat) (h : 128 * (n + 1) ≤ xs.length) : chunk (xs ++ ys) n = chunk xs n := by
  unfold chunk
  rw [List.drop_append_of_le_length (by omega), List.take_append_of_le_length (by rw [List.length_drop]; omega)]
theorem blocks_append (xs ys : List Int) (n : Nat) (h : 128 * n ≤ xs.length) : blocks (xs ++ ys) n = blocks xs n := by
  induction n with
  | zero => rfl
  | succ n ih => rw [blocks, blocks, ih (by omega), chunk_append xs ys n h]
/-- What a digest that was handed xs holds; nb blocks are in its state. -/
structure Rep (xs st bl : List Int) (op nb : Nat) : Prop where
  st : st = blocks xs nb
  opn : xs.length = 128 * nb + op
  le : op ≤ 128
  len : bl.length = 128
  at_ : bl.take op = xs.drop (128 * nb)
  by_ : Bytes bl
theorem Rep.zero (bl : List Int) (hl : bl.length = 128) (hb : Bytes bl) : Rep [] first8 bl 0 0 := ⟨rfl, rfl, by omega, hl, rfl, hb⟩
theorem Rep.U {xs st bl : List Int} {op nb : Nat} (h : Rep xs st bl op nb) : U64 st := by rw [h.st]; exact blocks_U _ _
theorem Rep.len8 {xs st bl : List Int} {op nb : Nat} (h : Rep xs st bl op nb) : st.length = 8 := by rw [h.st]; exact blocks_length _ _
theorem bytes_splice {bl c : List Int} (op : Nat) (h : Bytes bl) (hc : Bytes c) : Bytes (splice bl op c) := by
  intro x hx
  unfold splice at hx
  rcases List.mem_append.1 hx with h1 | h1
  · exact h x (List.mem_of_mem_take h1)
  · rcases List.mem_append.1 h1 with h2 | h2
    · exact hc x h2
    · exact h x (List.mem_of_mem_drop h2)
theorem Rep.more {xs st bl c : List Int} {op nb : Nat} (h : Rep xs st bl op nb) (hc : op + c.length ≤ 128) (hb : Bytes c) : Rep (xs ++ c) st (splice bl op c) (op + c.length) nb := by
  have ho := h.opn
  have hl := h.len
  refine ⟨?_, by rw [List.length_append]; omega, hc, by rw [length_splice _ _ _ (by rw [h.len]; omega), h.len], ?_, bytes_splice op h.by_ hb⟩
  · rw [h.st, blocks_append _ _ _ (by omega)]
  · rw [List.drop_append_of_le_length (by omega), ← h.at_]
    unfold splice
    rw [← List.append_assoc, List.take_append_of_le_length (by rw [List.length_append, List.length_take]; omega)]
    exact List.take_of_length_le (by rw [List.length_append, List.length_take]; omega)
theorem Rep.turn {xs st bl : List Int} {nb : Nat} (h : Rep xs st bl 128 nb) : Rep xs (compress st bl xs.length false) bl 0 (nb + 1) := by
  have ho := h.opn
  have ha := h.at_
  rw [List.take_of_length_le (by rw [h.len]; exact Nat.le_refl _)] at ha
  refine ⟨?_, by omega, by omega, h.len, ?_, h.by_⟩
  · rw [blocks, ← h.st, show chunk xs nb = bl by unfold chunk; rw [← ha, List.take_of_length_le (by rw [h.len]; exact Nat.le_refl _)], show ((xs.length : Nat) : Int) = 128 * ((nb : Int) + 1) by omega]
  · rw [List.take_zero, List.drop_of_length_le (by omega)]
def little4 (s : List Int) : List Int := s.flatMap fun x => digs x 8
def sumAt (xs : List Int) (nb : Nat) : List Int := little4 ((compress (blocks xs nb) (firstS (xs.drop (128 * nb)) 128) xs.length true).take 4)
def sumOf (xs : List Int) : List Int := sumAt xs ((xs.length - 1) / 128)
theorem Rep.sum {xs st bl : List Int} {op nb : Nat} (h : Rep xs st bl op nb) (h0 : op = 0 → nb = 0) : little4 ((compress st (bl.take op ++ List.replicate (128 - op) 0) xs.length true).take 4) = sumOf xs := by
  have ho := h.opn
  have hle := h.le
  have hn : (xs.length - 1) / 128 = nb := by
    rcases Nat.eq_zero_or_pos op with h1 | h1
    · have := h0 h1; omega
    · omega
  unfold sumOf sumAt
  have hl : (bl.take op).length = op := by rw [List.length_take, h.len]; omega
  have e : firstS (bl.take op) 128 = bl.take op ++ List.replicate (128 - op) 0 := by
    unfold firstS
    rw [List.take_append, List.take_of_length_le (by omega), hl]
    rw [List.take_replicate, Nat.min_eq_left (by omega)]
  rw [hn, ← h.st, ← h.at_, e]
theorem little4_snoc (s : List Int) (n : Nat) (h : n < s.length) : little4 (s.take (n + 1)) = little4 (s.take n) ++ digs (at_ s n) 8 := by
  unfold little4
  rw [List.take_succ_eq_append_getElem h, List.flatMap_append]
  simp [BlaP.at_, List.getD_eq_getElem?_getD, List.getElem?_eq_getElem h]
theorem little4_length (s : List Int) : (little4 s).length = 8 * s.length := by
  induction s with
  | nil => rfl
  | cons x s ih => unfold little4 at ih ⊢; simp [digs_length, ih]; omega
theorem bytes_little4 (s : List Int) : Bytes (little4 s) := by
  intro c hc
  unfold little4 at hc
  obtain ⟨x, _, hx⟩ := List.mem_flatMap.1 hc
  exact bytes_digs x 8 c hx
end Go.Proofs.YtcbogkpgkdijaaaDoor.BlaB
