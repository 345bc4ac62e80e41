/- Two rows of bytes, laid side by side: the document's Same. -/
import Derived.Test.YtgdhchknegjpfaaDoorProg
import Derived.Test.YtgdhchknegjpfaaDoorMem
import Derived.Laws.BytesArg
set_option linter.unusedVariables false
set_option linter.unusedSimpArgs false
namespace Go.Proofs.YtgdhchknegjpfaaDoor.Same
open Go.RowKit Go.Proofs.YtgdhchknegjpfaaDoor.Mem

def IsB (xs : List Int) : Prop := ∀ c ∈ xs, 0 ≤ c ∧ c ≤ 255
theorem conv_bytes {A : Option Addr} {n c : Nat} {xs : List Int} {w : World} (hn : xs.length = n) (hr : RdI .u8 w A xs) :
    (convert 32 9 (.slice A n c)).run Tryd.prog w = .ok (.string (strOfNums xs)) w := by
  cases A with
  | none =>
    have h0 : xs = [] := by
      cases xs with
      | nil => rfl
      | cons y ys => obtain ⟨_, he, _⟩ := hr 0 (by simp); cases he
    subst h0
    exact run_convert_bytes_nil w 32 5 Tryd.underlying32 Tryd.underlying5 n c 9 Tryd.underlying9
  | some ad =>
    subst hn
    have hl : (loadCells ad xs.length).run Tryd.prog w = .ok (xs.map (Value.int .u8)).toArray w := by
      have := run_loadCells_list (P := Tryd.prog) ad (xs.map (Value.int .u8)) (w := w) (fun j v hj => by
        have hjl : j < xs.length := by
          rcases Nat.lt_or_ge j xs.length with h | h
          · exact h
          · simp [List.getElem?_eq_none (show (xs.map (Value.int .u8)).length ≤ j by simpa using h)] at hj
        obtain ⟨ad', he, _, hc⟩ := hr j hjl
        injection he with he
        subst he
        rw [hc]
        simp [List.getElem?_eq_getElem hjl] at hj
        subst hj
        simp [List.getD, List.getElem?_eq_getElem hjl])
      simpa using this
    rw [run_convert_bytes_string w 32 9 5 _ xs.length c Tryd.underlying32 Tryd.underlying5 Tryd.underlying9, run_bytesToString w _ xs.length c xs hl, foldl_push_bytes]
    simp [strOfNums, ByteArray.empty, ByteArray.emptyWithCapacity]
    rfl
theorem str_inj : ∀ {xs ys : List Int}, IsB xs → IsB ys → (xs.map fun n => UInt8.ofNat n.toNat) = (ys.map fun n => UInt8.ofNat n.toNat) → xs = ys
  | [], [], _, _, _ => rfl
  | [], y :: ys, _, _, h => by cases h
  | x :: xs, [], _, _, h => by cases h
  | x :: xs, y :: ys, hx, hy, h => by
    simp only [List.map_cons, List.cons.injEq] at h
    have h1 := hx x (by simp)
    have h2 := hy y (by simp)
    have e := congrArg UInt8.toNat h.1
    simp only [UInt8.toNat_ofNat'] at e
    rw [Nat.mod_eq_of_lt (by omega), Nat.mod_eq_of_lt (by omega)] at e
    rw [str_inj (fun c hc => hx c (List.mem_cons_of_mem _ hc)) (fun c hc => hy c (List.mem_cons_of_mem _ hc)) h.2, show x = y by omega]
theorem str_eq {xs ys : List Int} (hx : IsB xs) (hy : IsB ys) : ((strOfNums xs).toList == (strOfNums ys).toList) = decide (xs = ys) := by
  by_cases h : xs = ys
  · subst h; simp
  · rw [decide_eq_false h, beq_eq_false_iff_ne]
    intro e
    rw [ByteArray.toList_eq, ByteArray.toList_eq] at e
    exact h (str_inj hx hy e)
theorem same_calls (A B : Option Addr) (n m c d : Nat) (xs ys : List Int) (w : World) (hn : xs.length = n) (hm : ys.length = m) (hx : RdI .u8 w A xs) (hy : RdI .u8 w B ys) (bx : IsB xs) (bY : IsB ys) :
    Calls Tryd.prog 17 #[.slice A n c, .slice B m d] w fun e w' => e = .returned (.bool (decide (xs = ys))) ∧ w = w' := by
  have c1 := conv_bytes (c := c) hn hx
  have c2 := conv_bytes (c := d) hm hy
  have HE := hid (str_eq bx bY)
  clear hn hm hx hy bx bY
  go_enter Tryd.func17, Tryd.ntmps17
  go_wp2
  go_ret
  exact ⟨ret_bool HE.out, rfl⟩
/-- Two rows alike. -/
theorem same_eq (A B : Option Addr) (n m c d : Nat) (xs ys : List Int) (w : World) (he : xs = ys) (hn : xs.length = n) (hm : ys.length = m) (hx : RdI .u8 w A xs) (hy : RdI .u8 w B ys) (bx : IsB xs) :
    Calls Tryd.prog 17 #[.slice A n c, .slice B m d] w fun e w' => e = .returned (.bool true) ∧ w = w' := by
  subst he
  refine (same_calls A B n m c d xs xs w hn hm hx hy bx bx).mono ?_
  rintro e w' ⟨rfl, rfl⟩
  exact ⟨by rw [decide_eq_true rfl], rfl⟩
end Go.Proofs.YtgdhchknegjpfaaDoor.Same
