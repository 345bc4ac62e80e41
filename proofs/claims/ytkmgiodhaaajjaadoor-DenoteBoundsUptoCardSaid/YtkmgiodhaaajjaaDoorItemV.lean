/- Layer item: the document's word for what is wrong with an item by itself: kinds without a call. -/
import Derived.Test.YtkmgiodhaaajjaaDoorItemU
import Derived.Test.YtkmgiodhaaajjaaDoorItemE
set_option linter.unusedVariables false
set_option linter.unusedSimpArgs false
namespace Go.Proofs.YtkmgiodhaaajjaaDoor.ItemV
open Go.IntWalk Go.RowKit Go.Proofs.YtkmgiodhaaajjaaDoor.Mem Go.Proofs.YtkmgiodhaaajjaaDoor.App Go.Proofs.YtkmgiodhaaajjaaDoor.UtfP Go.Proofs.YtkmgiodhaaajjaaDoor.FloatP Go.Proofs.YtkmgiodhaaajjaaDoor.ItemP Go.Proofs.YtkmgiodhaaajjaaDoor.ItemM Go.Proofs.YtkmgiodhaaajjaaDoor.Own Go.Proofs.YtkmgiodhaaajjaaDoor.ItemA Go.Proofs.YtkmgiodhaaajjaaDoor.ItemB Go.Proofs.YtkmgiodhaaajjaaDoor.ItemC Go.Proofs.YtkmgiodhaaajjaaDoor.ItemD Go.Proofs.YtkmgiodhaaajjaaDoor.ItemE Go.Proofs.YtkmgiodhaaajjaaDoor.Range Go.Proofs.YtkmgiodhaaajjaaDoor.ItemT Go.Proofs.YtkmgiodhaaajjaaDoor.ItemU

theorem form_t (k : Int) (n : Nat) (s : ByteArray) (l : List It) (h : 0 ≤ k ∧ k ≤ 8) : (It.mk k n s l).form = true ↔
    ((k = 2 ∨ k = 3 ∨ s.toList = []) ∧ (k = 2 ∨ k = 3 ∨ k = 4 ∨ k = 5 → (n : Int) = 0) ∧ (k = 6 → (l.length : Int) = 1) ∧ (k = 5 → (l.length : Int) % 2 = 0) ∧ (k ≠ 4 → k ≠ 5 → k ≠ 6 → (l.length : Int) = 0)) := by
  rw [emp_iff]
  rcases form_kind k with (rfl | rfl | rfl | rfl) | (rfl | rfl) | rfl | rfl | rfl | h'
  all_goals
    simp only [It.form]
    generalize s.size = z
    generalize l.length = m
    first
      | omega
      | (simp; done)
      | (simp; omega)
/-- The wrong forms all are 11. -/
theorem wv11 {k : Int} {n : Nat} {s : ByteArray} {l : List It} (h : (It.mk k n s l).form = false) : (It.mk k n s l).wrong = 11 := wrong_form h
theorem formF {k : Int} {n : Nat} {s : ByteArray} {l : List It} (h : ¬ (It.mk k n s l).form = true) : (It.mk k n s l).form = false := by simpa using h

set_option maxRecDepth 20000 in
set_option maxHeartbeats 8000000 in
theorem wr_0 (n : Nat) (s : ByteArray) (l : List It) (hx : (It.mk 0 n s l).size ≤ 2000000) (lo hi : Nat) (cs : List Value) (w : World) (hh : hi ≤ w.heap.size) (h : ItAt w lo hi (It.mk 0 n s l) cs) :
    Calls Tryd.prog 73 #[.agg cs.toArray] w fun e w' => e = .returned (.int .i64 (It.mk 0 n s l).wrong) ∧ Fr (fun _ => False) w w' := by
  have hAt := h
  obtain ⟨A, c, rfl, hc, hk, hn, hs, hl, hL⟩ := h
  obtain ⟨r, hr⟩ : ∃ r, (It.mk 0 n s l).wrong = r := ⟨_, rfl⟩
  rw [hr]
  have HR := hid hr
  obtain ⟨m, hm⟩ : ∃ m, l.length = m := ⟨_, rfl⟩
  have HM := hid hm
  have HAT := hid hAt
  rw [hm] at hc hl HAT ⊢
  obtain ⟨w1, hw1⟩ : ∃ w1, w.alloc (.cells #[.int .i64 0, .int .u64 n, .string s, .slice A m c] 25) = w1 := ⟨_, rfl⟩
  have HF1 := hid (show Fr (fun _ => False) w w1 by rw [← hw1]; exact (Fr.refl _ w).alloc _)
  have HB1 := hid (show Blk w1 w.heap.size 25 #[.int .i64 0, .int .u64 n, .string s, .slice A m c] by rw [← hw1]; exact Blk.new w _ _)
  have HW1 := hid hw1
  have HSL := hid hh
  have HNN := hid hn
  have HSS := hid hs
  have HL := hid hL
  have HSZ := hid hx
  have c0 := HB1.out.cell 0
  have c1 := HB1.out.cell 1
  have c2 := HB1.out.cell 2
  have c3 := HB1.out.cell 3
  simp at c0 c1 c2 c3
  clear hAt hr hm hw1 hh hn hs hL hx hk
  have HT := hid (form_t 0 n s l (by omega))
  have HE := hid (fun h => @wrong_no 0 n s l h (by omega) (by omega) (by omega) (by omega))
  rw [HM.out] at HT
  go_enter Tryd.func73, Tryd.ntmps73
  go_wp2_with fail
  rw [HW1.out]
  go_wp2_with fail
  all_goals
    go_ret
    refine ⟨?_, by first | exact HF1.out | (rw [HW1.out]; exact HF1.out)⟩
    rw [← HR.out]
    first
      | (rw [HE.out (HT.out.2 (by simp_all))]; rfl)
      | (rw [HE.out (HT.out.2 (by simp_all)), if_pos (by omega)]; rfl)
      | (rw [HE.out (HT.out.2 (by simp_all)), if_neg (by omega)]; rfl)
      | (rw [wv11 (formF (fun h => by have := HT.out.1 h; simp_all))]; rfl)

set_option maxRecDepth 20000 in
set_option maxHeartbeats 8000000 in
theorem wr_1 (n : Nat) (s : ByteArray) (l : List It) (hx : (It.mk 1 n s l).size ≤ 2000000) (lo hi : Nat) (cs : List Value) (w : World) (hh : hi ≤ w.heap.size) (h : ItAt w lo hi (It.mk 1 n s l) cs) :
    Calls Tryd.prog 73 #[.agg cs.toArray] w fun e w' => e = .returned (.int .i64 (It.mk 1 n s l).wrong) ∧ Fr (fun _ => False) w w' := by
  have hAt := h
  obtain ⟨A, c, rfl, hc, hk, hn, hs, hl, hL⟩ := h
  obtain ⟨r, hr⟩ : ∃ r, (It.mk 1 n s l).wrong = r := ⟨_, rfl⟩
  rw [hr]
  have HR := hid hr
  obtain ⟨m, hm⟩ : ∃ m, l.length = m := ⟨_, rfl⟩
  have HM := hid hm
  have HAT := hid hAt
  rw [hm] at hc hl HAT ⊢
  obtain ⟨w1, hw1⟩ : ∃ w1, w.alloc (.cells #[.int .i64 1, .int .u64 n, .string s, .slice A m c] 25) = w1 := ⟨_, rfl⟩
  have HF1 := hid (show Fr (fun _ => False) w w1 by rw [← hw1]; exact (Fr.refl _ w).alloc _)
  have HB1 := hid (show Blk w1 w.heap.size 25 #[.int .i64 1, .int .u64 n, .string s, .slice A m c] by rw [← hw1]; exact Blk.new w _ _)
  have HW1 := hid hw1
  have HSL := hid hh
  have HNN := hid hn
  have HSS := hid hs
  have HL := hid hL
  have HSZ := hid hx
  have c0 := HB1.out.cell 0
  have c1 := HB1.out.cell 1
  have c2 := HB1.out.cell 2
  have c3 := HB1.out.cell 3
  simp at c0 c1 c2 c3
  clear hAt hr hm hw1 hh hn hs hL hx hk
  have HT := hid (form_t 1 n s l (by omega))
  have HE := hid (fun h => @wrong_no 1 n s l h (by omega) (by omega) (by omega) (by omega))
  rw [HM.out] at HT
  go_enter Tryd.func73, Tryd.ntmps73
  go_wp2_with fail
  rw [HW1.out]
  go_wp2_with fail
  all_goals
    go_ret
    refine ⟨?_, by first | exact HF1.out | (rw [HW1.out]; exact HF1.out)⟩
    rw [← HR.out]
    first
      | (rw [HE.out (HT.out.2 (by simp_all))]; rfl)
      | (rw [HE.out (HT.out.2 (by simp_all)), if_pos (by omega)]; rfl)
      | (rw [HE.out (HT.out.2 (by simp_all)), if_neg (by omega)]; rfl)
      | (rw [wv11 (formF (fun h => by have := HT.out.1 h; simp_all))]; rfl)

set_option maxRecDepth 20000 in
set_option maxHeartbeats 8000000 in
theorem wr_2 (n : Nat) (s : ByteArray) (l : List It) (hx : (It.mk 2 n s l).size ≤ 2000000) (lo hi : Nat) (cs : List Value) (w : World) (hh : hi ≤ w.heap.size) (h : ItAt w lo hi (It.mk 2 n s l) cs) :
    Calls Tryd.prog 73 #[.agg cs.toArray] w fun e w' => e = .returned (.int .i64 (It.mk 2 n s l).wrong) ∧ Fr (fun _ => False) w w' := by
  have hAt := h
  obtain ⟨A, c, rfl, hc, hk, hn, hs, hl, hL⟩ := h
  obtain ⟨r, hr⟩ : ∃ r, (It.mk 2 n s l).wrong = r := ⟨_, rfl⟩
  rw [hr]
  have HR := hid hr
  obtain ⟨m, hm⟩ : ∃ m, l.length = m := ⟨_, rfl⟩
  have HM := hid hm
  have HAT := hid hAt
  rw [hm] at hc hl HAT ⊢
  obtain ⟨w1, hw1⟩ : ∃ w1, w.alloc (.cells #[.int .i64 2, .int .u64 n, .string s, .slice A m c] 25) = w1 := ⟨_, rfl⟩
  have HF1 := hid (show Fr (fun _ => False) w w1 by rw [← hw1]; exact (Fr.refl _ w).alloc _)
  have HB1 := hid (show Blk w1 w.heap.size 25 #[.int .i64 2, .int .u64 n, .string s, .slice A m c] by rw [← hw1]; exact Blk.new w _ _)
  have HW1 := hid hw1
  have HSL := hid hh
  have HNN := hid hn
  have HSS := hid hs
  have HL := hid hL
  have HSZ := hid hx
  have c0 := HB1.out.cell 0
  have c1 := HB1.out.cell 1
  have c2 := HB1.out.cell 2
  have c3 := HB1.out.cell 3
  simp at c0 c1 c2 c3
  clear hAt hr hm hw1 hh hn hs hL hx hk
  have HT := hid (form_t 2 n s l (by omega))
  have HE := hid (fun h => @wrong_no 2 n s l h (by omega) (by omega) (by omega) (by omega))
  rw [HM.out] at HT
  go_enter Tryd.func73, Tryd.ntmps73
  go_wp2_with fail
  rw [HW1.out]
  go_wp2_with fail
  all_goals
    go_ret
    refine ⟨?_, by first | exact HF1.out | (rw [HW1.out]; exact HF1.out)⟩
    rw [← HR.out]
    first
      | (rw [HE.out (HT.out.2 (by simp_all))]; rfl)
      | (rw [HE.out (HT.out.2 (by simp_all)), if_pos (by omega)]; rfl)
      | (rw [HE.out (HT.out.2 (by simp_all)), if_neg (by omega)]; rfl)
      | (rw [wv11 (formF (fun h => by have := HT.out.1 h; simp_all))]; rfl)

set_option maxRecDepth 20000 in
set_option maxHeartbeats 8000000 in
theorem wr_4 (n : Nat) (s : ByteArray) (l : List It) (hx : (It.mk 4 n s l).size ≤ 2000000) (lo hi : Nat) (cs : List Value) (w : World) (hh : hi ≤ w.heap.size) (h : ItAt w lo hi (It.mk 4 n s l) cs) :
    Calls Tryd.prog 73 #[.agg cs.toArray] w fun e w' => e = .returned (.int .i64 (It.mk 4 n s l).wrong) ∧ Fr (fun _ => False) w w' := by
  have hAt := h
  obtain ⟨A, c, rfl, hc, hk, hn, hs, hl, hL⟩ := h
  obtain ⟨r, hr⟩ : ∃ r, (It.mk 4 n s l).wrong = r := ⟨_, rfl⟩
  rw [hr]
  have HR := hid hr
  obtain ⟨m, hm⟩ : ∃ m, l.length = m := ⟨_, rfl⟩
  have HM := hid hm
  have HAT := hid hAt
  rw [hm] at hc hl HAT ⊢
  obtain ⟨w1, hw1⟩ : ∃ w1, w.alloc (.cells #[.int .i64 4, .int .u64 n, .string s, .slice A m c] 25) = w1 := ⟨_, rfl⟩
  have HF1 := hid (show Fr (fun _ => False) w w1 by rw [← hw1]; exact (Fr.refl _ w).alloc _)
  have HB1 := hid (show Blk w1 w.heap.size 25 #[.int .i64 4, .int .u64 n, .string s, .slice A m c] by rw [← hw1]; exact Blk.new w _ _)
  have HW1 := hid hw1
  have HSL := hid hh
  have HNN := hid hn
  have HSS := hid hs
  have HL := hid hL
  have HSZ := hid hx
  have c0 := HB1.out.cell 0
  have c1 := HB1.out.cell 1
  have c2 := HB1.out.cell 2
  have c3 := HB1.out.cell 3
  simp at c0 c1 c2 c3
  clear hAt hr hm hw1 hh hn hs hL hx hk
  have HT := hid (form_t 4 n s l (by omega))
  have HE := hid (fun h => @wrong_no 4 n s l h (by omega) (by omega) (by omega) (by omega))
  rw [HM.out] at HT
  go_enter Tryd.func73, Tryd.ntmps73
  go_wp2_with fail
  rw [HW1.out]
  go_wp2_with fail
  all_goals
    go_ret
    refine ⟨?_, by first | exact HF1.out | (rw [HW1.out]; exact HF1.out)⟩
    rw [← HR.out]
    first
      | (rw [HE.out (HT.out.2 (by simp_all))]; rfl)
      | (rw [HE.out (HT.out.2 (by simp_all)), if_pos (by omega)]; rfl)
      | (rw [HE.out (HT.out.2 (by simp_all)), if_neg (by omega)]; rfl)
      | (rw [wv11 (formF (fun h => by have := HT.out.1 h; simp_all))]; rfl)

set_option maxRecDepth 20000 in
set_option maxHeartbeats 8000000 in
theorem wr_6 (n : Nat) (s : ByteArray) (l : List It) (hx : (It.mk 6 n s l).size ≤ 2000000) (lo hi : Nat) (cs : List Value) (w : World) (hh : hi ≤ w.heap.size) (h : ItAt w lo hi (It.mk 6 n s l) cs) :
    Calls Tryd.prog 73 #[.agg cs.toArray] w fun e w' => e = .returned (.int .i64 (It.mk 6 n s l).wrong) ∧ Fr (fun _ => False) w w' := by
  have hAt := h
  obtain ⟨A, c, rfl, hc, hk, hn, hs, hl, hL⟩ := h
  obtain ⟨r, hr⟩ : ∃ r, (It.mk 6 n s l).wrong = r := ⟨_, rfl⟩
  rw [hr]
  have HR := hid hr
  obtain ⟨m, hm⟩ : ∃ m, l.length = m := ⟨_, rfl⟩
  have HM := hid hm
  have HAT := hid hAt
  rw [hm] at hc hl HAT ⊢
  obtain ⟨w1, hw1⟩ : ∃ w1, w.alloc (.cells #[.int .i64 6, .int .u64 n, .string s, .slice A m c] 25) = w1 := ⟨_, rfl⟩
  have HF1 := hid (show Fr (fun _ => False) w w1 by rw [← hw1]; exact (Fr.refl _ w).alloc _)
  have HB1 := hid (show Blk w1 w.heap.size 25 #[.int .i64 6, .int .u64 n, .string s, .slice A m c] by rw [← hw1]; exact Blk.new w _ _)
  have HW1 := hid hw1
  have HSL := hid hh
  have HNN := hid hn
  have HSS := hid hs
  have HL := hid hL
  have HSZ := hid hx
  have c0 := HB1.out.cell 0
  have c1 := HB1.out.cell 1
  have c2 := HB1.out.cell 2
  have c3 := HB1.out.cell 3
  simp at c0 c1 c2 c3
  clear hAt hr hm hw1 hh hn hs hL hx hk
  have HT := hid (form_t 6 n s l (by omega))
  have HE := hid (fun h => @wrong_no 6 n s l h (by omega) (by omega) (by omega) (by omega))
  rw [HM.out] at HT
  go_enter Tryd.func73, Tryd.ntmps73
  go_wp2_with fail
  rw [HW1.out]
  go_wp2_with fail
  all_goals
    go_ret
    refine ⟨?_, by first | exact HF1.out | (rw [HW1.out]; exact HF1.out)⟩
    rw [← HR.out]
    first
      | (rw [HE.out (HT.out.2 (by simp_all))]; rfl)
      | (rw [HE.out (HT.out.2 (by simp_all)), if_pos (by omega)]; rfl)
      | (rw [HE.out (HT.out.2 (by simp_all)), if_neg (by omega)]; rfl)
      | (rw [wv11 (formF (fun h => by have := HT.out.1 h; simp_all))]; rfl)

set_option maxRecDepth 20000 in
set_option maxHeartbeats 8000000 in
theorem wr_7 (n : Nat) (s : ByteArray) (l : List It) (hx : (It.mk 7 n s l).size ≤ 2000000) (lo hi : Nat) (cs : List Value) (w : World) (hh : hi ≤ w.heap.size) (h : ItAt w lo hi (It.mk 7 n s l) cs) :
    Calls Tryd.prog 73 #[.agg cs.toArray] w fun e w' => e = .returned (.int .i64 (It.mk 7 n s l).wrong) ∧ Fr (fun _ => False) w w' := by
  have hAt := h
  obtain ⟨A, c, rfl, hc, hk, hn, hs, hl, hL⟩ := h
  obtain ⟨r, hr⟩ : ∃ r, (It.mk 7 n s l).wrong = r := ⟨_, rfl⟩
  rw [hr]
  have HR := hid hr
  obtain ⟨m, hm⟩ : ∃ m, l.length = m := ⟨_, rfl⟩
  have HM := hid hm
  have HAT := hid hAt
  rw [hm] at hc hl HAT ⊢
  obtain ⟨w1, hw1⟩ : ∃ w1, w.alloc (.cells #[.int .i64 7, .int .u64 n, .string s, .slice A m c] 25) = w1 := ⟨_, rfl⟩
  have HF1 := hid (show Fr (fun _ => False) w w1 by rw [← hw1]; exact (Fr.refl _ w).alloc _)
  have HB1 := hid (show Blk w1 w.heap.size 25 #[.int .i64 7, .int .u64 n, .string s, .slice A m c] by rw [← hw1]; exact Blk.new w _ _)
  have HW1 := hid hw1
  have HSL := hid hh
  have HNN := hid hn
  have HSS := hid hs
  have HL := hid hL
  have HSZ := hid hx
  have c0 := HB1.out.cell 0
  have c1 := HB1.out.cell 1
  have c2 := HB1.out.cell 2
  have c3 := HB1.out.cell 3
  simp at c0 c1 c2 c3
  clear hAt hr hm hw1 hh hn hs hL hx hk
  have HT := hid (form_t 7 n s l (by omega))
  have HE := hid (fun h => @wrong_7 n s l h)
  rw [HM.out] at HT
  go_enter Tryd.func73, Tryd.ntmps73
  go_wp2_with fail
  rw [HW1.out]
  go_wp2_with fail
  all_goals
    go_ret
    refine ⟨?_, by first | exact HF1.out | (rw [HW1.out]; exact HF1.out)⟩
    rw [← HR.out]
    first
      | (rw [HE.out (HT.out.2 (by simp_all))]; rfl)
      | (rw [HE.out (HT.out.2 (by simp_all)), if_pos (by omega)]; rfl)
      | (rw [HE.out (HT.out.2 (by simp_all)), if_neg (by omega)]; rfl)
      | (rw [wv11 (formF (fun h => by have := HT.out.1 h; simp_all))]; rfl)
end Go.Proofs.YtkmgiodhaaajjaaDoor.ItemV
