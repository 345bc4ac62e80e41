/- Layer item: the document's word for what is wrong with an item by itself: kinds without a call. Layer item: the document's word: no kind at all. Layer item: the document's word: texts. Layer item: the document's word: maps. Layer item: the document's word: doubles. -/
import Derived.Test.YtkmgiodhaaajjaaDoorItemU
import Derived.Test.YtkmgiodhaaajjaaDoorItemCE
import Derived.Test.YtkmgiodhaaajjaaDoorUtfD
set_option linter.unusedVariables false
set_option linter.unusedSimpArgs false
namespace Go.Proofs.YtkmgiodhaaajjaaDoor.ItemV
open Go.IntWalk Go.RowKit Go.Proofs.YtkmgiodhaaajjaaDoor.Mem Go.Proofs.YtkmgiodhaaajjaaDoor.App Go.Proofs.YtkmgiodhaaajjaaDoor.UtfP Go.Proofs.YtkmgiodhaaajjaaDoor.FloatP Go.Proofs.YtkmgiodhaaajjaaDoor.ItemP Go.Proofs.YtkmgiodhaaajjaaDoor.ItemM Go.Proofs.YtkmgiodhaaajjaaDoor.Own Go.Proofs.YtkmgiodhaaajjaaDoor.ItemA Go.Proofs.YtkmgiodhaaajjaaDoor.ItemB Go.Proofs.YtkmgiodhaaajjaaDoor.ItemC Go.Proofs.YtkmgiodhaaajjaaDoor.ItemD Go.Proofs.YtkmgiodhaaajjaaDoor.ItemE Go.Proofs.YtkmgiodhaaajjaaDoor.Range Go.Proofs.YtkmgiodhaaajjaaDoor.ItemT Go.Proofs.YtkmgiodhaaajjaaDoor.ItemU

theorem form_t (k : Int) (n : Nat) (s : ByteArray) (l : List It) (h : 0 ≤ k ∧ k ≤ 8) : (It.mk k n s l).form = true ↔
    ((k = 2 ∨ k = 3 ∨ s.toList = []) ∧ (k = 2 ∨ k = 3 ∨ k = 4 ∨ k = 5 → (n : Int) = 0) ∧ (k = 6 → (l.length : Int) = 1) ∧ (k = 5 → (l.length : Int) % 2 = 0) ∧ (k ≠ 4 → k ≠ 5 → k ≠ 6 → (l.length : Int) = 0)) := by
  rw [emp_iff]
  rcases form_kind k with (rfl | rfl | rfl | rfl) | (rfl | rfl) | rfl | rfl | rfl | h'
  all_goals
    simp only [It.form]
    generalize s.size = z
    generalize l.length = m
    first
      | omega
      | (simp; done)
      | (simp; omega)
/-- The wrong forms all are 11. -/
theorem wv11 {k : Int} {n : Nat} {s : ByteArray} {l : List It} (h : (It.mk k n s l).form = false) : (It.mk k n s l).wrong = 11 := wrong_form h
theorem formF {k : Int} {n : Nat} {s : ByteArray} {l : List It} (h : ¬ (It.mk k n s l).form = true) : (It.mk k n s l).form = false := by simpa using h

set_option maxRecDepth 20000 in
set_option maxHeartbeats 8000000 in
theorem wr_0 (n : Nat) (s : ByteArray) (l : List It) (hx : (It.mk 0 n s l).size ≤ 2000000) (lo hi : Nat) (cs : List Value) (w : World) (hh : hi ≤ w.heap.size) (h : ItAt w lo hi (It.mk 0 n s l) cs) :
    Calls Tryd.prog 73 #[.agg cs.toArray] w fun e w' => e = .returned (.int .i64 (It.mk 0 n s l).wrong) ∧ Fr (fun _ => False) w w' := by
  have hAt := h
  obtain ⟨A, c, rfl, hc, hk, hn, hs, hl, hL⟩ := h
  obtain ⟨r, hr⟩ : ∃ r, (It.mk 0 n s l).wrong = r := ⟨_, rfl⟩
  rw [hr]
  have HR := hid hr
  obtain ⟨m, hm⟩ : ∃ m, l.length = m := ⟨_, rfl⟩
  have HM := hid hm
  have HAT := hid hAt
  rw [hm] at hc hl HAT ⊢
  obtain ⟨w1, hw1⟩ : ∃ w1, w.alloc (.cells #[.int .i64 0, .int .u64 n, .string s, .slice A m c] 25) = w1 := ⟨_, rfl⟩
  have HF1 := hid (show Fr (fun _ => False) w w1 by rw [← hw1]; exact (Fr.refl _ w).alloc _)
  have HB1 := hid (show Blk w1 w.heap.size 25 #[.int .i64 0, .int .u64 n, .string s, .slice A m c] by rw [← hw1]; exact Blk.new w _ _)
  have HW1 := hid hw1
  have HSL := hid hh
  have HNN := hid hn
  have HSS := hid hs
  have HL := hid hL
  have HSZ := hid hx
  have c0 := HB1.out.cell 0
  have c1 := HB1.out.cell 1
  have c2 := HB1.out.cell 2
  have c3 := HB1.out.cell 3
  simp at c0 c1 c2 c3
  clear hAt hr hm hw1 hh hn hs hL hx hk
  have HT := hid (form_t 0 n s l (by omega))
  have HE := hid (fun h => @wrong_no 0 n s l h (by omega) (by omega) (by omega) (by omega))
  rw [HM.out] at HT
  go_enter Tryd.func73, Tryd.ntmps73
  go_wp2_with fail
  rw [HW1.out]
  go_wp2_with fail
  all_goals
    go_ret
    refine ⟨?_, by first | exact HF1.out | (rw [HW1.out]; exact HF1.out)⟩
    rw [← HR.out]
    first
      | (rw [HE.out (HT.out.2 (by simp_all))]; rfl)
      | (rw [HE.out (HT.out.2 (by simp_all)), if_pos (by omega)]; rfl)
      | (rw [HE.out (HT.out.2 (by simp_all)), if_neg (by omega)]; rfl)
      | (rw [wv11 (formF (fun h => by have := HT.out.1 h; simp_all))]; rfl)

set_option maxRecDepth 20000 in
set_option maxHeartbeats 8000000 in
theorem wr_1 (n : Nat) (s : ByteArray) (l : List It) (hx : (It.mk 1 n s l).size ≤ 2000000) (lo hi : Nat) (cs : List Value) (w : World) (hh : hi ≤ w.heap.size) (h : ItAt w lo hi (It.mk 1 n s l) cs) :
    Calls Tryd.prog 73 #[.agg cs.toArray] w fun e w' => e = .returned (.int .i64 (It.mk 1 n s l).wrong) ∧ Fr (fun _ => False) w w' := by
  have hAt := h
  obtain ⟨A, c, rfl, hc, hk, hn, hs, hl, hL⟩ := h
  obtain ⟨r, hr⟩ : ∃ r, (It.mk 1 n s l).wrong = r := ⟨_, rfl⟩
  rw [hr]
  have HR := hid hr
  obtain ⟨m, hm⟩ : ∃ m, l.length = m := ⟨_, rfl⟩
  have HM := hid hm
  have HAT := hid hAt
  rw [hm] at hc hl HAT ⊢
  obtain ⟨w1, hw1⟩ : ∃ w1, w.alloc (.cells #[.int .i64 1, .int .u64 n, .string s, .slice A m c] 25) = w1 := ⟨_, rfl⟩
  have HF1 := hid (show Fr (fun _ => False) w w1 by rw [← hw1]; exact (Fr.refl _ w).alloc _)
  have HB1 := hid (show Blk w1 w.heap.size 25 #[.int .i64 1, .int .u64 n, .string s, .slice A m c] by rw [← hw1]; exact Blk.new w _ _)
  have HW1 := hid hw1
  have HSL := hid hh
  have HNN := hid hn
  have HSS := hid hs
  have HL := hid hL
  have HSZ := hid hx
  have c0 := HB1.out.cell 0
  have c1 := HB1.out.cell 1
  have c2 := HB1.out.cell 2
  have c3 := HB1.out.cell 3
  simp at c0 c1 c2 c3
  clear hAt hr hm hw1 hh hn hs hL hx hk
  have HT := hid (form_t 1 n s l (by omega))
  have HE := hid (fun h => @wrong_no 1 n s l h (by omega) (by omega) (by omega) (by omega))
  rw [HM.out] at HT
  go_enter Tryd.func73, Tryd.ntmps73
  go_wp2_with fail
  rw [HW1.out]
  go_wp2_with fail
  all_goals
    go_ret
    refine ⟨?_, by first | exact HF1.out | (rw [HW1.out]; exact HF1.out)⟩
    rw [← HR.out]
    first
      | (rw [HE.out (HT.out.2 (by simp_all))]; rfl)
      | (rw [HE.out (HT.out.2 (by simp_all)), if_pos (by omega)]; rfl)
      | (rw [HE.out (HT.out.2 (by simp_all)), if_neg (by omega)]; rfl)
      | (rw [wv11 (formF (fun h => by have := HT.out.1 h; simp_all))]; rfl)

set_option maxRecDepth 20000 in
set_option maxHeartbeats 8000000 in
theorem wr_2 (n : Nat) (s : ByteArray) (l : List It) (hx : (It.mk 2 n s l).size ≤ 2000000) (lo hi : Nat) (cs : List Value) (w : World) (hh : hi ≤ w.heap.size) (h : ItAt w lo hi (It.mk 2 n s l) cs) :
    Calls Tryd.prog 73 #[.agg cs.toArray] w fun e w' => e = .returned (.int .i64 (It.mk 2 n s l).wrong) ∧ Fr (fun _ => False) w w' := by
  have hAt := h
  obtain ⟨A, c, rfl, hc, hk, hn, hs, hl, hL⟩ := h
  obtain ⟨r, hr⟩ : ∃ r, (It.mk 2 n s l).wrong = r := ⟨_, rfl⟩
  rw [hr]
  have HR := hid hr
  obtain ⟨m, hm⟩ : ∃ m, l.length = m := ⟨_, rfl⟩
  have HM := hid hm
  have HAT := hid hAt
  rw [hm] at hc hl HAT ⊢
  obtain ⟨w1, hw1⟩ : ∃ w1, w.alloc (.cells #[.int .i64 2, .int .u64 n, .string s, .slice A m c] 25) = w1 := ⟨_, rfl⟩
  have HF1 := hid (show Fr (fun _ => False) w w1 by rw [← hw1]; exact (Fr.refl _ w).alloc _)
  have HB1 := hid (show Blk w1 w.heap.size 25 #[.int .i64 2, .int .u64 n, .string s, .slice A m c] by rw [← hw1]; exact Blk.new w _ _)
  have HW1 := hid hw1
  have HSL := hid hh
  have HNN := hid hn
  have HSS := hid hs
  have HL := hid hL
  have HSZ := hid hx
  have c0 := HB1.out.cell 0
  have c1 := HB1.out.cell 1
  have c2 := HB1.out.cell 2
  have c3 := HB1.out.cell 3
  simp at c0 c1 c2 c3
  clear hAt hr hm hw1 hh hn hs hL hx hk
  have HT := hid (form_t 2 n s l (by omega))
  have HE := hid (fun h => @wrong_no 2 n s l h (by omega) (by omega) (by omega) (by omega))
  rw [HM.out] at HT
  go_enter Tryd.func73, Tryd.ntmps73
  go_wp2_with fail
  rw [HW1.out]
  go_wp2_with fail
  all_goals
    go_ret
    refine ⟨?_, by first | exact HF1.out | (rw [HW1.out]; exact HF1.out)⟩
    rw [← HR.out]
    first
      | (rw [HE.out (HT.out.2 (by simp_all))]; rfl)
      | (rw [HE.out (HT.out.2 (by simp_all)), if_pos (by omega)]; rfl)
      | (rw [HE.out (HT.out.2 (by simp_all)), if_neg (by omega)]; rfl)
      | (rw [wv11 (formF (fun h => by have := HT.out.1 h; simp_all))]; rfl)

set_option maxRecDepth 20000 in
set_option maxHeartbeats 8000000 in
theorem wr_4 (n : Nat) (s : ByteArray) (l : List It) (hx : (It.mk 4 n s l).size ≤ 2000000) (lo hi : Nat) (cs : List Value) (w : World) (hh : hi ≤ w.heap.size) (h : ItAt w lo hi (It.mk 4 n s l) cs) :
    Calls Tryd.prog 73 #[.agg cs.toArray] w fun e w' => e = .returned (.int .i64 (It.mk 4 n s l).wrong) ∧ Fr (fun _ => False) w w' := by
  have hAt := h
  obtain ⟨A, c, rfl, hc, hk, hn, hs, hl, hL⟩ := h
  obtain ⟨r, hr⟩ : ∃ r, (It.mk 4 n s l).wrong = r := ⟨_, rfl⟩
  rw [hr]
  have HR := hid hr
  obtain ⟨m, hm⟩ : ∃ m, l.length = m := ⟨_, rfl⟩
  have HM := hid hm
  have HAT := hid hAt
  rw [hm] at hc hl HAT ⊢
  obtain ⟨w1, hw1⟩ : ∃ w1, w.alloc (.cells #[.int .i64 4, .int .u64 n, .string s, .slice A m c] 25) = w1 := ⟨_, rfl⟩
  have HF1 := hid (show Fr (fun _ => False) w w1 by rw [← hw1]; exact (Fr.refl _ w).alloc _)
  have HB1 := hid (show Blk w1 w.heap.size 25 #[.int .i64 4, .int .u64 n, .string s, .slice A m c] by rw [← hw1]; exact Blk.new w _ _)
  have HW1 := hid hw1
  have HSL := hid hh
  have HNN := hid hn
  have HSS := hid hs
  have HL := hid hL
  have HSZ := hid hx
  have c0 := HB1.out.cell 0
  have c1 := HB1.out.cell 1
  have c2 := HB1.out.cell 2
  have c3 := HB1.out.cell 3
  simp at c0 c1 c2 c3
  clear hAt hr hm hw1 hh hn hs hL hx hk
  have HT := hid (form_t 4 n s l (by omega))
  have HE := hid (fun h => @wrong_no 4 n s l h (by omega) (by omega) (by omega) (by omega))
  rw [HM.out] at HT
  go_enter Tryd.func73, Tryd.ntmps73
  go_wp2_with fail
  rw [HW1.out]
  go_wp2_with fail
  all_goals
    go_ret
    refine ⟨?_, by first | exact HF1.out | (rw [HW1.out]; exact HF1.out)⟩
    rw [← HR.out]
    first
      | (rw [HE.out (HT.out.2 (by simp_all))]; rfl)
      | (rw [HE.out (HT.out.2 (by simp_all)), if_pos (by omega)]; rfl)
      | (rw [HE.out (HT.out.2 (by simp_all)), if_neg (by omega)]; rfl)
      | (rw [wv11 (formF (fun h => by have := HT.out.1 h; simp_all))]; rfl)

set_option maxRecDepth 20000 in
set_option maxHeartbeats 8000000 in
theorem wr_6 (n : Nat) (s : ByteArray) (l : List It) (hx : (It.mk 6 n s l).size ≤ 2000000) (lo hi : Nat) (cs : List Value) (w : World) (hh : hi ≤ w.heap.size) (h : ItAt w lo hi (It.mk 6 n s l) cs) :
    Calls Tryd.prog 73 #[.agg cs.toArray] w fun e w' => e = .returned (.int .i64 (It.mk 6 n s l).wrong) ∧ Fr (fun _ => False) w w' := by
  have hAt := h
  obtain ⟨A, c, rfl, hc, hk, hn, hs, hl, hL⟩ := h
  obtain ⟨r, hr⟩ : ∃ r, (It.mk 6 n s l).wrong = r := ⟨_, rfl⟩
  rw [hr]
  have HR := hid hr
  obtain ⟨m, hm⟩ : ∃ m, l.length = m := ⟨_, rfl⟩
  have HM := hid hm
  have HAT := hid hAt
  rw [hm] at hc hl HAT ⊢
  obtain ⟨w1, hw1⟩ : ∃ w1, w.alloc (.cells #[.int .i64 6, .int .u64 n, .string s, .slice A m c] 25) = w1 := ⟨_, rfl⟩
  have HF1 := hid (show Fr (fun _ => False) w w1 by rw [← hw1]; exact (Fr.refl _ w).alloc _)
  have HB1 := hid (show Blk w1 w.heap.size 25 #[.int .i64 6, .int .u64 n, .string s, .slice A m c] by rw [← hw1]; exact Blk.new w _ _)
  have HW1 := hid hw1
  have HSL := hid hh
  have HNN := hid hn
  have HSS := hid hs
  have HL := hid hL
  have HSZ := hid hx
  have c0 := HB1.out.cell 0
  have c1 := HB1.out.cell 1
  have c2 := HB1.out.cell 2
  have c3 := HB1.out.cell 3
  simp at c0 c1 c2 c3
  clear hAt hr hm hw1 hh hn hs hL hx hk
  have HT := hid (form_t 6 n s l (by omega))
  have HE := hid (fun h => @wrong_no 6 n s l h (by omega) (by omega) (by omega) (by omega))
  rw [HM.out] at HT
  go_enter Tryd.func73, Tryd.ntmps73
  go_wp2_with fail
  rw [HW1.out]
  go_wp2_with fail
  all_goals
    go_ret
    refine ⟨?_, by first | exact HF1.out | (rw [HW1.out]; exact HF1.out)⟩
    rw [← HR.out]
    first
      | (rw [HE.out (HT.out.2 (by simp_all))]; rfl)
      | (rw [HE.out (HT.out.2 (by simp_all)), if_pos (by omega)]; rfl)
      | (rw [HE.out (HT.out.2 (by simp_all)), if_neg (by omega)]; rfl)
      | (rw [wv11 (formF (fun h => by have := HT.out.1 h; simp_all))]; rfl)

set_option maxRecDepth 20000 in
set_option maxHeartbeats 8000000 in
theorem wr_7 (n : Nat) (s : ByteArray) (l : List It) (hx : (It.mk 7 n s l).size ≤ 2000000) (lo hi : Nat) (cs : List Value) (w : World) (hh : hi ≤ w.heap.size) (h : ItAt w lo hi (It.mk 7 n s l) cs) :
    Calls Tryd.prog 73 #[.agg cs.toArray] w fun e w' => e = .returned (.int .i64 (It.mk 7 n s l).wrong) ∧ Fr (fun _ => False) w w' := by
  have hAt := h
  obtain ⟨A, c, rfl, hc, hk, hn, hs, hl, hL⟩ := h
  obtain ⟨r, hr⟩ : ∃ r, (It.mk 7 n s l).wrong = r := ⟨_, rfl⟩
  rw [hr]
  have HR := hid hr
  obtain ⟨m, hm⟩ : ∃ m, l.length = m := ⟨_, rfl⟩
  have HM := hid hm
  have HAT := hid hAt
  rw [hm] at hc hl HAT ⊢
  obtain ⟨w1, hw1⟩ : ∃ w1, w.alloc (.cells #[.int .i64 7, .int .u64 n, .string s, .slice A m c] 25) = w1 := ⟨_, rfl⟩
  have HF1 := hid (show Fr (fun _ => False) w w1 by rw [← hw1]; exact (Fr.refl _ w).alloc _)
  have HB1 := hid (show Blk w1 w.heap.size 25 #[.int .i64 7, .int .u64 n, .string s, .slice A m c] by rw [← hw1]; exact Blk.new w _ _)
  have HW1 := hid hw1
  have HSL := hid hh
  have HNN := hid hn
  have HSS := hid hs
  have HL := hid hL
  have HSZ := hid hx
  have c0 := HB1.out.cell 0
  have c1 := HB1.out.cell 1
  have c2 := HB1.out.cell 2
  have c3 := HB1.out.cell 3
  simp at c0 c1 c2 c3
  clear hAt hr hm hw1 hh hn hs hL hx hk
  have HT := hid (form_t 7 n s l (by omega))
  have HE := hid (fun h => @wrong_7 n s l h)
  rw [HM.out] at HT
  go_enter Tryd.func73, Tryd.ntmps73
  go_wp2_with fail
  rw [HW1.out]
  go_wp2_with fail
  all_goals
    go_ret
    refine ⟨?_, by first | exact HF1.out | (rw [HW1.out]; exact HF1.out)⟩
    rw [← HR.out]
    first
      | (rw [HE.out (HT.out.2 (by simp_all))]; rfl)
      | (rw [HE.out (HT.out.2 (by simp_all)), if_pos (by omega)]; rfl)
      | (rw [HE.out (HT.out.2 (by simp_all)), if_neg (by omega)]; rfl)
      | (rw [wv11 (formF (fun h => by have := HT.out.1 h; simp_all))]; rfl)
end Go.Proofs.YtkmgiodhaaajjaaDoor.ItemV

namespace Go.Proofs.YtkmgiodhaaajjaaDoor.ItemVn
open Go.IntWalk Go.RowKit Go.Proofs.YtkmgiodhaaajjaaDoor.Mem Go.Proofs.YtkmgiodhaaajjaaDoor.App Go.Proofs.YtkmgiodhaaajjaaDoor.UtfP Go.Proofs.YtkmgiodhaaajjaaDoor.FloatP Go.Proofs.YtkmgiodhaaajjaaDoor.ItemP Go.Proofs.YtkmgiodhaaajjaaDoor.ItemM Go.Proofs.YtkmgiodhaaajjaaDoor.Own Go.Proofs.YtkmgiodhaaajjaaDoor.ItemA Go.Proofs.YtkmgiodhaaajjaaDoor.ItemB Go.Proofs.YtkmgiodhaaajjaaDoor.ItemC Go.Proofs.YtkmgiodhaaajjaaDoor.ItemD Go.Proofs.YtkmgiodhaaajjaaDoor.ItemE Go.Proofs.YtkmgiodhaaajjaaDoor.Range Go.Proofs.YtkmgiodhaaajjaaDoor.ItemT Go.Proofs.YtkmgiodhaaajjaaDoor.ItemU Go.Proofs.YtkmgiodhaaajjaaDoor.ItemV

set_option maxRecDepth 20000 in
set_option maxHeartbeats 8000000 in
theorem wr_n (k : Int) (hkk : k < 0 ∨ 8 < k) (n : Nat) (s : ByteArray) (l : List It) (hx : (It.mk k n s l).size ≤ 2000000) (lo hi : Nat) (cs : List Value) (w : World) (hh : hi ≤ w.heap.size) (h : ItAt w lo hi (It.mk k n s l) cs) :
    Calls Tryd.prog 73 #[.agg cs.toArray] w fun e w' => e = .returned (.int .i64 (It.mk k n s l).wrong) ∧ Fr (fun _ => False) w w' := by
  have hAt := h
  obtain ⟨A, c, rfl, hc, hk, hn, hs, hl, hL⟩ := h
  obtain ⟨r, hr⟩ : ∃ r, (It.mk k n s l).wrong = r := ⟨_, rfl⟩
  rw [hr]
  have HR := hid hr
  obtain ⟨m, hm⟩ : ∃ m, l.length = m := ⟨_, rfl⟩
  have HM := hid hm
  have HAT := hid hAt
  rw [hm] at hc hl HAT ⊢
  obtain ⟨w1, hw1⟩ : ∃ w1, w.alloc (.cells #[.int .i64 k, .int .u64 n, .string s, .slice A m c] 25) = w1 := ⟨_, rfl⟩
  have HF1 := hid (show Fr (fun _ => False) w w1 by rw [← hw1]; exact (Fr.refl _ w).alloc _)
  have HB1 := hid (show Blk w1 w.heap.size 25 #[.int .i64 k, .int .u64 n, .string s, .slice A m c] by rw [← hw1]; exact Blk.new w _ _)
  have HW1 := hid hw1
  have HSL := hid hh
  have HNN := hid hn
  have HSS := hid hs
  have HL := hid hL
  have HSZ := hid hx
  have c0 := HB1.out.cell 0
  have c1 := HB1.out.cell 1
  have c2 := HB1.out.cell 2
  have c3 := HB1.out.cell 3
  simp at c0 c1 c2 c3
  clear hAt hr hm hw1 hh hn hs hL hx hk
  have HRE := hid (show r = 11 by rw [← HR.out]; exact wv11 (form_no (by omega) n s l))
  rcases hkk with hkk | hkk
  · go_enter Tryd.func73, Tryd.ntmps73
    go_wp2_with fail
    rw [HW1.out]
    go_wp2_with fail
    go_ret
    exact ⟨by rw [HRE.out]; rfl, HF1.out⟩
  · have hk0 : ¬ k < 0 := by omega
    go_enter Tryd.func73, Tryd.ntmps73
    go_wp2_with fail
    rw [HW1.out]
    go_wp2_with fail
    go_ret
    exact ⟨by rw [HRE.out]; rfl, HF1.out⟩
end Go.Proofs.YtkmgiodhaaajjaaDoor.ItemVn

namespace Go.Proofs.YtkmgiodhaaajjaaDoor.ItemV3
open Go.IntWalk Go.RowKit Go.Proofs.YtkmgiodhaaajjaaDoor.Mem Go.Proofs.YtkmgiodhaaajjaaDoor.App Go.Proofs.YtkmgiodhaaajjaaDoor.UtfP Go.Proofs.YtkmgiodhaaajjaaDoor.FloatP Go.Proofs.YtkmgiodhaaajjaaDoor.ItemP Go.Proofs.YtkmgiodhaaajjaaDoor.ItemM Go.Proofs.YtkmgiodhaaajjaaDoor.Own Go.Proofs.YtkmgiodhaaajjaaDoor.ItemA Go.Proofs.YtkmgiodhaaajjaaDoor.ItemB Go.Proofs.YtkmgiodhaaajjaaDoor.ItemC Go.Proofs.YtkmgiodhaaajjaaDoor.ItemD Go.Proofs.YtkmgiodhaaajjaaDoor.ItemE Go.Proofs.YtkmgiodhaaajjaaDoor.Range Go.Proofs.YtkmgiodhaaajjaaDoor.ItemT Go.Proofs.YtkmgiodhaaajjaaDoor.ItemU Go.Proofs.YtkmgiodhaaajjaaDoor.ItemV

set_option maxRecDepth 20000 in
set_option maxHeartbeats 8000000 in
theorem wr_3 (n : Nat) (s : ByteArray) (l : List It) (hx : (It.mk 3 n s l).size ≤ 2000000) (lo hi : Nat) (cs : List Value) (w : World) (hh : hi ≤ w.heap.size) (h : ItAt w lo hi (It.mk 3 n s l) cs) :
    Calls Tryd.prog 73 #[.agg cs.toArray] w fun e w' => e = .returned (.int .i64 (It.mk 3 n s l).wrong) ∧ Fr (fun _ => False) w w' := by
  have hAt := h
  obtain ⟨A, c, rfl, hc, hk, hn, hs, hl, hL⟩ := h
  obtain ⟨r, hr⟩ : ∃ r, (It.mk 3 n s l).wrong = r := ⟨_, rfl⟩
  rw [hr]
  have HR := hid hr
  obtain ⟨m, hm⟩ : ∃ m, l.length = m := ⟨_, rfl⟩
  have HM := hid hm
  have HAT := hid hAt
  rw [hm] at hc hl HAT ⊢
  obtain ⟨w1, hw1⟩ : ∃ w1, w.alloc (.cells #[.int .i64 3, .int .u64 n, .string s, .slice A m c] 25) = w1 := ⟨_, rfl⟩
  have HF1 := hid (show Fr (fun _ => False) w w1 by rw [← hw1]; exact (Fr.refl _ w).alloc _)
  have HB1 := hid (show Blk w1 w.heap.size 25 #[.int .i64 3, .int .u64 n, .string s, .slice A m c] by rw [← hw1]; exact Blk.new w _ _)
  have HW1 := hid hw1
  have HSL := hid hh
  have HNN := hid hn
  have HSS := hid hs
  have HL := hid hL
  have HSZ := hid hx
  have c0 := HB1.out.cell 0
  have c1 := HB1.out.cell 1
  have c2 := HB1.out.cell 2
  have c3 := HB1.out.cell 3
  simp at c0 c1 c2 c3
  clear hAt hr hm hw1 hh hn hs hL hx hk
  obtain ⟨fs, hfs⟩ : ∃ fs, firstS s = fs := ⟨_, rfl⟩
  obtain ⟨b, hb⟩ : ∃ b, validS s = b := ⟨_, rfl⟩
  have HT := hid (form_t 3 n s l (by omega))
  have HE := hid (fun h => @wrong_3 n s l h)
  rw [HM.out] at HT
  have HC := hid (fun w => UtfD.reffirst_calls s w HSS.out)
  rw [hfs, hb] at HC
  rw [hb] at HE
  clear hfs hb
  cases b
  all_goals
    go_enter Tryd.func73, Tryd.ntmps73
    go_wp2_with fail
    rw [HW1.out]
    go_wp2_with (refine (HC.out _).mono ?_; rintro e w' ⟨rfl, rfl⟩)
    all_goals
      go_ret
      refine ⟨?_, by first | exact HF1.out | (rw [HW1.out]; exact HF1.out)⟩
      rw [← HR.out]
      first
        | (rw [HE.out (HT.out.2 (by simp_all)), if_pos (by first | rfl | trivial)]; rfl)
        | (rw [HE.out (HT.out.2 (by simp_all)), if_neg (by simp)]; rfl)
        | (rw [wv11 (formF (fun h => by have := HT.out.1 h; simp_all))]; rfl)
end Go.Proofs.YtkmgiodhaaajjaaDoor.ItemV3

namespace Go.Proofs.YtkmgiodhaaajjaaDoor.ItemV5
open Go.IntWalk Go.RowKit Go.Proofs.YtkmgiodhaaajjaaDoor.Mem Go.Proofs.YtkmgiodhaaajjaaDoor.App Go.Proofs.YtkmgiodhaaajjaaDoor.UtfP Go.Proofs.YtkmgiodhaaajjaaDoor.FloatP Go.Proofs.YtkmgiodhaaajjaaDoor.ItemP Go.Proofs.YtkmgiodhaaajjaaDoor.ItemM Go.Proofs.YtkmgiodhaaajjaaDoor.Own Go.Proofs.YtkmgiodhaaajjaaDoor.ItemA Go.Proofs.YtkmgiodhaaajjaaDoor.ItemB Go.Proofs.YtkmgiodhaaajjaaDoor.ItemC Go.Proofs.YtkmgiodhaaajjaaDoor.ItemD Go.Proofs.YtkmgiodhaaajjaaDoor.ItemE Go.Proofs.YtkmgiodhaaajjaaDoor.Range Go.Proofs.YtkmgiodhaaajjaaDoor.ItemT Go.Proofs.YtkmgiodhaaajjaaDoor.ItemU Go.Proofs.YtkmgiodhaaajjaaDoor.ItemV

set_option maxRecDepth 20000 in
set_option maxHeartbeats 8000000 in
theorem wr_5 (n : Nat) (s : ByteArray) (l : List It) (hx : (It.mk 5 n s l).size ≤ 2000000) (lo hi : Nat) (cs : List Value) (w : World) (hh : hi ≤ w.heap.size) (h : ItAt w lo hi (It.mk 5 n s l) cs) :
    Calls Tryd.prog 73 #[.agg cs.toArray] w fun e w' => e = .returned (.int .i64 (It.mk 5 n s l).wrong) ∧ Fr (fun _ => False) w w' := by
  have hAt := h
  obtain ⟨A, c, rfl, hc, hk, hn, hs, hl, hL⟩ := h
  obtain ⟨r, hr⟩ : ∃ r, (It.mk 5 n s l).wrong = r := ⟨_, rfl⟩
  rw [hr]
  have HR := hid hr
  obtain ⟨m, hm⟩ : ∃ m, l.length = m := ⟨_, rfl⟩
  have HM := hid hm
  have HAT := hid hAt
  rw [hm] at hc hl HAT ⊢
  obtain ⟨w1, hw1⟩ : ∃ w1, w.alloc (.cells #[.int .i64 5, .int .u64 n, .string s, .slice A m c] 25) = w1 := ⟨_, rfl⟩
  have HF1 := hid (show Fr (fun _ => False) w w1 by rw [← hw1]; exact (Fr.refl _ w).alloc _)
  have HB1 := hid (show Blk w1 w.heap.size 25 #[.int .i64 5, .int .u64 n, .string s, .slice A m c] by rw [← hw1]; exact Blk.new w _ _)
  have HW1 := hid hw1
  have HSL := hid hh
  have HNN := hid hn
  have HSS := hid hs
  have HL := hid hL
  have HSZ := hid hx
  have c0 := HB1.out.cell 0
  have c1 := HB1.out.cell 1
  have c2 := HB1.out.cell 2
  have c3 := HB1.out.cell 3
  simp at c0 c1 c2 c3
  clear hAt hr hm hw1 hh hn hs hL hx hk
  have HT := hid (form_t 5 n s l (by omega))
  have HE := hid (fun h => @wrong_5 n s l h)
  rw [HM.out] at HT
  have hml : m ≤ 140737488355328 := by omega
  have HMZ := hid (show m ≤ 2000000 by have h1 := sizes_length l; have h2 := HSZ.out; simp only [It.size] at h2; have h3 := HM.out; omega)
  have hmz := HMZ.out
  go_enter Tryd.func73, Tryd.ntmps73
  go_wp2_with fail
  rw [HW1.out]
  go_wp2_with fail
  all_goals try (
    go_ret
    refine ⟨?_, by first | exact HF1.out | (rw [HW1.out]; exact HF1.out)⟩
    rw [← HR.out, wv11 (formF (fun h => by have := HT.out.1 h; simp_all))]
    rfl)
  try rw [HW1.out]
  have HFT := hid (HT.out.2 (by simp_all))
  have HDU := hid (HE.out HFT.out)
  go_loopw [8] (fun i wr => ∃ a i' : Nat, i' ≤ m + 1 ∧ i = .int .i64 i' ∧ Hid (i' = 2 * a) ∧ Hid (∀ i, i < a → ∀ j, i < j → 2 * j < m → l[2 * i]? ≠ l[2 * j]?) ∧ Hid (Fr (fun _ => False) w1 wr)) (fun i _ => m + 1 - (intOf i).toNat)
  case atStart => exact ⟨0, 0, by omega, rfl, hid rfl, hid (fun j hj => by omega), hid (Fr.refl _ _)⟩
  case round =>
    obtain ⟨a, i, hi1, rfl, HA, HN, HF⟩ := hrel
    have q3 := cell_fr c3 HF.out
    by_cases hlt : i < m
    · obtain ⟨wo, rfl⟩ : ∃ wo : World, wo = wr := ⟨_, rfl⟩
      have him : (i : Int) < (m : Int) := by omega
      go_wp2_with fail
      go_loopw [9] (fun k wr => ∃ b k' : Nat, k' ≤ m + 2 ∧ k = .int .i64 k' ∧ Hid (k' = 2 * b) ∧ Hid (a < b) ∧ Hid (∀ j, a < j → j < b → l[2 * a]? ≠ l[2 * j]?) ∧ Hid (Fr (fun _ => False) w1 wr)) (fun k _ => m + 2 - (intOf k).toNat)
      case atStart => exact ⟨a + 1, i + 2, by omega, by go_num, hid (by have := HA.out; omega), hid (by omega), hid (fun j h1 h2 => by omega), HF⟩
      case round =>
        obtain ⟨b, k, hk1, rfl, HB, HAB, HNB, HFr⟩ := hrel
        have p3 := cell_fr c3 HFr.out
        by_cases hkm : k < m
        · have HFA := hid (HF1.out.trans HFr.out)
          obtain ⟨ad, k1, n1, s1, l1, A1, d1, hA1, _, hab, hx1, b0, b1, b2, b3, hch1⟩ := ItsAt.kid (ItsAt.fr0 HL.out HFA.out HSL.out) i (by rw [HM.out]; exact hlt)
          obtain ⟨ad', k2, n2, s2, l2, A2, d2, hA2, _, hab', hx2, g0, g1, g2, g3, hch2⟩ := ItsAt.kid (ItsAt.fr0 HL.out HFA.out HSL.out) k (by rw [HM.out]; exact hkm)
          obtain rfl : ad = ad' := Option.some.inj (hA1.symm.trans hA2)
          subst hA1
          have HCZ := hid (show (It.mk k1 n1 s1 l1).size ≤ 2000000 from Nat.le_trans (sizes_get_le _ hx1) (by have h2 := HSZ.out; simp only [It.size] at h2; omega))
          have HC1 := hid hch1
          have HC2 := hid hch2
          have HX1 := hid hx1
          have HX2 := hid hx2
          have HSL2 := hid (show hi ≤ wr.heap.size from Nat.le_trans HSL.out HFA.out.size)
          have hi0 : (0 : Int) ≤ (i : Int) := by omega
          have hk0 : (0 : Int) ≤ (k : Int) := by omega
          have hkm2 : (k : Int) < (m : Int) := by omega
          have hkc : (k : Int) < (c : Int) := by omega
          have hic : (i : Int) < (c : Int) := by omega
          have HSF := hid (show ∀ w', Fr (fun _ => False) wr w' → w'.cell? ⟨w.heap.size, 3, none⟩ = some (.slice (some ad) m c) ∧ w'.cell? (ad.add (i * 4)) = some (.int .i64 k1) ∧ w'.cell? ⟨(ad.add (i * 4)).block, (ad.add (i * 4)).off + 1, none⟩ = some (.int .u64 n1) ∧ w'.cell? ⟨(ad.add (i * 4)).block, (ad.add (i * 4)).off + 2, none⟩ = some (.string s1) ∧ w'.cell? ⟨(ad.add (i * 4)).block, (ad.add (i * 4)).off + 3, none⟩ = some (.slice A1 l1.length d1) ∧ w'.cell? (ad.add (k * 4)) = some (.int .i64 k2) ∧ w'.cell? ⟨(ad.add (k * 4)).block, (ad.add (k * 4)).off + 1, none⟩ = some (.int .u64 n2) ∧ w'.cell? ⟨(ad.add (k * 4)).block, (ad.add (k * 4)).off + 2, none⟩ = some (.string s2) ∧ w'.cell? ⟨(ad.add (k * 4)).block, (ad.add (k * 4)).off + 3, none⟩ = some (.slice A2 l2.length d2) from fun w' hf => ⟨cell_fr p3 hf, cell_fr b0 hf, cell_fr b1 hf, cell_fr b2 hf, cell_fr b3 hf, cell_fr g0 hf, cell_fr g1 hf, cell_fr g2 hf, cell_fr g3 hf⟩)
          clear hx1 hx2 hch1 hch2 hA2
          by_cases heq : It.mk k1 n1 s1 l1 = It.mk k2 n2 s2 l2
          · have hde := decide_eq_true heq
            have HQ := hid (show dup l from ⟨a, b, HAB.out, by have h2 := HB.out; rw [HM.out]; omega, by
              have e1 : l[2 * a]? = some (It.mk k1 n1 s1 l1) := by rw [← HA.out, List.getElem?_eq_getElem (by rw [HM.out]; exact hlt), HX1.out]
              have e2 : l[2 * b]? = some (It.mk k2 n2 s2 l2) := by rw [← HB.out, List.getElem?_eq_getElem (by rw [HM.out]; exact hkm), HX2.out]
              rw [e1, e2, heq]⟩)
            clear heq
            go_wp2_with fail
            go_region_held3 (fun w' => w'.cell? ⟨w.heap.size, 3, none⟩ = some (.slice (some ad) m c) ∧ w'.cell? (ad.add (i * 4)) = some (.int .i64 k1) ∧ w'.cell? ⟨(ad.add (i * 4)).block, (ad.add (i * 4)).off + 1, none⟩ = some (.int .u64 n1) ∧ w'.cell? ⟨(ad.add (i * 4)).block, (ad.add (i * 4)).off + 2, none⟩ = some (.string s1) ∧ w'.cell? ⟨(ad.add (i * 4)).block, (ad.add (i * 4)).off + 3, none⟩ = some (.slice A1 l1.length d1) ∧ w'.cell? (ad.add (k * 4)) = some (.int .i64 k2) ∧ w'.cell? ⟨(ad.add (k * 4)).block, (ad.add (k * 4)).off + 1, none⟩ = some (.int .u64 n2) ∧ w'.cell? ⟨(ad.add (k * 4)).block, (ad.add (k * 4)).off + 2, none⟩ = some (.string s2) ∧ w'.cell? ⟨(ad.add (k * 4)).block, (ad.add (k * 4)).off + 3, none⟩ = some (.slice A2 l2.length d2))
              (first | exact HSF.out _ (Fr.refl _ _).drew | exact HSF.out _ (Fr.refl _ _) | exact HSF.out _ hfr.out)
              (first | ((go_at_call 23; refine (refsame_calls 2000000 (It.mk k1 n1 s1 l1) (It.mk k2 n2 s2 l2) HCZ.out (Nat.le_refl _) lo hi lo hi _ _ wr.drew HSL2.out HSL2.out (HC1.out.fr0 (Fr.drew (Fr.refl (fun _ => False) wr)) HSL2.out) (HC2.out.fr0 (Fr.drew (Fr.refl (fun _ => False) wr)) HSL2.out)).mono ?_; rintro e w2 ⟨rfl, hf⟩; have hfr := hid (((Fr.refl (fun _ => False) wr).drew).then_ hf (fun _ _ h => h)); rw [hde])))
            all_goals
              go_wp2_with fail
              go_ret
              refine ⟨?_, HFA.out.trans hfr.out⟩
              rw [← HR.out, HDU.out, if_pos HQ.out]
              rfl
          · have hde := decide_eq_false heq
            have HQ := hid (show l[2 * a]? ≠ l[2 * b]? by
              have e1 : l[2 * a]? = some (It.mk k1 n1 s1 l1) := by rw [← HA.out, List.getElem?_eq_getElem (by rw [HM.out]; exact hlt), HX1.out]
              have e2 : l[2 * b]? = some (It.mk k2 n2 s2 l2) := by rw [← HB.out, List.getElem?_eq_getElem (by rw [HM.out]; exact hkm), HX2.out]
              rw [e1, e2]
              exact fun h => heq (Option.some.inj h))
            clear heq
            go_wp2_with fail
            go_region_held3 (fun w' => w'.cell? ⟨w.heap.size, 3, none⟩ = some (.slice (some ad) m c) ∧ w'.cell? (ad.add (i * 4)) = some (.int .i64 k1) ∧ w'.cell? ⟨(ad.add (i * 4)).block, (ad.add (i * 4)).off + 1, none⟩ = some (.int .u64 n1) ∧ w'.cell? ⟨(ad.add (i * 4)).block, (ad.add (i * 4)).off + 2, none⟩ = some (.string s1) ∧ w'.cell? ⟨(ad.add (i * 4)).block, (ad.add (i * 4)).off + 3, none⟩ = some (.slice A1 l1.length d1) ∧ w'.cell? (ad.add (k * 4)) = some (.int .i64 k2) ∧ w'.cell? ⟨(ad.add (k * 4)).block, (ad.add (k * 4)).off + 1, none⟩ = some (.int .u64 n2) ∧ w'.cell? ⟨(ad.add (k * 4)).block, (ad.add (k * 4)).off + 2, none⟩ = some (.string s2) ∧ w'.cell? ⟨(ad.add (k * 4)).block, (ad.add (k * 4)).off + 3, none⟩ = some (.slice A2 l2.length d2))
              (first | exact HSF.out _ (Fr.refl _ _).drew | exact HSF.out _ (Fr.refl _ _) | exact HSF.out _ hfr.out)
              (first | ((go_at_call 23; refine (refsame_calls 2000000 (It.mk k1 n1 s1 l1) (It.mk k2 n2 s2 l2) HCZ.out (Nat.le_refl _) lo hi lo hi _ _ wr.drew HSL2.out HSL2.out (HC1.out.fr0 (Fr.drew (Fr.refl (fun _ => False) wr)) HSL2.out) (HC2.out.fr0 (Fr.drew (Fr.refl (fun _ => False) wr)) HSL2.out)).mono ?_; rintro e w2 ⟨rfl, hf⟩; have hfr := hid (((Fr.refl (fun _ => False) wr).drew).then_ hf (fun _ _ h => h)); rw [hde])))
            all_goals
              go_wp2_with fail
              go_roundw
              case rel => exact ⟨b + 1, k + 2, by omega, by go_num, hid (by have h2 := HB.out; omega), hid (by have := HAB.out; omega), hid (fun j h1 h2 => by
                rcases Nat.lt_or_ge j b with h | h
                · exact HNB.out j h1 h
                · obtain rfl : j = b := by omega
                  exact HQ.out), hid (HFr.out.trans hfr.out)⟩
              case measure => simp [intOf]; omega
        · have hkm2 : ¬ (k : Int) < (m : Int) := by omega
          go_wp2_with fail
          go_roundw
          case rel => exact ⟨a + 1, i + 2, by omega, by go_num, hid (by have h2 := HA.out; omega), hid (fun i' h1 j h2 h3 => by
            rcases Nat.lt_or_ge i' a with h | h
            · exact HN.out i' h j h2 h3
            · obtain rfl : i' = a := by omega
              exact HNB.out j h2 (by have h2 := HB.out; omega)), HFr⟩
          case measure => simp [intOf]; omega
    · have HQ := hid (show ¬ dup l from fun ⟨i', j', h1, h2, h3⟩ => HN.out i' (by have := HA.out; rw [HM.out] at h2; omega) j' h1 (by rw [HM.out] at h2; exact h2) h3)
      have him : ¬ (i : Int) < (m : Int) := by omega
      go_wp2_with fail
      go_ret
      refine ⟨?_, HF1.out.trans HF.out⟩
      rw [← HR.out, HDU.out, if_neg HQ.out]
      rfl
end Go.Proofs.YtkmgiodhaaajjaaDoor.ItemV5

namespace Go.Proofs.YtkmgiodhaaajjaaDoor.ItemV8
open Go.IntWalk Go.RowKit Go.Proofs.YtkmgiodhaaajjaaDoor.Mem Go.Proofs.YtkmgiodhaaajjaaDoor.App Go.Proofs.YtkmgiodhaaajjaaDoor.UtfP Go.Proofs.YtkmgiodhaaajjaaDoor.FloatP Go.Proofs.YtkmgiodhaaajjaaDoor.ItemP Go.Proofs.YtkmgiodhaaajjaaDoor.ItemM Go.Proofs.YtkmgiodhaaajjaaDoor.Own Go.Proofs.YtkmgiodhaaajjaaDoor.ItemA Go.Proofs.YtkmgiodhaaajjaaDoor.ItemB Go.Proofs.YtkmgiodhaaajjaaDoor.ItemC Go.Proofs.YtkmgiodhaaajjaaDoor.ItemD Go.Proofs.YtkmgiodhaaajjaaDoor.ItemE Go.Proofs.YtkmgiodhaaajjaaDoor.Range Go.Proofs.YtkmgiodhaaajjaaDoor.ItemT Go.Proofs.YtkmgiodhaaajjaaDoor.ItemU Go.Proofs.YtkmgiodhaaajjaaDoor.ItemV

set_option maxRecDepth 20000 in
set_option maxHeartbeats 4000000 in
theorem refnan_calls (w : World) (x : Nat) (hx : x < 18446744073709551616) : Calls Tryd.prog 98 #[.int .u64 x] w
    (fun e w' => e = .returned (.bool (nanB x)) ∧ w = w') := by
  obtain ⟨r, hr⟩ : ∃ r, nanB x = r := ⟨_, rfl⟩
  rw [hr]
  have HR := hid hr
  have HX := hid hx
  clear hr hx
  go_enter Tryd.func98, Tryd.ntmps98
  go_wp2
  all_goals
    go_ret
    refine ⟨?_, rfl⟩
    rw [← HR.out]
    rename_i h
    first
      | (have e : nanB x = ((x : Int) % 4503599627370496 != 0) := by
          have h1 : x / 2 ^ 52 % 2 ^ 11 = 2047 := by omega
          unfold nanB
          rw [decide_eq_true h1, Bool.true_and]
          by_cases h2 : x % 2 ^ 52 = 0
          · have h3 : (x : Int) % 4503599627370496 = 0 := by omega
            rw [h3, decide_eq_false (fun h => h h2)]; rfl
          · have h3 : (x : Int) % 4503599627370496 ≠ 0 := by omega
            rw [decide_eq_true h2, bne_iff_ne.2 h3]
         rw [e]; rfl)
      | (have e : nanB x = false := by
          have h1 : ¬ x / 2 ^ 52 % 2 ^ 11 = 2047 := by omega
          unfold nanB
          rw [decide_eq_false h1, Bool.false_and]
         rw [e]; rfl)

set_option maxRecDepth 20000 in
set_option maxHeartbeats 8000000 in
theorem wr_8 (n : Nat) (s : ByteArray) (l : List It) (hx : (It.mk 8 n s l).size ≤ 2000000) (lo hi : Nat) (cs : List Value) (w : World) (hh : hi ≤ w.heap.size) (h : ItAt w lo hi (It.mk 8 n s l) cs) :
    Calls Tryd.prog 73 #[.agg cs.toArray] w fun e w' => e = .returned (.int .i64 (It.mk 8 n s l).wrong) ∧ Fr (fun _ => False) w w' := by
  have hAt := h
  obtain ⟨A, c, rfl, hc, hk, hn, hs, hl, hL⟩ := h
  obtain ⟨r, hr⟩ : ∃ r, (It.mk 8 n s l).wrong = r := ⟨_, rfl⟩
  rw [hr]
  have HR := hid hr
  obtain ⟨m, hm⟩ : ∃ m, l.length = m := ⟨_, rfl⟩
  have HM := hid hm
  have HAT := hid hAt
  rw [hm] at hc hl HAT ⊢
  obtain ⟨w1, hw1⟩ : ∃ w1, w.alloc (.cells #[.int .i64 8, .int .u64 n, .string s, .slice A m c] 25) = w1 := ⟨_, rfl⟩
  have HF1 := hid (show Fr (fun _ => False) w w1 by rw [← hw1]; exact (Fr.refl _ w).alloc _)
  have HB1 := hid (show Blk w1 w.heap.size 25 #[.int .i64 8, .int .u64 n, .string s, .slice A m c] by rw [← hw1]; exact Blk.new w _ _)
  have HW1 := hid hw1
  have HSL := hid hh
  have HNN := hid hn
  have HSS := hid hs
  have HL := hid hL
  have HSZ := hid hx
  have c0 := HB1.out.cell 0
  have c1 := HB1.out.cell 1
  have c2 := HB1.out.cell 2
  have c3 := HB1.out.cell 3
  simp at c0 c1 c2 c3
  clear hAt hr hm hw1 hh hn hs hL hx hk
  obtain ⟨b, hb⟩ : ∃ b, nanB n = b := ⟨_, rfl⟩
  have HT := hid (form_t 8 n s l (by omega))
  have HE := hid (fun h => @wrong_8 n s l h)
  rw [HM.out] at HT
  have HC := hid (fun w => refnan_calls w n HNN.out)
  rw [hb] at HC HE
  clear hb
  cases b
  all_goals
    go_enter Tryd.func73, Tryd.ntmps73
    go_wp2_with fail
    rw [HW1.out]
    go_wp2_with (refine (HC.out _).mono ?_; rintro e w' ⟨rfl, rfl⟩)
    all_goals
      go_ret
      refine ⟨?_, by first | exact HF1.out | (rw [HW1.out]; exact HF1.out)⟩
      rw [← HR.out]
      first
        | (rw [HE.out (HT.out.2 (by simp_all)), if_pos (by
            constructor
            · first | rfl | trivial
            · rename_i h; intro e; rw [e] at h; exact absurd h (by decide))]; rfl)
        | (rw [HE.out (HT.out.2 (by simp_all)), if_neg (by intro h'; have h2 := h'.1; revert h2; decide)]; rfl)
        | (rw [HE.out (HT.out.2 (by simp_all)), if_neg (by rename_i h; intro h'; apply h'.2; first | omega | (have e := bne_eq_false_iff_eq.1 h; omega))]; rfl)
        | (rw [wv11 (formF (fun h => by have := HT.out.1 h; simp_all))]; rfl)
end Go.Proofs.YtkmgiodhaaajjaaDoor.ItemV8
