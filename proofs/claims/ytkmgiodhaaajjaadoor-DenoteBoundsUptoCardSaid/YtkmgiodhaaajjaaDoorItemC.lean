/- Layer item: form, twice. -/
import Derived.Test.YtkmgiodhaaajjaaDoorItemB
set_option linter.unusedVariables false
set_option linter.unusedSimpArgs false
namespace Go.Proofs.YtkmgiodhaaajjaaDoor.ItemC
open Go.IntWalk Go.RowKit Go.Proofs.YtkmgiodhaaajjaaDoor.Mem Go.Proofs.YtkmgiodhaaajjaaDoor.ItemP Go.Proofs.YtkmgiodhaaajjaaDoor.ItemM Go.Proofs.YtkmgiodhaaajjaaDoor.Own Go.Proofs.YtkmgiodhaaajjaaDoor.ItemA Go.Proofs.YtkmgiodhaaajjaaDoor.ItemB

theorem emp_iff (s : ByteArray) : s.toList = [] ↔ s.size = 0 := by
  rw [ByteArray.toList_eq]
  constructor
  · intro h
    have := congrArg List.length h
    simpa using this
  · intro h
    exact List.eq_nil_of_length_eq_zero (by simpa using h)
theorem form_kind (k : Int) : (k = 0 ∨ k = 1 ∨ k = 7 ∨ k = 8) ∨ (k = 2 ∨ k = 3) ∨ k = 4 ∨ k = 5 ∨ k = 6 ∨ (k ≠ 0 ∧ k ≠ 1 ∧ k ≠ 2 ∧ k ≠ 3 ∧ k ≠ 4 ∧ k ≠ 5 ∧ k ≠ 6 ∧ k ≠ 7 ∧ k ≠ 8) := by omega
theorem emptyB (s : ByteArray) : decide (s.size = 0) = s.toList.isEmpty := by
  have := emp_iff s
  cases h : s.toList with
  | nil => simp [this.1 h]
  | cons c l =>
    have : ¬ s.size = 0 := fun e => by rw [this.2 e] at h; cases h
    simp [this]
theorem zeroB (n : Nat) : decide (n = 0) = ((n : Int) == 0) := by
  cases n with
  | zero => rfl
  | succ n => symm; simp; omega
theorem evenB (n : Nat) : decide (n % 2 = 0) = (((n : Int) % 2) == 0) := by
  by_cases h : n % 2 = 0
  · rw [decide_eq_true h]; symm; simp; omega
  · rw [decide_eq_false h]; symm; simp; omega
theorem oneB (n : Nat) : decide (n = 1) = ((n : Int) == 1) := by
  by_cases h : n = 1
  · rw [decide_eq_true h]; symm; simp; omega
  · rw [decide_eq_false h]; symm; simp; omega
/-- form, by its groups of kinds. -/
theorem form_0 {k : Int} (h : k = 0 ∨ k = 1 ∨ k = 7 ∨ k = 8) (n : Nat) (s : ByteArray) (l : List It) : (It.mk k n s l).form = (s.toList.isEmpty && ((l.length : Int) == 0)) := by rw [It.form, if_pos h, emptyB, zeroB]
theorem form_2 {k : Int} (h : k = 2 ∨ k = 3) (n : Nat) (s : ByteArray) (l : List It) : (It.mk k n s l).form = (((n : Int) == 0) && ((l.length : Int) == 0)) := by rw [It.form, if_neg (by omega), if_pos h, zeroB, zeroB]
theorem form_4 (n : Nat) (s : ByteArray) (l : List It) : (It.mk 4 n s l).form = (((n : Int) == 0) && s.toList.isEmpty) := by rw [It.form, if_neg (by omega), if_neg (by omega), if_pos rfl, zeroB, emptyB]
theorem form_5 (n : Nat) (s : ByteArray) (l : List It) : (It.mk 5 n s l).form = (((n : Int) == 0) && s.toList.isEmpty && (((l.length : Int) % 2) == 0)) := by rw [It.form, if_neg (by omega), if_neg (by omega), if_neg (by omega), if_pos rfl, zeroB, emptyB, evenB]
theorem form_6 (n : Nat) (s : ByteArray) (l : List It) : (It.mk 6 n s l).form = (s.toList.isEmpty && ((l.length : Int) == 1)) := by rw [It.form, if_neg (by omega), if_neg (by omega), if_neg (by omega), if_neg (by omega), if_pos rfl, emptyB, oneB]
theorem form_no {k : Int} (h : k ≠ 0 ∧ k ≠ 1 ∧ k ≠ 2 ∧ k ≠ 3 ∧ k ≠ 4 ∧ k ≠ 5 ∧ k ≠ 6 ∧ k ≠ 7 ∧ k ≠ 8) (n : Nat) (s : ByteArray) (l : List It) : (It.mk k n s l).form = false := by rw [It.form, if_neg (by omega), if_neg (by omega), if_neg (by omega), if_neg (by omega), if_neg (by omega)]
set_option maxRecDepth 20000 in
set_option maxHeartbeats 4000000 in
theorem form_calls (x : It) (lo hi : Nat) (cs : List Value) (w : World) (h : ItAt w lo hi x cs) :
    Calls Tryd.prog 94 #[.agg cs.toArray] w fun e w' => e = .returned (.bool x.form) ∧ Fr (fun _ => False) w w' := by
  obtain ⟨k, n, s, l⟩ := x
  obtain ⟨A, c, rfl, hc, hk, hn, hs, hl, hL⟩ := h
  obtain ⟨f, hf⟩ : ∃ f, (It.mk k n s l).form = f := ⟨_, rfl⟩
  rw [hf]
  have HFM := hid hf
  obtain ⟨m, hm⟩ : ∃ m, l.length = m := ⟨_, rfl⟩
  have HM := hid hm
  rw [hm] at hc hl ⊢
  obtain ⟨w1, hw1⟩ : ∃ w1, w.alloc (.cells #[.int .i64 k, .int .u64 n, .string s, .slice A m c] 25) = w1 := ⟨_, rfl⟩
  have HF1 := hid (show Fr (fun _ => False) w w1 by rw [← hw1]; exact (Fr.refl _ w).alloc _)
  have hb1 : Blk w1 w.heap.size 25 #[.int .i64 k, .int .u64 n, .string s, .slice A m c] := by rw [← hw1]; exact Blk.new w _ _
  have c0 := hb1.cell 0
  have c1 := hb1.cell 1
  have c2 := hb1.cell 2
  have c3 := hb1.cell 3
  simp at c0 c1 c2 c3
  have HW1 := hid hw1
  have hml : m ≤ 9223372036854775807 := by omega
  clear hw1 hb1 hf hm hL hs hl
  have HNR := hid hn
  have HKR := hid hk
  clear hn hk
  rcases form_kind k with (rfl | rfl | rfl | rfl) | (rfl | rfl) | rfl | rfl | rfl | ⟨k0, k1, k2, k3, k4, k5, k6, k7, k8⟩
  · go_enter Tryd.func94, Tryd.ntmps94
    go_wp2
    rw [HW1.out]
    go_quiet (fail)
    go_wp2
    all_goals
      go_ret
      refine ⟨ret_bool ?_, HF1.out.drewN _⟩
      rw [← HFM.out, form_0 (by omega), HM.out]
      simp [*]
  · go_enter Tryd.func94, Tryd.ntmps94
    go_wp2
    rw [HW1.out]
    go_quiet (fail)
    go_wp2
    all_goals
      go_ret
      refine ⟨ret_bool ?_, HF1.out.drewN _⟩
      rw [← HFM.out, form_0 (by omega), HM.out]
      simp [*]
  · go_enter Tryd.func94, Tryd.ntmps94
    go_wp2
    rw [HW1.out]
    go_quiet (fail)
    go_wp2
    all_goals
      go_ret
      refine ⟨ret_bool ?_, HF1.out.drewN _⟩
      rw [← HFM.out, form_0 (by omega), HM.out]
      simp [*]
  · go_enter Tryd.func94, Tryd.ntmps94
    go_wp2
    rw [HW1.out]
    go_quiet (fail)
    go_wp2
    all_goals
      go_ret
      refine ⟨ret_bool ?_, HF1.out.drewN _⟩
      rw [← HFM.out, form_0 (by omega), HM.out]
      simp [*]
  · go_enter Tryd.func94, Tryd.ntmps94
    go_wp2
    rw [HW1.out]
    go_quiet (fail)
    go_wp2
    all_goals
      go_ret
      refine ⟨ret_bool ?_, HF1.out.drewN _⟩
      rw [← HFM.out, form_2 (by omega), HM.out]
      simp [*]
  · go_enter Tryd.func94, Tryd.ntmps94
    go_wp2
    rw [HW1.out]
    go_quiet (fail)
    go_wp2
    all_goals
      go_ret
      refine ⟨ret_bool ?_, HF1.out.drewN _⟩
      rw [← HFM.out, form_2 (by omega), HM.out]
      simp [*]
  · go_enter Tryd.func94, Tryd.ntmps94
    go_wp2
    rw [HW1.out]
    go_quiet (fail)
    go_wp2
    all_goals
      go_ret
      refine ⟨ret_bool ?_, HF1.out.drewN _⟩
      rw [← HFM.out, form_4]
      simp [*]
  · go_enter Tryd.func94, Tryd.ntmps94
    go_wp2
    rw [HW1.out]
    go_quiet (fail)
    go_wp2
    go_quiet (fail)
    go_wp2
    all_goals
      go_ret
      refine ⟨ret_bool ?_, HF1.out.drewN _⟩
      rw [← HFM.out, form_5, HM.out]
      simp [*]
  · go_enter Tryd.func94, Tryd.ntmps94
    go_wp2
    rw [HW1.out]
    go_quiet (fail)
    go_wp2
    all_goals
      go_ret
      refine ⟨ret_bool ?_, HF1.out.drewN _⟩
      rw [← HFM.out, form_6, HM.out]
      simp [*]
  · have e0 : (k == 0) = false := beq_eq_false_iff_ne.2 k0
    have e1 : (k == 1) = false := beq_eq_false_iff_ne.2 k1
    have e2 : (k == 2) = false := beq_eq_false_iff_ne.2 k2
    have e3 : (k == 3) = false := beq_eq_false_iff_ne.2 k3
    have e4 : (k == 4) = false := beq_eq_false_iff_ne.2 k4
    have e5 : (k == 5) = false := beq_eq_false_iff_ne.2 k5
    have e6 : (k == 6) = false := beq_eq_false_iff_ne.2 k6
    have e7 : (k == 7) = false := beq_eq_false_iff_ne.2 k7
    have e8 : (k == 8) = false := beq_eq_false_iff_ne.2 k8
    have HKN := hid (form_no ⟨k0, k1, k2, k3, k4, k5, k6, k7, k8⟩ n s l)
    clear k0 k1 k2 k3 k4 k5 k6 k7 k8
    go_enter Tryd.func94, Tryd.ntmps94
    go_wp2
    rw [HW1.out]
    go_quiet (fail)
    go_wp2
    go_ret
    refine ⟨ret_bool ?_, HF1.out.drewN _⟩
    rw [← HFM.out, HKN.out]
end Go.Proofs.YtkmgiodhaaajjaaDoor.ItemC
