/- Layer fault: its own functions; the law FaultOthers. -/
import Derived.Test.YtkmgiodhaaajjaaDoorFltC
set_option linter.unusedVariables false
set_option linter.unusedSimpArgs false
namespace Go.Proofs.YtkmgiodhaaajjaaDoor.FltD
open Go.IntWalk Go.RowKit Go.Proofs.YtkmgiodhaaajjaaDoor.Mem Go.Proofs.YtkmgiodhaaajjaaDoor.App Go.Proofs.YtkmgiodhaaajjaaDoor.FltA Go.Proofs.YtkmgiodhaaajjaaDoor.FltB Go.Proofs.YtkmgiodhaaajjaaDoor.FltC

theorem blk1' {w : World} {g : Nat} {t : TypeId} {v0 : Value} (h : Blk w g t #[v0]) : w.cell? ⟨g, 0, none⟩ = some v0 ∧ w.frozen? ⟨g, 0, none⟩ = false := by
  have e0 := h.cell 0
  simp at e0
  exact ⟨e0, h.frozen 0⟩
theorem fr_new {w w' : World} {o : Obj} (h : Fr (fun b => b = w.heap.size) (w.alloc o) w') : Fr (fun _ => False) w w' := ((Fr.refl _ w).alloc o).then_ h (fun i hi e => by omega)

set_option maxRecDepth 100000 in
set_option maxHeartbeats 8000000 in
/-- The place of a fault. -/
theorem At_ch {v : Value} {e a : Int} {l : List ByteArray} {n : Nat} (w : World) (hg : ErrT w) (hch : Ch w n v e a l) (hn : n ≤ w.heap.size) : Calls Tryd.prog 53 #[v] w fun ev w' => ev = .returned (.tuple #[.int .i64 a, .bool true]) ∧ Fr (fun _ => False) w w' := by
  obtain ⟨w1, hw1⟩ : ∃ w1, w.alloc (.cells #[.pointer none] 76) = w1 := ⟨_, rfl⟩
  have HF1 := hid (show Fr (fun _ => False) w w1 by rw [← hw1]; exact (Fr.refl _ w).alloc _)
  obtain ⟨c0, z0⟩ := blk1' (show Blk w1 w.heap.size 76 #[.pointer none] by rw [← hw1]; exact Blk.new _ _ _)
  have hW := hw1
  have HW1 := hid hw1
  have HC := hid (As_pf w1 ⟨w.heap.size, 0, none⟩ _ (hg.fr HF1.out (fun h => h)) c0 z0 (hch.fr HF1.out (fun _ _ h => h)) hn)
  clear hg hch hw1 c0 z0
  go_enter Tryd.func53, Tryd.ntmps53
  go_wp2_with fail
  refine HC.out.mono ?_
  rintro ev w3 ⟨g, rfl, h1, h2, h3⟩
  rw [← hW] at h3
  have HFE := hid (fr_new h3)
  obtain ⟨b0, b1⟩ := blk2 h2
  clear h2 h3
  go_wp2_with fail
  go_ret2
  exact ⟨rfl, HFE.out⟩

set_option maxRecDepth 100000 in
set_option maxHeartbeats 8000000 in
/-- A number has no place. -/
theorem At_en (e : Int) (w : World) (hg : ErrT w) : Calls Tryd.prog 53 #[.iface 35 (.int .i64 e)] w fun ev w' => ev = .returned (.tuple #[.int .i64 0, .bool false]) ∧ Fr (fun _ => False) w w' := by
  obtain ⟨w1, hw1⟩ : ∃ w1, w.alloc (.cells #[.pointer none] 76) = w1 := ⟨_, rfl⟩
  have HF1 := hid (show Fr (fun _ => False) w w1 by rw [← hw1]; exact (Fr.refl _ w).alloc _)
  obtain ⟨c0, z0⟩ := blk1' (show Blk w1 w.heap.size 76 #[.pointer none] by rw [← hw1]; exact Blk.new _ _ _)
  have hW := hw1
  have HW1 := hid hw1
  have HC := hid (As_pf_en e w1 ⟨w.heap.size, 0, none⟩ _ (hg.fr HF1.out (fun h => h)) c0 z0)
  clear hg hw1 c0 z0
  go_enter Tryd.func53, Tryd.ntmps53
  go_wp2_with fail
  refine HC.out.mono ?_
  rintro ev w3 ⟨rfl, h3⟩
  have HFE := hid (HF1.out.trans h3)
  clear h3
  go_wp2_with fail
  go_ret2
  exact ⟨rfl, HFE.out⟩

set_option maxRecDepth 100000 in
set_option maxHeartbeats 8000000 in
/-- No error has no place. -/
theorem At_nil  (w : World)  : Calls Tryd.prog 53 #[.nilIface] w fun ev w' => ev = .returned (.tuple #[.int .i64 0, .bool false]) ∧ Fr (fun _ => False) w w' := by
  obtain ⟨w1, hw1⟩ : ∃ w1, w.alloc (.cells #[.pointer none] 76) = w1 := ⟨_, rfl⟩
  have HF1 := hid (show Fr (fun _ => False) w w1 by rw [← hw1]; exact (Fr.refl _ w).alloc _)
  obtain ⟨c0, z0⟩ := blk1' (show Blk w1 w.heap.size 76 #[.pointer none] by rw [← hw1]; exact Blk.new _ _ _)
  have hW := hw1
  have HW1 := hid hw1
  have HC := hid (As_nil (.iface 123 (.pointer (some ⟨w.heap.size, 0, none⟩))) w1)
  clear hw1 c0 z0
  go_enter Tryd.func53, Tryd.ntmps53
  go_wp2_with fail
  refine HC.out.mono ?_
  rintro ev w3 ⟨rfl, rfl⟩
  go_wp2_with fail
  go_ret2
  exact ⟨rfl, HF1.out⟩

set_option maxRecDepth 100000 in
set_option maxHeartbeats 8000000 in
/-- The number of an error that has one. -/
theorem Code_en {v : Value} {e : Int} {n : Nat} (w : World) (hg : ErrT w) (hch : En w n v e) (hn : n ≤ w.heap.size) : Calls Tryd.prog 56 #[v] w fun ev w' => ev = .returned (.int .i64 e) ∧ Fr (fun _ => False) w w' := by
  obtain ⟨w1, hw1⟩ : ∃ w1, w.alloc (.cells #[.int .i64 0] 35) = w1 := ⟨_, rfl⟩
  have HF1 := hid (show Fr (fun _ => False) w w1 by rw [← hw1]; exact (Fr.refl _ w).alloc _)
  obtain ⟨c0, z0⟩ := blk1' (show Blk w1 w.heap.size 35 #[.int .i64 0] by rw [← hw1]; exact Blk.new _ _ _)
  have hW := hw1
  have HW1 := hid hw1
  have HC := hid (As_en w1 ⟨w.heap.size, 0, none⟩ _ (hg.fr HF1.out (fun h => h)) c0 z0 (hch.fr HF1.out (fun _ _ h => h)) hn)
  obtain ⟨u, x, rfl⟩ := hch.iface
  clear hg hch hw1 c0 z0
  go_enter Tryd.func56, Tryd.ntmps56
  go_wp2_with fail
  refine HC.out.mono ?_
  rintro ev w3 ⟨rfl, h1, h3⟩
  rw [← hW] at h3
  have HFE := hid (fr_new h3)
  clear h3
  go_wp2_with fail
  go_ret
  exact ⟨rfl, HFE.out⟩

set_option maxRecDepth 100000 in
set_option maxHeartbeats 8000000 in
/-- An error of another kind. -/
theorem Code_ot (x : Value) (w : World) (hg : ErrT w) : Calls Tryd.prog 56 #[.iface 89 x] w fun ev w' => ev = .returned (.int .i64 10) ∧ Fr (fun _ => False) w w' := by
  obtain ⟨w1, hw1⟩ : ∃ w1, w.alloc (.cells #[.int .i64 0] 35) = w1 := ⟨_, rfl⟩
  have HF1 := hid (show Fr (fun _ => False) w w1 by rw [← hw1]; exact (Fr.refl _ w).alloc _)
  obtain ⟨c0, z0⟩ := blk1' (show Blk w1 w.heap.size 35 #[.int .i64 0] by rw [← hw1]; exact Blk.new _ _ _)
  have hW := hw1
  have HW1 := hid hw1
  have HC := hid (As_en_ot x w1 ⟨w.heap.size, 0, none⟩ _ (hg.fr HF1.out (fun h => h)) c0 z0)
  clear hg hw1 c0 z0
  go_enter Tryd.func56, Tryd.ntmps56
  go_wp2_with fail
  refine HC.out.mono ?_
  rintro ev w3 ⟨rfl, h3⟩
  have HFE := hid (HF1.out.trans h3)
  clear h3
  go_wp2_with fail
  go_ret
  exact ⟨rfl, HFE.out⟩

set_option maxRecDepth 100000 in
set_option maxHeartbeats 8000000 in
/-- No error. -/
theorem Code_nil  (w : World)  : Calls Tryd.prog 56 #[.nilIface] w fun ev w' => ev = .returned (.int .i64 0) ∧ Fr (fun _ => False) w w' := by
  obtain ⟨w1, hw1⟩ : ∃ w1, w.alloc (.cells #[.int .i64 0] 35) = w1 := ⟨_, rfl⟩
  have HF1 := hid (show Fr (fun _ => False) w w1 by rw [← hw1]; exact (Fr.refl _ w).alloc _)
  obtain ⟨c0, z0⟩ := blk1' (show Blk w1 w.heap.size 35 #[.int .i64 0] by rw [← hw1]; exact Blk.new _ _ _)
  have hW := hw1
  have HW1 := hid hw1
  clear hw1 c0 z0
  go_enter Tryd.func56, Tryd.ntmps56
  go_wp2_with fail
  go_ret
  exact ⟨rfl, HF1.out⟩

set_option maxRecDepth 100000 in
set_option maxHeartbeats 8000000 in
/-- Is an error none? -/
theorem Is_ok (u : TypeId) (x : Value) (w : World)  : Calls Tryd.prog 57 #[.iface u x, .int .i64 0] w fun ev w' => ev = .returned (.bool false) ∧ w' = w := by
  go_enter Tryd.func57, Tryd.ntmps57
  go_wp2_with fail
  go_ret
  exact ⟨rfl, rfl⟩

set_option maxRecDepth 100000 in
set_option maxHeartbeats 8000000 in
/-- None is none. -/
theorem Is_ok_nil  (w : World)  : Calls Tryd.prog 57 #[.nilIface, .int .i64 0] w fun ev w' => ev = .returned (.bool true) ∧ w' = w := by
  go_enter Tryd.func57, Tryd.ntmps57
  go_wp2_with fail
  go_ret
  exact ⟨rfl, rfl⟩

set_option maxRecDepth 100000 in
set_option maxHeartbeats 8000000 in
/-- Is an error a number? -/
theorem Is_num {v : Value} {e c : Int} {n : Nat} (w : World) (hch : En w n v e) (hc : c ≠ 0) : Calls Tryd.prog 57 #[v, .int .i64 c] w fun ev w' => ev = .returned (.bool (decide (e = c))) ∧ w' = w := by
  have HC := hid (Is_en (c := c) w hch)
  have hb : (c == 0) = false := beq_eq_false_iff_ne.2 hc
  clear hch hc
  go_enter Tryd.func57, Tryd.ntmps57
  go_wp2_with fail
  refine HC.out.mono ?_
  rintro ev w3 ⟨rfl, rfl⟩
  go_wp2_with fail
  go_ret
  exact ⟨rfl, rfl⟩

set_option maxRecDepth 100000 in
set_option maxHeartbeats 8000000 in
/-- None is no number. -/
theorem Is_num_nil (c : Int) (w : World) (hc : c ≠ 0) : Calls Tryd.prog 57 #[.nilIface, .int .i64 c] w fun ev w' => ev = .returned (.bool false) ∧ w' = w := by
  have HC := hid (Is_nil (c := c) w)
  have hb : (c == 0) = false := beq_eq_false_iff_ne.2 hc
  clear hc
  go_enter Tryd.func57, Tryd.ntmps57
  go_wp2_with fail
  refine HC.out.mono ?_
  rintro ev w3 ⟨rfl, rfl⟩
  go_wp2_with fail
  go_ret
  exact ⟨rfl, rfl⟩

set_option maxRecDepth 100000 in
set_option maxHeartbeats 8000000 in
/-- OK has no error. -/
theorem Error_ok (a : Int) (w : World)  : Calls Tryd.prog 58 #[.agg #[.int .i64 0, .int .i64 a]] w fun ev w' => ev = .returned .nilIface ∧ Fr (fun _ => False) w w' := by
  go_enter Tryd.func58, Tryd.ntmps58
  go_wp2_with fail
  go_ret
  exact ⟨rfl, (Fr.refl _ w).alloc _⟩

set_option maxRecDepth 100000 in
set_option maxHeartbeats 8000000 in
/-- The error of a verdict. -/
theorem Error_ch (e a : Int) (w : World) (he : e ≠ 0) : Calls Tryd.prog 58 #[.agg #[.int .i64 e, .int .i64 a]] w fun ev w' => ∃ v, ev = .returned v ∧ Ch w' w'.heap.size v e a [] ∧ Fr (fun _ => False) w w' := by
  have hb : (e == 0) = false := beq_eq_false_iff_ne.2 he
  clear he
  go_enter Tryd.func58, Tryd.ntmps58
  go_wp2_with fail
  go_ret
  refine ⟨_, rfl, ?_, ((Fr.refl _ w).alloc _).alloc _⟩
  have hb2 := Blk.new (w.alloc (.cells #[.int .i64 e, .int .i64 a] 79)) 81 #[.int .i64 e, .int .i64 a]
  rw [World.size_alloc] at hb2
  exact .leaf (w.heap.size + 1) e a (by simp) hb2

set_option maxRecDepth 100000 in
set_option maxHeartbeats 8000000 in
/-- None stays none. -/
theorem Wrap_nil (s : ByteArray) (w : World)  : Calls Tryd.prog 59 #[.nilIface, .string s] w fun ev w' => ev = .returned .nilIface ∧ w' = w := by
  go_enter Tryd.func59, Tryd.ntmps59
  go_wp2_with fail
  go_ret
  exact ⟨rfl, rfl⟩

set_option maxRecDepth 100000 in
set_option maxHeartbeats 8000000 in
/-- A text ahead. -/
theorem Wrap_ch {v : Value} {e a : Int} {l : List ByteArray} {n : Nat} (s : ByteArray) (w : World) (hch : Ch w n v e a l) (hn : n ≤ w.heap.size) : Calls Tryd.prog 59 #[v, .string s] w fun ev w' => ∃ v', ev = .returned v' ∧ Ch w' w'.heap.size v' e a (s :: l) ∧ Fr (fun _ => False) w w' := by
  obtain ⟨u, g0, rfl, hg0⟩ := hch.iface
  have HC := hid hch
  clear hch
  go_enter Tryd.func59, Tryd.ntmps59
  go_wp2_with fail
  go_ret
  have hf : Fr (fun _ => False) w (w.alloc (.cells #[.string s, .iface u (.pointer (some ⟨g0, 0, none⟩))] 129)) := (Fr.refl _ w).alloc _
  refine ⟨_, rfl, ?_, hf⟩
  exact .wrap w.heap.size s _ e a l (by simp) (Blk.new _ _ _) (show g0 + 1 < w.heap.size + 1 by omega) ((HC.out.fr hf (fun _ _ h => h)).wide (by simp; omega))

set_option maxRecDepth 100000 in
set_option maxHeartbeats 8000000 in
/-- The document's example. -/
theorem awake_calls  (w : World) (hg : ErrT w) : Calls Tryd.prog 52 #[] w fun ev w' => ev = .returned (.bool true) ∧ Fr (fun _ => False) w w' := by
  have HG := hid hg
  clear hg
  go_enter Tryd.func52, Tryd.ntmps52
  go_wp2_with fail
  refine (Error_ch 3 5 w (by decide)).mono ?_
  rintro ev w1 ⟨v1, rfl, h1, hf1⟩
  have HC1 := hid h1
  have HF1 := hid hf1
  clear h1 hf1
  go_wp2_with fail
  refine (Wrap_ch { data := #[120] } w1 HC1.out (Nat.le_refl _)).mono ?_
  rintro ev w2 ⟨v2, rfl, h2, hf2⟩
  have HC2 := hid h2
  have HF2 := hid (HF1.out.trans hf2)
  clear h2 hf2
  go_wp2_with fail
  refine (At_ch w2 (HG.out.fr HF2.out (fun h => h)) HC2.out (Nat.le_refl _)).mono ?_
  rintro ev w3 ⟨rfl, hf3⟩
  have HF3 := hid (HF2.out.trans hf3)
  have HC3 := hid (HC2.out.fr hf3 (fun _ _ h => h))
  have HL3 := hid hf3.size
  clear hf3
  go_wp2_with fail
  refine (Code_en w3 (HG.out.fr HF3.out (fun h => h)) (.inr ⟨_, _, HC3.out⟩) HL3.out).mono ?_
  rintro ev w4 ⟨rfl, hf4⟩
  have HF4 := hid (HF3.out.trans hf4)
  clear hf4
  go_wp2_with fail
  go_ret
  exact ⟨rfl, HF4.out⟩

set_option maxRecDepth 100000 in
set_option maxHeartbeats 8000000 in
/-- A nil fault has no text. -/
theorem errN_calls  (w : World)  : Calls Tryd.prog 54 #[.pointer none] w fun ev w' => ev = .returned (.string { data := #[] }) ∧ w' = w := by
  go_enter Tryd.func54, Tryd.ntmps54
  go_wp2_with fail
  go_ret
  exact ⟨rfl, rfl⟩

set_option maxRecDepth 100000 in
set_option maxHeartbeats 8000000 in
/-- FaultOthers, a number that is not OK. -/
theorem others_num (e : Int) (w : World) (hg : ErrT w) (he : e ≠ 0) : Calls Tryd.prog 11 #[.int .i64 e] w fun ev w' => ev = .returned (.bool true) ∧ Fr (fun _ => False) w w' := by
  have HG := hid hg
  have heq := fun w => Go.Lib.run_eql_iface_int (P := Tryd.prog) (k := .i64) w e e Tryd.underlying84 (by kernel_rfl) Tryd.underlying35
  have hee : (e == e) = true := beq_self_eq_true e
  rw [hee] at heq
  clear hg
  have HE := hid he
  have hb : (e == 0) = false := beq_eq_false_iff_ne.2 he
  clear he
  go_enter Tryd.func11, Tryd.ntmps11
  go_wp2_with fail
  refine (awake_calls w HG.out).mono ?_
  rintro ev w1 ⟨rfl, hf⟩
  have HF1 := hid hf
  clear hf
  go_wp2_with fail
  refine (At_en e w1 (HG.out.fr HF1.out (fun h => h))).mono ?_
  rintro ev w2 ⟨rfl, hf⟩
  have HF2 := hid (HF1.out.trans hf)
  clear hf
  obtain ⟨w3, hw3⟩ : ∃ w3, w2.alloc (.cells #[.int .i64 e, .int .i64 3] 81) = w3 := ⟨_, rfl⟩
  have HF3 := hid (show Fr (fun _ => False) w w3 by rw [← hw3]; exact HF2.out.alloc _)
  have HC3 := hid (show ∀ w', Fr (fun _ => False) w3 w' → Ch w' w3.heap.size (.iface 76 (.pointer (some ⟨w2.heap.size, 0, none⟩))) e 3 [] ∧ Blk w' w2.heap.size 81 #[.int .i64 e, .int .i64 3] from fun w' hf => by
    have hb : Blk w3 w2.heap.size 81 #[.int .i64 e, .int .i64 3] := by rw [← hw3]; exact Blk.new _ _ _
    have hb2 := hb.fr hf (fun h => h)
    exact ⟨.leaf _ _ _ (by rw [← hw3]; simp) hb2, hb2⟩)
  have HW3 := hid hw3
  clear hw3
  go_wp2_with fail
  rw [HW3.out]
  refine (At_ch w3 (HG.out.fr HF3.out (fun h => h)) (HC3.out w3 (Fr.refl _ _)).1 (Nat.le_refl _)).mono ?_
  rintro ev w4 ⟨rfl, hf⟩
  have H34 := hid hf
  have HF4 := hid (HF3.out.trans hf)
  clear hf
  go_wp2_with fail
  refine (errN_calls w4).mono ?_
  rintro ev w5 ⟨rfl, rfl⟩
  go_wp2_with fail
  refine (unwrapN_calls w5).mono ?_
  rintro ev w6 ⟨rfl, rfl⟩
  go_wp2_with fail
  refine (Code_en w6 (HG.out.fr HF4.out (fun h => h)) (n := 0) (.inl rfl) (Nat.zero_le _)).mono ?_
  rintro ev w7 ⟨rfl, hf⟩
  have H37 := hid (H34.out.trans hf)
  have HF7 := hid (HF4.out.trans hf)
  clear hf
  go_wp2_with fail
  refine (Code_en w7 (HG.out.fr HF7.out (fun h => h)) (.inr ⟨_, _, (HC3.out w7 H37.out).1⟩) H37.out.size).mono ?_
  rintro ev w8 ⟨rfl, hf⟩
  have H38 := hid (H37.out.trans hf)
  have HF8 := hid (HF7.out.trans hf)
  clear hf
  go_wp2_with fail
  refine (Is_num w8 (.inr ⟨_, _, (HC3.out w8 H38.out).1⟩) HE.out).mono ?_
  rintro ev w9 ⟨rfl, rfl⟩
  have hdd : decide (e = e) = true := decide_eq_true rfl
  rw [hdd]
  go_wp2_with fail
  refine (unwrapF_calls w2.heap.size e 3 w9 (HC3.out w9 H38.out).2).mono ?_
  rintro ev w9b ⟨rfl, rfl⟩
  go_wp2_with fail
  refine (Is_ok _ _ w9b).mono ?_
  rintro ev w10 ⟨rfl, rfl⟩
  go_wp2_with fail
  refine (Code_ot _ w10 (HG.out.fr HF8.out (fun h => h))).mono ?_
  rintro ev w11 ⟨rfl, hf⟩
  have HF11 := hid (HF8.out.trans hf)
  clear hf
  go_wp2_with fail
  go_ret
  exact ⟨rfl, HF11.out⟩

set_option maxRecDepth 100000 in
set_option maxHeartbeats 8000000 in
/-- FaultOthers at OK. -/
theorem others_ok  (w : World) (hg : ErrT w) : Calls Tryd.prog 11 #[.int .i64 0] w fun ev w' => ev = .returned (.bool true) ∧ Fr (fun _ => False) w w' := by
  obtain ⟨e, he⟩ : ∃ e : Int, e = 0 := ⟨_, rfl⟩
  have HG := hid hg
  have heq := fun w => Go.Lib.run_eql_iface_int (P := Tryd.prog) (k := .i64) w e e Tryd.underlying84 (by kernel_rfl) Tryd.underlying35
  have hee : (e == e) = true := beq_self_eq_true e
  rw [hee] at heq
  clear hg
  rw [he] at heq
  subst he
  go_enter Tryd.func11, Tryd.ntmps11
  go_wp2_with fail
  refine (awake_calls w HG.out).mono ?_
  rintro ev w1 ⟨rfl, hf⟩
  have HF1 := hid hf
  clear hf
  go_wp2_with fail
  refine (At_en 0 w1 (HG.out.fr HF1.out (fun h => h))).mono ?_
  rintro ev w2 ⟨rfl, hf⟩
  have HF2 := hid (HF1.out.trans hf)
  clear hf
  obtain ⟨w3, hw3⟩ : ∃ w3, w2.alloc (.cells #[.int .i64 0, .int .i64 3] 81) = w3 := ⟨_, rfl⟩
  have HF3 := hid (show Fr (fun _ => False) w w3 by rw [← hw3]; exact HF2.out.alloc _)
  have HC3 := hid (show ∀ w', Fr (fun _ => False) w3 w' → Ch w' w3.heap.size (.iface 76 (.pointer (some ⟨w2.heap.size, 0, none⟩))) 0 3 [] ∧ Blk w' w2.heap.size 81 #[.int .i64 0, .int .i64 3] from fun w' hf => by
    have hb : Blk w3 w2.heap.size 81 #[.int .i64 0, .int .i64 3] := by rw [← hw3]; exact Blk.new _ _ _
    have hb2 := hb.fr hf (fun h => h)
    exact ⟨.leaf _ _ _ (by rw [← hw3]; simp) hb2, hb2⟩)
  have HW3 := hid hw3
  clear hw3
  go_wp2_with fail
  rw [HW3.out]
  refine (At_ch w3 (HG.out.fr HF3.out (fun h => h)) (HC3.out w3 (Fr.refl _ _)).1 (Nat.le_refl _)).mono ?_
  rintro ev w4 ⟨rfl, hf⟩
  have H34 := hid hf
  have HF4 := hid (HF3.out.trans hf)
  clear hf
  go_wp2_with fail
  refine (errN_calls w4).mono ?_
  rintro ev w5 ⟨rfl, rfl⟩
  go_wp2_with fail
  refine (unwrapN_calls w5).mono ?_
  rintro ev w6 ⟨rfl, rfl⟩
  go_wp2_with fail
  refine (Code_en w6 (HG.out.fr HF4.out (fun h => h)) (n := 0) (.inl rfl) (Nat.zero_le _)).mono ?_
  rintro ev w7 ⟨rfl, hf⟩
  have H37 := hid (H34.out.trans hf)
  have HF7 := hid (HF4.out.trans hf)
  clear hf
  go_wp2_with fail
  refine (Code_en w7 (HG.out.fr HF7.out (fun h => h)) (.inr ⟨_, _, (HC3.out w7 H37.out).1⟩) H37.out.size).mono ?_
  rintro ev w8 ⟨rfl, hf⟩
  have H38 := hid (H37.out.trans hf)
  have HF8 := hid (HF7.out.trans hf)
  clear hf
  go_wp2_with fail
  refine (unwrapF_calls w2.heap.size 0 3 w8 (HC3.out w8 H38.out).2).mono ?_
  rintro ev w9 ⟨rfl, rfl⟩
  go_wp2_with fail
  refine (Is_ok _ _ w9).mono ?_
  rintro ev w10 ⟨rfl, rfl⟩
  go_wp2_with fail
  refine (Code_ot _ w10 (HG.out.fr HF8.out (fun h => h))).mono ?_
  rintro ev w11 ⟨rfl, hf⟩
  have HF11 := hid (HF8.out.trans hf)
  clear hf
  go_wp2_with fail
  go_ret
  exact ⟨rfl, HF11.out⟩
end Go.Proofs.YtkmgiodhaaajjaaDoor.FltD
