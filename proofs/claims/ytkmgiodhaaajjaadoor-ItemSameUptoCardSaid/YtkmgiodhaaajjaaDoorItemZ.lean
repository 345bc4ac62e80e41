/- Layer item: the law ItemSame. -/
import Derived.Test.YtkmgiodhaaajjaaDoorItemY
import Derived.Test.YtkmgiodhaaajjaaDoorItemZa
import Derived.Deep.DeepCutAuto
set_option linter.unusedVariables false
set_option linter.unusedSimpArgs false
namespace Go.Proofs.YtkmgiodhaaajjaaDoor.ItemZ
open Go.IntWalk Go.RowKit Go.Proofs.YtkmgiodhaaajjaaDoor.Mem Go.Proofs.YtkmgiodhaaajjaaDoor.App Go.Proofs.YtkmgiodhaaajjaaDoor.UtfP Go.Proofs.YtkmgiodhaaajjaaDoor.FloatP Go.Proofs.YtkmgiodhaaajjaaDoor.FloatB Go.Proofs.YtkmgiodhaaajjaaDoor.ItemP Go.Proofs.YtkmgiodhaaajjaaDoor.ItemM Go.Proofs.YtkmgiodhaaajjaaDoor.Own Go.Proofs.YtkmgiodhaaajjaaDoor.ItemA Go.Proofs.YtkmgiodhaaajjaaDoor.ItemB Go.Proofs.YtkmgiodhaaajjaaDoor.ItemE Go.Proofs.YtkmgiodhaaajjaaDoor.Range Go.Proofs.YtkmgiodhaaajjaaDoor.ItemT Go.Proofs.YtkmgiodhaaajjaaDoor.ItemU Go.Proofs.YtkmgiodhaaajjaaDoor.ItemW Go.Proofs.YtkmgiodhaaajjaaDoor.ItemS Go.Proofs.YtkmgiodhaaajjaaDoor.ItemQ Go.Proofs.YtkmgiodhaaajjaaDoor.ItemX Go.Proofs.YtkmgiodhaaajjaaDoor.ItemY Go.Proofs.YtkmgiodhaaajjaaDoor.ItemZa

theorem blk4 {w : World} {g : Nat} {t : TypeId} {v0 v1 v2 v3 : Value} (h : Blk w g t #[v0, v1, v2, v3]) : w.cell? ⟨g, 0, none⟩ = some v0 ∧ w.cell? ⟨g, 1, none⟩ = some v1 ∧ w.cell? ⟨g, 2, none⟩ = some v2 ∧ w.cell? ⟨g, 3, none⟩ = some v3 ∧ w.frozen? ⟨g, 0, none⟩ = false ∧ w.frozen? ⟨g, 1, none⟩ = false ∧ w.frozen? ⟨g, 2, none⟩ = false ∧ w.frozen? ⟨g, 3, none⟩ = false := by
  have e0 := h.cell 0
  have e1 := h.cell 1
  have e2 := h.cell 2
  have e3 := h.cell 3
  simp at e0 e1 e2 e3
  exact ⟨e0, e1, e2, e3, h.frozen 0, h.frozen 1, h.frozen 2, h.frozen 3⟩
section
variable {X W : World} {a : Array Value} {t : TypeId} {o : Obj} {g : Nat}
theorem box_two (h : Fr (fun _ => False) ((X.alloc (.cells a t)).alloc o) W) : Hid (Blk W X.heap.size t a) := hid (((Blk.new X t a).alloc o).fr h (fun h => h))
theorem box_two' {b : Array Value} {t' : TypeId} (h : Fr (fun _ => False) ((X.alloc o).alloc (.cells b t')) W) : Hid (Blk W (X.heap.size + 1) t' b) := hid (by have := (Blk.new (X.alloc o) t' b).fr h (fun h => h); rwa [World.size_alloc] at this)
theorem box_one (h : Fr (fun _ => False) (X.alloc (.cells a t)) W) : Hid (Blk W X.heap.size t a) := hid ((Blk.new X t a).fr h (fun h => h))
theorem box_twod (h : Fr (fun _ => False) (((X.alloc (.cells a t)).alloc o)).drew W) : Hid (Blk W X.heap.size t a) := box_two (W := W) ⟨h.os, h.tape, h.output, h.size, h.block⟩
theorem box_twod' {b : Array Value} {t' : TypeId} (h : Fr (fun _ => False) ((X.alloc o).alloc (.cells b t')).drew W) : Hid (Blk W (X.heap.size + 1) t' b) := box_two' (W := W) ⟨h.os, h.tape, h.output, h.size, h.block⟩
theorem box_oned (h : Fr (fun _ => False) (X.alloc (.cells a t)).drew W) : Hid (Blk W X.heap.size t a) := box_one (W := W) ⟨h.os, h.tape, h.output, h.size, h.block⟩
theorem box_old (hb : Hid (Blk X g t a)) (h : Fr (fun _ => False) X W) : Hid (Blk W g t a) := hid (hb.out.fr h (fun h => h))
theorem box_old1 (hb : Hid (Blk X g t a)) (h : Fr (fun _ => False) (X.alloc o) W) : Hid (Blk W g t a) := hid ((hb.out.alloc o).fr h (fun h => h))
end
theorem far_all {w7 : World} {g : Nat} {t : TypeId} {a : Array Value} (h : Blk w7 g t a) : ∀ (W : World) (i j : Nat) (u : Value), (W.setCell ⟨g, i, none⟩ u).cell? ⟨w7.heap.size, j, none⟩ = W.cell? ⟨w7.heap.size, j, none⟩ := fun W i j u => World.cell?_setCell_far W _ _ u (Nat.ne_of_lt h.lt)
theorem decide_comm (x y : It) : decide (y = x) = decide (x = y) := by
  by_cases h : x = y
  · rw [decide_eq_true h, decide_eq_true h.symm]
  · rw [decide_eq_false h, decide_eq_false (fun e => h e.symm)]

set_option maxRecDepth 100000 in
set_option maxHeartbeats 8000000 in
theorem law_calls (x y : It) (hx : x.size ≤ 1048576) (hy : y.size ≤ 1048576) (cs ds : List Value) (w : World) (hD : Dbl w) (hi1 : ItAt w 0 w.heap.size x cs) (hi2 : ItAt w 0 w.heap.size y ds) :
    Calls Tryd.prog 4 #[.agg cs.toArray, .agg ds.toArray] w fun e w' => e = .returned (.bool true) ∧ Fr (fun _ => False) w w' := by
  have HX := hid hi1
  have HY := hid hi2
  have HXZ := hid hx
  have HYZ := hid hy
  obtain ⟨xx, hxx⟩ : ∃ xx, xx = x := ⟨_, rfl⟩
  obtain ⟨yy, hyy⟩ : ∃ yy, yy = y := ⟨_, rfl⟩
  rw [← hxx] at HX HXZ
  rw [← hyy] at HY HYZ
  obtain ⟨k, n, s, l⟩ := x
  obtain ⟨A, c, rfl, hc, hk, hn, hs, hl, hL⟩ := hi1
  obtain ⟨m, hm⟩ : ∃ m, l.length = m := ⟨_, rfl⟩
  rw [hm] at HX ⊢
  obtain ⟨k', n', s', l'⟩ := y
  obtain ⟨A', c', rfl, hc', hk', hn', hs', hl', hL'⟩ := hi2
  obtain ⟨m', hm'⟩ : ∃ m', l'.length = m' := ⟨_, rfl⟩
  rw [hm'] at HY ⊢
  obtain ⟨q, hq⟩ : ∃ q, decide (xx = yy) = q := ⟨_, rfl⟩
  have HQ := hid hq
  have HQ2 := hid (show decide (yy = xx) = q by rw [← hq]; exact decide_comm xx yy)
  have HXL := hid (show ∃ l0, xx = .mk k n s l0 ∧ l0.length = m from ⟨l, hxx, hm⟩)
  obtain ⟨w1, hw1⟩ : ∃ w1, (w.alloc (.cells #[.int .i64 k, .int .u64 n, .string s, .slice A m c] 25)).alloc (.cells #[.int .i64 k', .int .u64 n', .string s', .slice A' m' c'] 25) = w1 := ⟨_, rfl⟩
  have HF1 := hid (show Fr (fun _ => False) w w1 by rw [← hw1]; exact ((Fr.refl _ w).alloc _).alloc _)
  have HB1 := hid (show Blk w1 w.heap.size 25 #[.int .i64 k, .int .u64 n, .string s, .slice A m c] by rw [← hw1]; exact (Blk.new w _ _).alloc _)
  have HB2 := hid (show Blk w1 (w.heap.size + 1) 25 #[.int .i64 k', .int .u64 n', .string s', .slice A' m' c'] by rw [← hw1]; have := Blk.new (w.alloc (.cells #[.int .i64 k, .int .u64 n, .string s, .slice A m c] 25)) 25 #[.int .i64 k', .int .u64 n', .string s', .slice A' m' c']; rwa [World.size_alloc] at this)
  have HW1 := hid hw1
  have HDD := hid (hD.fr0 HF1.out)
  have HSF := hid (show ∀ w', Fr (fun _ => False) w1 w' → w'.cell? ⟨w.heap.size, 0, none⟩ = some (.int .i64 k) ∧ w'.cell? ⟨w.heap.size, 1, none⟩ = some (.int .u64 n) ∧ w'.cell? ⟨w.heap.size, 2, none⟩ = some (.string s) ∧ w'.cell? ⟨w.heap.size, 3, none⟩ = some (.slice A m c) ∧ w'.cell? ⟨w.heap.size + 1, 0, none⟩ = some (.int .i64 k') ∧ w'.cell? ⟨w.heap.size + 1, 1, none⟩ = some (.int .u64 n') ∧ w'.cell? ⟨w.heap.size + 1, 2, none⟩ = some (.string s') ∧ w'.cell? ⟨w.heap.size + 1, 3, none⟩ = some (.slice A' m' c') ∧ Fr (fun _ => False) w1 w' from fun w' hf => by
    have h1 := HB1.out.fr hf (fun h => h)
    have h2 := HB2.out.fr hf (fun h => h)
    have e0 := h1.cell 0
    have e1 := h1.cell 1
    have e2 := h1.cell 2
    have e3 := h1.cell 3
    have f0 := h2.cell 0
    have f1 := h2.cell 1
    have f2 := h2.cell 2
    have f3 := h2.cell 3
    simp at e0 e1 e2 e3 f0 f1 f2 f3
    exact ⟨e0, e1, e2, e3, f0, f1, f2, f3, hf⟩)
  -- the calls, from wherever the boxes stand
  have HSA := hid (show ∀ wx, Fr (fun _ => False) w1 wx → ItAt wx 0 w.heap.size xx [.int .i64 k, .int .u64 n, .string s, .slice A m c] ∧ ItAt wx 0 w.heap.size yy [.int .i64 k', .int .u64 n', .string s', .slice A' m' c'] ∧ w.heap.size ≤ wx.heap.size from fun wx hf => ⟨(HX.out.fr0 (HF1.out.trans hf) (Nat.le_refl _)), (HY.out.fr0 (HF1.out.trans hf) (Nat.le_refl _)), (HF1.out.trans hf).size⟩)
  have HAB := hid (fun wx (hf : wx.cell? ⟨w.heap.size, 0, none⟩ = some (.int .i64 k) ∧ wx.cell? ⟨w.heap.size, 1, none⟩ = some (.int .u64 n) ∧ wx.cell? ⟨w.heap.size, 2, none⟩ = some (.string s) ∧ wx.cell? ⟨w.heap.size, 3, none⟩ = some (.slice A m c) ∧ wx.cell? ⟨w.heap.size + 1, 0, none⟩ = some (.int .i64 k') ∧ wx.cell? ⟨w.heap.size + 1, 1, none⟩ = some (.int .u64 n') ∧ wx.cell? ⟨w.heap.size + 1, 2, none⟩ = some (.string s') ∧ wx.cell? ⟨w.heap.size + 1, 3, none⟩ = some (.slice A' m' c') ∧ Fr (fun _ => False) w1 wx) => (same_calls 2000000 xx yy (by have := HXZ.out; omega) (Nat.le_refl _) 0 w.heap.size 0 w.heap.size _ _ wx (HSA.out wx hf.2.2.2.2.2.2.2.2).2.2 (HSA.out wx hf.2.2.2.2.2.2.2.2).2.2 (HSA.out wx hf.2.2.2.2.2.2.2.2).1 (HSA.out wx hf.2.2.2.2.2.2.2.2).2.1).mono (R' := fun e w' => e = .returned (.bool q) ∧ w'.cell? ⟨w.heap.size, 0, none⟩ = some (.int .i64 k) ∧ w'.cell? ⟨w.heap.size, 1, none⟩ = some (.int .u64 n) ∧ w'.cell? ⟨w.heap.size, 2, none⟩ = some (.string s) ∧ w'.cell? ⟨w.heap.size, 3, none⟩ = some (.slice A m c) ∧ w'.cell? ⟨w.heap.size + 1, 0, none⟩ = some (.int .i64 k') ∧ w'.cell? ⟨w.heap.size + 1, 1, none⟩ = some (.int .u64 n') ∧ w'.cell? ⟨w.heap.size + 1, 2, none⟩ = some (.string s') ∧ w'.cell? ⟨w.heap.size + 1, 3, none⟩ = some (.slice A' m' c') ∧ Fr (fun _ => False) w1 w') (fun e w' h => ⟨by rw [h.1, HQ.out], HSF.out w' (hf.2.2.2.2.2.2.2.2.then_ h.2 (fun _ _ h => h))⟩))
  have HBA := hid (fun wx (hf : wx.cell? ⟨w.heap.size, 0, none⟩ = some (.int .i64 k) ∧ wx.cell? ⟨w.heap.size, 1, none⟩ = some (.int .u64 n) ∧ wx.cell? ⟨w.heap.size, 2, none⟩ = some (.string s) ∧ wx.cell? ⟨w.heap.size, 3, none⟩ = some (.slice A m c) ∧ wx.cell? ⟨w.heap.size + 1, 0, none⟩ = some (.int .i64 k') ∧ wx.cell? ⟨w.heap.size + 1, 1, none⟩ = some (.int .u64 n') ∧ wx.cell? ⟨w.heap.size + 1, 2, none⟩ = some (.string s') ∧ wx.cell? ⟨w.heap.size + 1, 3, none⟩ = some (.slice A' m' c') ∧ Fr (fun _ => False) w1 wx) => (same_calls 2000000 yy xx (by have := HYZ.out; omega) (Nat.le_refl _) 0 w.heap.size 0 w.heap.size _ _ wx (HSA.out wx hf.2.2.2.2.2.2.2.2).2.2 (HSA.out wx hf.2.2.2.2.2.2.2.2).2.2 (HSA.out wx hf.2.2.2.2.2.2.2.2).2.1 (HSA.out wx hf.2.2.2.2.2.2.2.2).1).mono (R' := fun e w' => e = .returned (.bool q) ∧ w'.cell? ⟨w.heap.size, 0, none⟩ = some (.int .i64 k) ∧ w'.cell? ⟨w.heap.size, 1, none⟩ = some (.int .u64 n) ∧ w'.cell? ⟨w.heap.size, 2, none⟩ = some (.string s) ∧ w'.cell? ⟨w.heap.size, 3, none⟩ = some (.slice A m c) ∧ w'.cell? ⟨w.heap.size + 1, 0, none⟩ = some (.int .i64 k') ∧ w'.cell? ⟨w.heap.size + 1, 1, none⟩ = some (.int .u64 n') ∧ w'.cell? ⟨w.heap.size + 1, 2, none⟩ = some (.string s') ∧ w'.cell? ⟨w.heap.size + 1, 3, none⟩ = some (.slice A' m' c') ∧ Fr (fun _ => False) w1 w') (fun e w' h => ⟨by rw [h.1, HQ2.out], HSF.out w' (hf.2.2.2.2.2.2.2.2.then_ h.2 (fun _ _ h => h))⟩))
  have HAA := hid (fun wx (hf : wx.cell? ⟨w.heap.size, 0, none⟩ = some (.int .i64 k) ∧ wx.cell? ⟨w.heap.size, 1, none⟩ = some (.int .u64 n) ∧ wx.cell? ⟨w.heap.size, 2, none⟩ = some (.string s) ∧ wx.cell? ⟨w.heap.size, 3, none⟩ = some (.slice A m c) ∧ wx.cell? ⟨w.heap.size + 1, 0, none⟩ = some (.int .i64 k') ∧ wx.cell? ⟨w.heap.size + 1, 1, none⟩ = some (.int .u64 n') ∧ wx.cell? ⟨w.heap.size + 1, 2, none⟩ = some (.string s') ∧ wx.cell? ⟨w.heap.size + 1, 3, none⟩ = some (.slice A' m' c') ∧ Fr (fun _ => False) w1 wx) => (same_calls 2000000 xx xx (by have := HXZ.out; omega) (Nat.le_refl _) 0 w.heap.size 0 w.heap.size _ _ wx (HSA.out wx hf.2.2.2.2.2.2.2.2).2.2 (HSA.out wx hf.2.2.2.2.2.2.2.2).2.2 (HSA.out wx hf.2.2.2.2.2.2.2.2).1 (HSA.out wx hf.2.2.2.2.2.2.2.2).1).mono (R' := fun e w' => e = .returned (.bool true) ∧ w'.cell? ⟨w.heap.size, 0, none⟩ = some (.int .i64 k) ∧ w'.cell? ⟨w.heap.size, 1, none⟩ = some (.int .u64 n) ∧ w'.cell? ⟨w.heap.size, 2, none⟩ = some (.string s) ∧ w'.cell? ⟨w.heap.size, 3, none⟩ = some (.slice A m c) ∧ w'.cell? ⟨w.heap.size + 1, 0, none⟩ = some (.int .i64 k') ∧ w'.cell? ⟨w.heap.size + 1, 1, none⟩ = some (.int .u64 n') ∧ w'.cell? ⟨w.heap.size + 1, 2, none⟩ = some (.string s') ∧ w'.cell? ⟨w.heap.size + 1, 3, none⟩ = some (.slice A' m' c') ∧ Fr (fun _ => False) w1 w') (fun e w' h => ⟨by rw [h.1, decide_eq_true rfl], HSF.out w' (hf.2.2.2.2.2.2.2.2.then_ h.2 (fun _ _ h => h))⟩))
  have HRAB := hid (fun wx (hf : wx.cell? ⟨w.heap.size, 0, none⟩ = some (.int .i64 k) ∧ wx.cell? ⟨w.heap.size, 1, none⟩ = some (.int .u64 n) ∧ wx.cell? ⟨w.heap.size, 2, none⟩ = some (.string s) ∧ wx.cell? ⟨w.heap.size, 3, none⟩ = some (.slice A m c) ∧ wx.cell? ⟨w.heap.size + 1, 0, none⟩ = some (.int .i64 k') ∧ wx.cell? ⟨w.heap.size + 1, 1, none⟩ = some (.int .u64 n') ∧ wx.cell? ⟨w.heap.size + 1, 2, none⟩ = some (.string s') ∧ wx.cell? ⟨w.heap.size + 1, 3, none⟩ = some (.slice A' m' c') ∧ Fr (fun _ => False) w1 wx) => (refsame_calls 2000000 xx yy (by have := HXZ.out; omega) (Nat.le_refl _) 0 w.heap.size 0 w.heap.size _ _ wx (HSA.out wx hf.2.2.2.2.2.2.2.2).2.2 (HSA.out wx hf.2.2.2.2.2.2.2.2).2.2 (HSA.out wx hf.2.2.2.2.2.2.2.2).1 (HSA.out wx hf.2.2.2.2.2.2.2.2).2.1).mono (R' := fun e w' => e = .returned (.bool q) ∧ w'.cell? ⟨w.heap.size, 0, none⟩ = some (.int .i64 k) ∧ w'.cell? ⟨w.heap.size, 1, none⟩ = some (.int .u64 n) ∧ w'.cell? ⟨w.heap.size, 2, none⟩ = some (.string s) ∧ w'.cell? ⟨w.heap.size, 3, none⟩ = some (.slice A m c) ∧ w'.cell? ⟨w.heap.size + 1, 0, none⟩ = some (.int .i64 k') ∧ w'.cell? ⟨w.heap.size + 1, 1, none⟩ = some (.int .u64 n') ∧ w'.cell? ⟨w.heap.size + 1, 2, none⟩ = some (.string s') ∧ w'.cell? ⟨w.heap.size + 1, 3, none⟩ = some (.slice A' m' c') ∧ Fr (fun _ => False) w1 w') (fun e w' h => ⟨by rw [h.1, HQ.out], HSF.out w' (hf.2.2.2.2.2.2.2.2.then_ h.2 (fun _ _ h => h))⟩))
  clear hw1 hx hy hxx hyy hk hn hs hl hL hm hc hk' hn' hs' hl' hL' hm' hc' hq hD
  obtain ⟨c0, c1, c2, c3, d0, d1, d2, d3, _⟩ := HSF.out w1 (Fr.refl _ _)
  go_enter Tryd.func4, Tryd.ntmps4
  go_wp2_with fail
  rw [HW1.out]
  refine (awake_calls w1 HDD.out).mono ?_
  rintro e w2 ⟨rfl, hf⟩
  have HF2 := hid hf
  clear c0 c1 c2 c3 d0 d1 d2 d3 hf
  obtain ⟨c0, c1, c2, c3, d0, d1, d2, d3, _⟩ := HSF.out w2 HF2.out
  go_wp2_with fail
  refine (great_calls xx (by have := HXZ.out; omega) 0 w.heap.size _ w2 (HSA.out _ HF2.out).2.2 (HSA.out _ HF2.out).1).mono ?_
  rintro e w3 ⟨⟨b, rfl⟩, hf⟩
  have HF3 := hid (HF2.out.then_ hf (fun _ _ h => h))
  clear c0 c1 c2 c3 d0 d1 d2 d3 hf
  obtain ⟨c0, c1, c2, c3, d0, d1, d2, d3, _⟩ := HSF.out w3 HF3.out
  cases b with
  | true =>
    go_wp2_with fail
    go_ret
    exact ⟨rfl, HF1.out.trans HF3.out⟩
  | false =>
  go_wp2_with fail
  refine (great_calls yy (by have := HYZ.out; omega) 0 w.heap.size _ w3 (HSA.out _ HF3.out).2.2 (HSA.out _ HF3.out).2.1).mono ?_
  rintro e w4 ⟨⟨b, rfl⟩, hf⟩
  have HF4 := hid (HF3.out.then_ hf (fun _ _ h => h))
  clear c0 c1 c2 c3 d0 d1 d2 d3 hf
  obtain ⟨c0, c1, c2, c3, d0, d1, d2, d3, _⟩ := HSF.out w4 HF4.out
  cases b with
  | true =>
    go_wp2_with fail
    go_ret
    exact ⟨rfl, HF1.out.trans HF4.out⟩
  | false =>
  have hqq : (q != q) = false := by cases q <;> rfl
  go_wp2_with fail
  go_region_held3 (fun w' => w'.cell? ⟨w.heap.size, 0, none⟩ = some (.int .i64 k) ∧ w'.cell? ⟨w.heap.size, 1, none⟩ = some (.int .u64 n) ∧ w'.cell? ⟨w.heap.size, 2, none⟩ = some (.string s) ∧ w'.cell? ⟨w.heap.size, 3, none⟩ = some (.slice A m c) ∧ w'.cell? ⟨w.heap.size + 1, 0, none⟩ = some (.int .i64 k') ∧ w'.cell? ⟨w.heap.size + 1, 1, none⟩ = some (.int .u64 n') ∧ w'.cell? ⟨w.heap.size + 1, 2, none⟩ = some (.string s') ∧ w'.cell? ⟨w.heap.size + 1, 3, none⟩ = some (.slice A' m' c') ∧ Fr (fun _ => False) w1 w')
    (first | exact HSF.out _ HF4.out | exact HSF.out _ HF4.out.drew | assumption)
    (first
      | ((go_at_call 24; with_reducible refine (HAB.out _ (by assumption)).mono ?_; rintro e w5 ⟨rfl, hS⟩))
      | ((go_at_call 24; with_reducible refine (HBA.out _ (by assumption)).mono ?_; rintro e w5 ⟨rfl, hS⟩))
      | ((go_at_call 24; with_reducible refine (HAA.out _ (by assumption)).mono ?_; rintro e w5 ⟨rfl, hS⟩))
      | ((go_at_call 23; with_reducible refine (HRAB.out _ (by assumption)).mono ?_; rintro e w5 ⟨rfl, hS⟩)))
  have HF5 := hid hS.2.2.2.2.2.2.2.2
  clear c0 c1 c2 c3 d0 d1 d2 d3 hS
  obtain ⟨c0, c1, c2, c3, _⟩ := HSF.out w5 HF5.out
  go_upto_region 7 with fail
  have HCF := hid (show ∀ w', Fr (fun _ => False) w5 w' → w'.cell? ⟨w.heap.size, 0, none⟩ = some (.int .i64 k) ∧ w'.cell? ⟨w.heap.size, 1, none⟩ = some (.int .u64 n) ∧ w'.cell? ⟨w.heap.size, 2, none⟩ = some (.string s) ∧ w'.cell? ⟨w.heap.size, 3, none⟩ = some (.slice A m c) from fun w' hf => by
    obtain ⟨h1, h2, h3, h4, _⟩ := HSF.out w' (HF5.out.then_ hf (fun _ _ h => h))
    exact ⟨h1, h2, h3, h4⟩)
  have HAL := hid (fun wx (o : Obj) (hf : wx.cell? ⟨w.heap.size, 0, none⟩ = some (.int .i64 k) ∧ wx.cell? ⟨w.heap.size, 1, none⟩ = some (.int .u64 n) ∧ wx.cell? ⟨w.heap.size, 2, none⟩ = some (.string s) ∧ wx.cell? ⟨w.heap.size, 3, none⟩ = some (.slice A m c) ∧ Fr (fun _ => False) w5 wx) => show (wx.alloc o).cell? ⟨w.heap.size, 0, none⟩ = some (.int .i64 k) ∧ (wx.alloc o).cell? ⟨w.heap.size, 1, none⟩ = some (.int .u64 n) ∧ (wx.alloc o).cell? ⟨w.heap.size, 2, none⟩ = some (.string s) ∧ (wx.alloc o).cell? ⟨w.heap.size, 3, none⟩ = some (.slice A m c) ∧ Fr (fun _ => False) w5 (wx.alloc o) from ⟨(HCF.out _ (hf.2.2.2.2.alloc o)).1, (HCF.out _ (hf.2.2.2.2.alloc o)).2.1, (HCF.out _ (hf.2.2.2.2.alloc o)).2.2.1, (HCF.out _ (hf.2.2.2.2.alloc o)).2.2.2, hf.2.2.2.2.alloc o⟩)
  have HSC := hid (fun wx (p : Addr) (u : Value) (hf : wx.cell? ⟨w.heap.size, 0, none⟩ = some (.int .i64 k) ∧ wx.cell? ⟨w.heap.size, 1, none⟩ = some (.int .u64 n) ∧ wx.cell? ⟨w.heap.size, 2, none⟩ = some (.string s) ∧ wx.cell? ⟨w.heap.size, 3, none⟩ = some (.slice A m c) ∧ Fr (fun _ => False) w5 wx) (hp : w5.heap.size ≤ p.block) => show (wx.setCell p u).cell? ⟨w.heap.size, 0, none⟩ = some (.int .i64 k) ∧ (wx.setCell p u).cell? ⟨w.heap.size, 1, none⟩ = some (.int .u64 n) ∧ (wx.setCell p u).cell? ⟨w.heap.size, 2, none⟩ = some (.string s) ∧ (wx.setCell p u).cell? ⟨w.heap.size, 3, none⟩ = some (.slice A m c) ∧ Fr (fun _ => False) w5 (wx.setCell p u) from ⟨(HCF.out _ (hf.2.2.2.2.setCell (.inr hp) u)).1, (HCF.out _ (hf.2.2.2.2.setCell (.inr hp) u)).2.1, (HCF.out _ (hf.2.2.2.2.setCell (.inr hp) u)).2.2.1, (HCF.out _ (hf.2.2.2.2.setCell (.inr hp) u)).2.2.2, hf.2.2.2.2.setCell (.inr hp) u⟩)
  have HCC := hid (fun wx (hf : wx.cell? ⟨w.heap.size, 0, none⟩ = some (.int .i64 k) ∧ wx.cell? ⟨w.heap.size, 1, none⟩ = some (.int .u64 n) ∧ wx.cell? ⟨w.heap.size, 2, none⟩ = some (.string s) ∧ wx.cell? ⟨w.heap.size, 3, none⟩ = some (.slice A m c) ∧ Fr (fun _ => False) w5 wx) => (copy_calls 2000000 xx (by have := HXZ.out; omega) (Nat.le_refl _) 0 w.heap.size _ wx (HSA.out wx (HF5.out.then_ hf.2.2.2.2 (fun _ _ h => h))).2.2 (HSA.out wx (HF5.out.then_ hf.2.2.2.2 (fun _ _ h => h))).1).mono (R' := fun e w' => (∃ A6 c6, e = .returned (.agg #[.int .i64 k, .int .u64 n, .string s, .slice A6 m c6]) ∧ CpAt 25 w' (fun b => wx.heap.size ≤ b ∧ b < w'.heap.size) xx [.int .i64 k, .int .u64 n, .string s, .slice A6 m c6] ∧ Fr (fun _ => False) wx w') ∧ w'.cell? ⟨w.heap.size, 0, none⟩ = some (.int .i64 k) ∧ w'.cell? ⟨w.heap.size, 1, none⟩ = some (.int .u64 n) ∧ w'.cell? ⟨w.heap.size, 2, none⟩ = some (.string s) ∧ w'.cell? ⟨w.heap.size, 3, none⟩ = some (.slice A m c) ∧ Fr (fun _ => False) w5 w') (fun e w' h => ⟨by
    obtain ⟨cs', h1, h2, h3⟩ := h
    obtain ⟨l0, e1, e2⟩ := HXL.out
    have h4 := h2
    rw [e1] at h4
    obtain ⟨A6, c6, ccs6, e3, _⟩ := h4
    rw [e2] at e3
    subst e3
    exact ⟨A6, c6, h1, h2, h3⟩, by
    obtain ⟨cs', _, _, hf2⟩ := h
    have h3 := hf.2.2.2.2.then_ hf2 (fun _ _ h => h)
    exact ⟨(HCF.out _ h3).1, (HCF.out _ h3).2.1, (HCF.out _ h3).2.2.1, (HCF.out _ h3).2.2.2, h3⟩⟩))
  have HDW := hid (fun wx (hf : wx.cell? ⟨w.heap.size, 0, none⟩ = some (.int .i64 k) ∧ wx.cell? ⟨w.heap.size, 1, none⟩ = some (.int .u64 n) ∧ wx.cell? ⟨w.heap.size, 2, none⟩ = some (.string s) ∧ wx.cell? ⟨w.heap.size, 3, none⟩ = some (.slice A m c) ∧ Fr (fun _ => False) w5 wx) => show wx.drew.cell? ⟨w.heap.size, 0, none⟩ = some (.int .i64 k) ∧ wx.drew.cell? ⟨w.heap.size, 1, none⟩ = some (.int .u64 n) ∧ wx.drew.cell? ⟨w.heap.size, 2, none⟩ = some (.string s) ∧ wx.drew.cell? ⟨w.heap.size, 3, none⟩ = some (.slice A m c) ∧ Fr (fun _ => False) w5 wx.drew from ⟨(HCF.out _ hf.2.2.2.2.drew).1, (HCF.out _ hf.2.2.2.2.drew).2.1, (HCF.out _ hf.2.2.2.2.drew).2.2.1, (HCF.out _ hf.2.2.2.2.drew).2.2.2, hf.2.2.2.2.drew⟩)
  have HDR := hid (show w5.drew.cell? ⟨w.heap.size, 0, none⟩ = some (.int .i64 k) ∧ w5.drew.cell? ⟨w.heap.size, 1, none⟩ = some (.int .u64 n) ∧ w5.drew.cell? ⟨w.heap.size, 2, none⟩ = some (.string s) ∧ w5.drew.cell? ⟨w.heap.size, 3, none⟩ = some (.slice A m c) ∧ Fr (fun _ => False) w5 w5.drew from ⟨c0, c1, c2, c3, (Fr.refl _ _).drew⟩)
  have HD0 := hid (show w5.cell? ⟨w.heap.size, 0, none⟩ = some (.int .i64 k) ∧ w5.cell? ⟨w.heap.size, 1, none⟩ = some (.int .u64 n) ∧ w5.cell? ⟨w.heap.size, 2, none⟩ = some (.string s) ∧ w5.cell? ⟨w.heap.size, 3, none⟩ = some (.slice A m c) ∧ Fr (fun _ => False) w5 w5 from ⟨c0, c1, c2, c3, Fr.refl _ _⟩)
  have tok1 : True := trivial
  go_cut [5, 6] (fun s5 s6 wx => Two 25 w5 xx k n s m s5 s6 wx)
  case first =>
    go_region_held3 (fun w' => w'.cell? ⟨w.heap.size, 0, none⟩ = some (.int .i64 k) ∧ w'.cell? ⟨w.heap.size, 1, none⟩ = some (.int .u64 n) ∧ w'.cell? ⟨w.heap.size, 2, none⟩ = some (.string s) ∧ w'.cell? ⟨w.heap.size, 3, none⟩ = some (.slice A m c) ∧ Fr (fun _ => False) w5 w')
      (first
        | (with_reducible assumption)
        | (with_reducible exact HDR.out)
        | (with_reducible exact HD0.out)
        | (repeat' (first | (with_reducible assumption) | (with_reducible exact HD0.out) | (with_reducible refine HDW.out _ ?_) | (with_reducible refine HAL.out _ _ ?_) | (with_reducible refine HSC.out _ _ _ ?_ ?_) | omega | (simp; done) | (simp; omega))))
      (first
        | ((have _t := tok1; clear tok1; go_at_call 25; refine (HCC.out _ (by assumption)).mono ?_; rintro e w6a ⟨⟨A6a, c6a, rfl, hcpa, hf6⟩, hSa⟩; have hz6a := hSa.2.2.2.2.size; have hcpa := hid hcpa; (first
          | ((with_reducible (have hb1 := box_two hf6; have hb2 := box_two' hf6)); (obtain ⟨x0, x1, x2, x3, x4, x5, x6, x7⟩ := blk4 hb1.out; obtain ⟨y0, y1, y2, y3, y4, y5, y6, y7⟩ := blk4 hb2.out))
          | ((with_reducible (have hb1 := box_twod hf6; have hb2 := box_twod' hf6)); (obtain ⟨x0, x1, x2, x3, x4, x5, x6, x7⟩ := blk4 hb1.out; obtain ⟨y0, y1, y2, y3, y4, y5, y6, y7⟩ := blk4 hb2.out))
          | ((with_reducible (have hb2 := box_one hf6; have hb1 := box_old1 hb1 hf6)); (obtain ⟨x0, x1, x2, x3, x4, x5, x6, x7⟩ := blk4 hb1.out; obtain ⟨y0, y1, y2, y3, y4, y5, y6, y7⟩ := blk4 hb2.out))
          | ((with_reducible (have hb1 := box_one hf6)); (obtain ⟨x0, x1, x2, x3, x4, x5, x6, x7⟩ := blk4 hb1.out; have zall := fun o => blk4 (Blk.alloc hb1.out o); have hn1 := Nat.ne_of_lt hb1.out.lt; have hn2 := Nat.ne_of_gt hb1.out.lt; have hfar := far_all hb1.out))
          | ((with_reducible (have hb1 := box_oned hf6)); (obtain ⟨x0, x1, x2, x3, x4, x5, x6, x7⟩ := blk4 hb1.out; have zall := fun o => blk4 (Blk.alloc hb1.out o); have hn1 := Nat.ne_of_lt hb1.out.lt; have hn2 := Nat.ne_of_gt hb1.out.lt; have hfar := far_all hb1.out))
          | ((with_reducible (have hb1 := box_old hb1 hf6; have hb2 := box_old hb2 hf6)); (obtain ⟨x0, x1, x2, x3, x4, x5, x6, x7⟩ := blk4 hb1.out; obtain ⟨y0, y1, y2, y3, y4, y5, y6, y7⟩ := blk4 hb2.out))
          | ((with_reducible (have hb1 := box_old hb1 hf6)); (obtain ⟨x0, x1, x2, x3, x4, x5, x6, x7⟩ := blk4 hb1.out; have zall := fun o => blk4 (Blk.alloc hb1.out o); have hn1 := Nat.ne_of_lt hb1.out.lt; have hn2 := Nat.ne_of_gt hb1.out.lt; have hfar := far_all hb1.out))
          | skip); have hsza := hf6.size; have hfa := hid hf6; clear hf6))
        | ((go_at_call 25; refine (HCC.out _ (by assumption)).mono ?_; rintro e w6b ⟨⟨A6b, c6b, rfl, hcpb, hf6⟩, hSb⟩; have hz6b := hSb.2.2.2.2.size; have hcpb := hid hcpb; (first
          | ((with_reducible (have hb1 := box_two hf6; have hb2 := box_two' hf6)); (obtain ⟨x0, x1, x2, x3, x4, x5, x6, x7⟩ := blk4 hb1.out; obtain ⟨y0, y1, y2, y3, y4, y5, y6, y7⟩ := blk4 hb2.out))
          | ((with_reducible (have hb1 := box_twod hf6; have hb2 := box_twod' hf6)); (obtain ⟨x0, x1, x2, x3, x4, x5, x6, x7⟩ := blk4 hb1.out; obtain ⟨y0, y1, y2, y3, y4, y5, y6, y7⟩ := blk4 hb2.out))
          | ((with_reducible (have hb2 := box_one hf6; have hb1 := box_old1 hb1 hf6)); (obtain ⟨x0, x1, x2, x3, x4, x5, x6, x7⟩ := blk4 hb1.out; obtain ⟨y0, y1, y2, y3, y4, y5, y6, y7⟩ := blk4 hb2.out))
          | ((with_reducible (have hb1 := box_one hf6)); (obtain ⟨x0, x1, x2, x3, x4, x5, x6, x7⟩ := blk4 hb1.out; have zall := fun o => blk4 (Blk.alloc hb1.out o); have hn1 := Nat.ne_of_lt hb1.out.lt; have hn2 := Nat.ne_of_gt hb1.out.lt; have hfar := far_all hb1.out))
          | ((with_reducible (have hb1 := box_oned hf6)); (obtain ⟨x0, x1, x2, x3, x4, x5, x6, x7⟩ := blk4 hb1.out; have zall := fun o => blk4 (Blk.alloc hb1.out o); have hn1 := Nat.ne_of_lt hb1.out.lt; have hn2 := Nat.ne_of_gt hb1.out.lt; have hfar := far_all hb1.out))
          | ((with_reducible (have hb1 := box_old hb1 hf6; have hb2 := box_old hb2 hf6)); (obtain ⟨x0, x1, x2, x3, x4, x5, x6, x7⟩ := blk4 hb1.out; obtain ⟨y0, y1, y2, y3, y4, y5, y6, y7⟩ := blk4 hb2.out))
          | ((with_reducible (have hb1 := box_old hb1 hf6)); (obtain ⟨x0, x1, x2, x3, x4, x5, x6, x7⟩ := blk4 hb1.out; have zall := fun o => blk4 (Blk.alloc hb1.out o); have hn1 := Nat.ne_of_lt hb1.out.lt; have hn2 := Nat.ne_of_gt hb1.out.lt; have hfar := far_all hb1.out))
          | skip); have hszb := hf6.size; have hfb := hid hf6; clear hf6)))
    all_goals
      go_wp2_with fail
      go_meet
      case rel =>
        have q1 := hfa.out.size
        have q2 := hfb.out.size
        simp at q1 q2
        try have q3 := hb1.out.lt
        try have q4 := hb2.out.lt
        refine two_mk hcpa.out hcpb.out ?_ ?_ ?_ ?_ ?_
        · with_reducible
            first
              | exact sh1 _ _ _ _
              | exact sh1' _ _ _ _
              | exact sh2 hb1.out
              | exact sh3 hb1.out
              | exact sh4 hb1.out hb2.out (by omega)
              | exact sh4 hb2.out hb1.out (by omega)
        · repeat' (first | (with_reducible exact Fr.refl _ _) | (with_reducible refine fr_sets ?_ (.inl rfl)) | (with_reducible refine fr_sets ?_ (.inr rfl)) | (with_reducible refine Fr.alloc ?_ _) | (with_reducible refine Fr.drew ?_) | (with_reducible refine Fr.then_ ?_ hfb.out (fun _ _ h => h.elim)) | (with_reducible refine Fr.then_ ?_ hfa.out (fun _ _ h => h.elim)))
        · repeat' (first | (with_reducible exact Fr.refl _ _) | (with_reducible refine fr_sets ?_ (.inl rfl)) | (with_reducible refine fr_sets ?_ (.inr rfl)) | (with_reducible refine Fr.alloc ?_ _) | (with_reducible refine Fr.drew ?_) | (with_reducible refine Fr.then_ ?_ hfb.out (fun _ _ h => h.elim)) | (with_reducible refine Fr.then_ ?_ hfa.out (fun _ _ h => h.elim)))
        · repeat' (first | (with_reducible exact Fr.refl _ _) | (with_reducible refine fr_sets ?_ (.inl rfl)) | (with_reducible refine fr_sets ?_ (.inr rfl)) | (with_reducible refine Fr.alloc ?_ _) | (with_reducible refine Fr.drew ?_) | (with_reducible refine Fr.then_ ?_ hfb.out (fun _ _ h => h.elim)) | (with_reducible refine Fr.then_ ?_ hfa.out (fun _ _ h => h.elim)))
        · refine ⟨?_, ?_, ?_, ?_, ?_, ?_, ?_, ?_, ?_, ?_, ?_, ?_⟩ <;> (try simp) <;> omega
  case rest =>
    obtain ⟨g5, g6, A5, A6, c5, c6, B5, B6, rfl, rfl, hb5, hb6, p5, p6, hB5, hB6, z5, z6, zne, hfc⟩ := hcut
    have HB5 := hid hb5
    have HB6 := hid hb6
    have HP5 := hid p5
    have HP6 := hid p6
    have HBB := hid hB5
    have HBC := hid hB6
    have HFC := hid hfc
    have hn5 : ¬ B5 g5 := fun h => (HBB.out g5 h).2.2.1 rfl
    have hn6 : ¬ B5 g6 := fun h => (HBB.out g6 h).2.2.2.1 rfl
    have HN5 := hid hn5
    have HN6 := hid hn6
    have x0 := hb5.cell 0
    have x1 := hb5.cell 1
    have x2 := hb5.cell 2
    have x3 := hb5.cell 3
    simp at x0 x1 x2 x3
    clear hb5 hb6 p5 p6 hB5 hB6 zne hn5 hn6 c0 c1 c2 c3
    obtain ⟨c0, c1, c2, c3⟩ := HCF.out wc hfc
    clear hfc
    have HS1 := hid (show ∀ wx, Fr (fun _ => False) w5 wx → ItAt wx 0 w.heap.size xx [.int .i64 k, .int .u64 n, .string s, .slice A m c] ∧ w.heap.size ≤ wx.heap.size from fun wx h => ⟨(HSA.out wx (HF5.out.then_ h (fun _ _ h => h))).1, (HSA.out wx (HF5.out.then_ h (fun _ _ h => h))).2.2⟩)
    go_wp2_with fail
    refine (refsame_calls 2000000 xx xx (by have := HXZ.out; omega) (Nat.le_refl _) w5.heap.size wc.heap.size 0 w.heap.size _ _ wc (Nat.le_refl _) (HS1.out wc HFC.out).2 (CpAt.it (fun b hb => ⟨(HBB.out b hb).1, (HBB.out b hb).2.1⟩) _ _ HP5.out) (HS1.out wc HFC.out).1).mono ?_
    rintro e w7 ⟨rfl, hf⟩
    have HF7 := hid hf
    rw [decide_eq_true (p := xx = xx) rfl]
    clear x0 x1 x2 x3 c0 c1 c2 c3 hf
    obtain ⟨sl, hm5, hrs⟩ : ∃ sl, m ≤ 140737488355328 ∧ Rs w7 B5 A5 m c5 sl := by
      obtain ⟨l0, hxl, hll⟩ := HXL.out
      have h1 := CpAt.fr HF7.out (fun _ _ h => h) _ _ HP5.out
      rw [hxl] at h1
      rw [← hll] at h1 ⊢
      obtain ⟨sl, h2⟩ := CpAt.rs h1
      exact ⟨sl, (CpAt.rw_ h1).2.1, h2⟩
    have HRS := hid hrs
    have hmc := hrs.1
    clear hrs
    go_wp2_with fail
    go_loopw [7] (fun i wr => ∃ j : Nat, j ≤ m ∧ i = .int .i64 j ∧ Hid (Rs wr B5 A5 m c5 sl) ∧ Hid (Fr B5 wc wr)) (fun i _ => m - (intOf i).toNat)
    case atStart => exact ⟨0, Nat.zero_le _, rfl, HRS, hid (HF7.out.mono (fun _ _ h => h.elim))⟩
    case round =>
      obtain ⟨j, hj, rfl, HR, HF⟩ := hrel
      have hb := HB5.out.fr HF.out HN5.out
      have x3 := hb.cell 3
      simp at x3
      clear hb
      have HFW := hid (show Fr (fun _ => False) w5 wr from HFC.out.then_ HF.out (fun i hi h => by have := (HBB.out i h).1; omega))
      have hfin : ¬ (j < m ∧ j < 200) ∨ (j < m ∧ j < 200) := by omega
      rcases hfin with hfin | ⟨hlt, h200⟩
      · obtain ⟨c0, c1, c2, c3⟩ := HCF.out wr HFW.out
        have hb6 := HB6.out.fr HF.out HN6.out
        have y0 := hb6.cell 0
        have y1 := hb6.cell 1
        have y2 := hb6.cell 2
        have y3 := hb6.cell 3
        simp at y0 y1 y2 y3
        clear hb6
        have hw : j < m ∧ ¬ j < 200 ∨ ¬ j < m := by omega
        clear hfin
        rcases hw with ⟨hlt, h200⟩ | hlt
        all_goals
          go_wp2_with fail
          refine (refsame_calls 2000000 xx xx (by have := HXZ.out; omega) (Nat.le_refl _) w5.heap.size wc.heap.size 0 w.heap.size _ _ wr (HF.out.size) (HS1.out wr HFW.out).2 (CpAt.it (fun b hb => HBC.out b hb) _ _ (CpAt.fr HF.out (fun b hb h => (HBB.out b h).2.2.2.2 hb) _ _ HP6.out)) (HS1.out wr HFW.out).1).mono ?_
          rintro e w8 ⟨rfl, hf⟩
          rw [decide_eq_true (p := xx = xx) rfl]
          clear c0 c1 c2 c3 x3 y0 y1 y2 y3
          go_wp2_with fail
          go_ret
          exact ⟨rfl, ((HF1.out.trans HF5.out).then_ HFW.out (fun _ _ h => h)).then_ hf (fun _ _ h => h)⟩
      · obtain ⟨gA, hA, hBA⟩ := HR.out.at_ hlt
        subst hA
        obtain ⟨⟨Aj, mj, cj⟩, hsl⟩ : ∃ t, sl j = t := ⟨_, rfl⟩
        have HSL := hid hsl
        clear hsl
        obtain ⟨⟨nn, hn⟩, hs3, hfz, hmcj, hml⟩ := HR.out.row hlt HSL.out
        have hj0 : (0 : Int) ≤ (j : Int) := by omega
        have hjm : (j : Int) < (m : Int) := by omega
        have hjc : (j : Int) < (c5 : Int) := by omega
        have HNN := hid hn
        go_wp2_with fail
        clear x3 hs3 hfz hn
        obtain ⟨wo, rfl⟩ : ∃ wo : World, wo = wr := ⟨_, rfl⟩
        go_loopw [8] (fun kk wr => ∃ k2 : Nat, k2 ≤ mj ∧ kk = .int .i64 k2 ∧ Hid (Rs wr B5 (some ⟨gA, 0, none⟩) m c5 sl) ∧ Hid (Fr B5 wc wr)) (fun kk _ => mj - (intOf kk).toNat)
        case atStart => exact ⟨0, Nat.zero_le _, rfl, hid (HR.out.st HNN.out (.inr ⟨by omega, rfl⟩)), hid (HF.out.setCell (.inl hBA) _)⟩
        case round =>
          obtain ⟨k2, hk2, rfl, HR2, HF2⟩ := hrel
          have hb := HB5.out.fr HF2.out HN5.out
          have x3 := hb.cell 3
          simp at x3
          clear hb
          obtain ⟨_, hs3, _, _⟩ := HR2.out.row hlt HSL.out
          have hcase : (k2 < mj ∧ k2 < 200) ∨ (k2 < mj ∧ ¬ k2 < 200) ∨ ¬ k2 < mj := by omega
          rcases hcase with ⟨hk, h2⟩ | ⟨hk, h2⟩ | hk
          · obtain ⟨gB, hAj, hBB', ⟨kk, hkk⟩, hfz2⟩ := HR2.out.in_ hlt HSL.out hk
            subst hAj
            have hk0 : (0 : Int) ≤ (k2 : Int) := by omega
            have hkm : (k2 : Int) < (mj : Int) := by omega
            have hkc : (k2 : Int) < (cj : Int) := by omega
            have HKK := hid hkk
            go_wp2_with fail
            go_roundw
            case rel => exact ⟨k2 + 1, by omega, by go_num, hid (HR2.out.st HKK.out (.inl ⟨by omega, rfl⟩)), hid (HF2.out.setCell (.inl hBB') _)⟩
            case measure => simp [intOf]; omega
          all_goals
            go_wp2_with fail
            go_roundw
            case rel => exact ⟨j + 1, by omega, by go_num, HR2, HF2⟩
            case measure => simp [intOf]; omega
end Go.Proofs.YtkmgiodhaaajjaaDoor.ItemZ
