/- Layer item: the law ItemTells. -/
import Derived.Test.YtkmgiodhaaajjaaDoorItemS
import Derived.Test.YtkmgiodhaaajjaaDoorItemW
import Derived.Test.YtkmgiodhaaajjaaDoorItemY
import Derived.Test.YtkmgiodhaaajjaaDoorRegIn
import Derived.Test.YtkmgiodhaaajjaaDoorItemTf
import Derived.Test.YtkmgiodhaaajjaaDoorItemTg
import Derived.Test.YtkmgiodhaaajjaaDoorItemTh
import Derived.Deep.RegionHeld3
set_option linter.unusedVariables false
set_option linter.unusedSimpArgs false
namespace Go.Proofs.YtkmgiodhaaajjaaDoor.ItemTe
open Go Go.Shelf Go.IntWalk Go.RowKit Go.Proofs.YtkmgiodhaaajjaaDoor.Mem Go.Proofs.YtkmgiodhaaajjaaDoor.App Go.Proofs.YtkmgiodhaaajjaaDoor.Own Go.Proofs.YtkmgiodhaaajjaaDoor.Range Go.Proofs.YtkmgiodhaaajjaaDoor.FloatB Go.Proofs.YtkmgiodhaaajjaaDoor.ItemP Go.Proofs.YtkmgiodhaaajjaaDoor.ItemM Go.Proofs.YtkmgiodhaaajjaaDoor.ItemA Go.Proofs.YtkmgiodhaaajjaaDoor.ItemB Go.Proofs.YtkmgiodhaaajjaaDoor.ItemE Go.Proofs.YtkmgiodhaaajjaaDoor.ItemR Go.Proofs.YtkmgiodhaaajjaaDoor.ItemS Go.Proofs.YtkmgiodhaaajjaaDoor.ItemT Go.Proofs.YtkmgiodhaaajjaaDoor.ItemU Go.Proofs.YtkmgiodhaaajjaaDoor.ItemW Go.Proofs.YtkmgiodhaaajjaaDoor.ItemY Go.Proofs.YtkmgiodhaaajjaaDoor.RegIn Go.Proofs.YtkmgiodhaaajjaaDoor.ItemTf Go.Proofs.YtkmgiodhaaajjaaDoor.ItemTg Go.Proofs.YtkmgiodhaaajjaaDoor.ItemTh
attribute [local go_sem] Oper.semAt_some

set_option maxRecDepth 100000 in
set_option maxHeartbeats 8000000 in
theorem law_calls (x : It) (hx : x.size ≤ 1048576) (cs : List Value) (few : Nat) (hfew : few ≤ 255) (w : World) (hD : Dbl w) (hat : ItAt w 0 w.heap.size x cs) :
    Calls Tryd.prog 3 #[.agg cs.toArray, .int .u8 few] w fun e w' => e = .returned (.bool true) ∧ Fr (fun _ => False) w w' := by
  have HDD := hid hD
  have HXZ := hid hx
  have HFEW := hid hfew
  have hat' := hat
  obtain ⟨k, n, s, l⟩ := x
  obtain ⟨A, c, rfl, hc, hk, hn, hs, hl, hL⟩ := hat
  have HAT := hid hat'
  obtain ⟨m, hm⟩ : ∃ m, l.length = m := ⟨_, rfl⟩
  rw [hm] at HAT ⊢
  obtain ⟨x, hxx⟩ : ∃ x, x = It.mk k n s l := ⟨_, rfl⟩
  rw [← hxx] at HAT HXZ
  obtain ⟨w1, hw1⟩ : ∃ w1, ((w.alloc (.cells #[.int .i64 k, .int .u64 n, .string s, .slice A m c] 25)).alloc (.cells #[.int .u8 few] 5)).alloc (.cells #[.bool false] 4) = w1 := ⟨_, rfl⟩
  have HF1 := hid (show Fr (fun _ => False) w w1 by rw [← hw1]; exact (((Fr.refl _ w).alloc _).alloc _).alloc _)
  have HBX := hid (show Blk w1 w.heap.size 25 #[.int .i64 k, .int .u64 n, .string s, .slice A m c] by rw [← hw1]; exact ((Blk.new w _ _).alloc _).alloc _)
  have HBF := hid (show Blk w1 (w.heap.size + 1) 5 #[.int .u8 few] by
    rw [← hw1]
    have := Blk.new (w.alloc (.cells #[.int .i64 k, .int .u64 n, .string s, .slice A m c] 25)) 5 #[.int .u8 few]
    rw [World.size_alloc] at this
    exact this.alloc _)
  have HBR := hid (show Blk w1 (w.heap.size + 1 + 1) 4 #[.bool false] by
    rw [← hw1]
    have := Blk.new ((w.alloc (.cells #[.int .i64 k, .int .u64 n, .string s, .slice A m c] 25)).alloc (.cells #[.int .u8 few] 5)) 4 #[.bool false]
    rwa [World.size_alloc, World.size_alloc] at this)
  have HW1 := hid hw1
  have HSX := hid (show ∀ w', Fr (fun _ => False) w1 w' → w'.cell? ⟨w.heap.size, 0, none⟩ = some (.int .i64 k) ∧ w'.cell? ⟨w.heap.size, 1, none⟩ = some (.int .u64 n) ∧ w'.cell? ⟨w.heap.size, 2, none⟩ = some (.string s) ∧ w'.cell? ⟨w.heap.size, 3, none⟩ = some (.slice A m c) from fun w' hf => by
    have hB := HBX.out.fr hf (fun h => h)
    have e0 := hB.cell 0
    have e1 := hB.cell 1
    have e2 := hB.cell 2
    have e3 := hB.cell 3
    simp at e0 e1 e2 e3
    exact ⟨e0, e1, e2, e3⟩)
  clear hD hx hfew hat' hm hxx hL hw1 hk hn hs hl hc
  refine (callsIn_wide (n := 9)).1 ?_
  refine callsIn_of_wp_marks Tryd.func3 rfl trivial ?_ rfl
  simp only [Tryd.ntmps3, List.size_toArray, List.length_cons, List.length_nil, Nat.reduceAdd, Nat.reduceSub, Array.replicate_succ, Array.replicate_zero, List.push_toArray, List.append_toArray, List.nil_append, List.cons_append]
  refine wpIn_wide.2 ?_
  go_wp2_with fail
  rw [HW1.out]
  refine (awake_calls w1 (HDD.out.fr0 HF1.out)).mono ?_
  rintro e w2 ⟨rfl, hf⟩
  have HF2 := hid hf
  obtain ⟨c0, c1, c2, c3⟩ := HSX.out w2 hf
  clear hf
  go_wp2_with fail
  refine (great_calls x (by have := HXZ.out; omega) 0 w.heap.size _ w2 (HF1.out.trans HF2.out).size (HAT.out.fr0 (HF1.out.trans HF2.out) (Nat.le_refl _))).mono ?_
  rintro e w3 ⟨⟨g, rfl⟩, hf⟩
  have HF3 := hid (HF2.out.trans hf)
  clear hf c0 c1 c2 c3
  cases g with
  | true =>
    have hbr := HBR.out.fr HF3.out (fun h => h)
    have r0 := hbr.cell 0
    have r1 := hbr.frozen 0
    simp at r0
    go_wp2_with fail
    have h5 := (hbr.set_ 0 (.bool true)).cell 0
    simp at h5
    refine ⟨.bool true, ?_, ?_⟩
    · simp [results, Tryd.f3, go_sem, h5]
    · exact ⟨rfl, (HF1.out.trans HF3.out).setCell (.inr (by show w.heap.size ≤ w.heap.size + 1 + 1; omega)) _⟩
  | false =>
  obtain ⟨c0, c1, c2, c3⟩ := HSX.out w3 HF3.out
  go_wp2_with fail
  refine (items_calls w 0 w.heap.size 2000000 (Nat.le_refl _) 2000000 x (by have := HXZ.out; omega) (by have := HXZ.out; omega) 1 (by have := HXZ.out; omega) _ w3 (HF1.out.trans HF3.out) (Nat.le_refl _) HAT.out).mono ?_
  clear c0 c1 c2 c3
  rintro e w4 ⟨ys, A1, c1, A2, c2, rfl, hys, hO1, hO2, hf⟩
  have HYS := hid hys
  obtain ⟨N, hN⟩ : ∃ N, ys.length = N := ⟨_, rfl⟩
  have HNN := hid hN
  have HNX := hid (show x.size = N by rw [← hN, ← prs_length, HYS.out, It.all_length])
  rw [hN] at hO1 hO2 ⊢
  have HO1 := hid hO1
  have HO2 := hid hO2
  have HF4 := hid (HF3.out.trans hf)
  have HZ34 := hid hf.size
  clear hf hys hO1 hO2
  obtain ⟨w5, hw5⟩ : ∃ w5, (w4.alloc (.cells #[.slice A1 N c1] 23)).alloc (.cells #[.slice A2 N c2] 28) = w5 := ⟨_, rfl⟩
  have HF45 := hid (show Fr (fun _ => False) w4 w5 by rw [← hw5]; exact ((Fr.refl _ w4).alloc _).alloc _)
  have HB5 := hid (show Blk w5 w4.heap.size 23 #[.slice A1 N c1] ∧ Blk w5 (w4.heap.size + 1) 28 #[.slice A2 N c2] by
    rw [← hw5]
    have h2 := Blk.new (w4.alloc (.cells #[.slice A1 N c1] 23)) 28 #[.slice A2 N c2]
    rw [World.size_alloc] at h2
    exact ⟨(Blk.new w4 _ _).alloc _, h2⟩)
  have HF5 := hid (HF4.out.trans HF45.out)
  obtain ⟨c0, c1x, c2x, c3⟩ := HSX.out w5 HF5.out
  clear hN
  go_wp2_with fail
  clear hw5 c0 c1x c2x c3
  refine (all_calls [] k n s A m c w5).mono ?_
  rintro e w6 ⟨rfl, hB6, hf⟩
  obtain ⟨Bt, hBt⟩ : ∃ B, w5.heap.size = B := ⟨_, rfl⟩
  rw [hBt] at hB6 ⊢
  have HBT := hid (show Blk w6 Bt 25 #[.int .i64 k, .int .u64 n, .string s, .slice A m c] from hB6)
  have HF56 := hid hf
  have HF6 := hid (HF5.out.trans hf)
  have HFW6 := hid (HF1.out.trans HF6.out)
  have HO1 := hid (HO1.out.fr0 (HF45.out.trans hf))
  have HO2 := hid (App.Own.fr HO2.out (HF45.out.trans hf) (fun _ _ h => h))
  have HB34 := hid (show w3.heap.size ≤ w4.heap.size ∧ w.heap.size + 1 + 1 < w3.heap.size from ⟨HZ34.out, (HBR.out.fr HF3.out (fun h => h)).lt⟩)
  obtain ⟨b5, hb5⟩ : ∃ b, w4.heap.size = b := ⟨_, rfl⟩
  rw [hb5] at HB5 HB34 ⊢
  have HL6 := hid (show ∀ w', Fr (fun _ => False) w6 w' → Blk w' b5 23 #[.slice A1 N c1] ∧ Blk w' (b5 + 1) 28 #[.slice A2 N c2] from fun w' h => ⟨HB5.out.1.fr (HF56.out.trans h) (fun h => h), HB5.out.2.fr (HF56.out.trans h) (fun h => h)⟩)
  have HST := hid (show ∀ w', Fr (fun _ => False) w6 w' → w'.cell? ⟨w.heap.size, 0, none⟩ = some (.int .i64 k) ∧ w'.cell? ⟨w.heap.size, 1, none⟩ = some (.int .u64 n) ∧ w'.cell? ⟨w.heap.size, 2, none⟩ = some (.string s) ∧ w'.cell? ⟨w.heap.size, 3, none⟩ = some (.slice A m c) ∧ w'.cell? ⟨b5, 0, none⟩ = some (.slice A1 N c1) ∧ Fr (fun _ => False) w6 w' from fun w' h => by
    obtain ⟨c0, c1, c2, c3⟩ := HSX.out w' (HF6.out.trans h)
    have e := (HL6.out w' h).1.cell 0
    simp at e
    exact ⟨c0, c1, c2, c3, e, h⟩)
  clear hf hB6
  have HC0 := hid (fun wx (hf : wx.cell? ⟨w.heap.size, 0, none⟩ = some (.int .i64 k) ∧ wx.cell? ⟨w.heap.size, 1, none⟩ = some (.int .u64 n) ∧ wx.cell? ⟨w.heap.size, 2, none⟩ = some (.string s) ∧ wx.cell? ⟨w.heap.size, 3, none⟩ = some (.slice A m c) ∧ wx.cell? ⟨b5, 0, none⟩ = some (.slice A1 N c1) ∧ Fr (fun _ => False) w6 wx) => (depth_calls 2000000 x (by have := HXZ.out; omega) (Nat.le_refl _) 0 w.heap.size _ wx (HFW6.out.trans hf.2.2.2.2.2).size (HAT.out.fr0 (HFW6.out.trans hf.2.2.2.2.2) (Nat.le_refl _))).mono (R' := fun e w' => e = .returned (.int .i64 x.depth) ∧ (w'.cell? ⟨w.heap.size, 0, none⟩ = some (.int .i64 k) ∧ w'.cell? ⟨w.heap.size, 1, none⟩ = some (.int .u64 n) ∧ w'.cell? ⟨w.heap.size, 2, none⟩ = some (.string s) ∧ w'.cell? ⟨w.heap.size, 3, none⟩ = some (.slice A m c) ∧ w'.cell? ⟨b5, 0, none⟩ = some (.slice A1 N c1) ∧ Fr (fun _ => False) w6 w')) (fun e w' h => ⟨h.1, HST.out w' (hf.2.2.2.2.2.trans h.2)⟩))
  have HC1 := hid (fun wx (hf : wx.cell? ⟨w.heap.size, 0, none⟩ = some (.int .i64 k) ∧ wx.cell? ⟨w.heap.size, 1, none⟩ = some (.int .u64 n) ∧ wx.cell? ⟨w.heap.size, 2, none⟩ = some (.string s) ∧ wx.cell? ⟨w.heap.size, 3, none⟩ = some (.slice A m c) ∧ wx.cell? ⟨b5, 0, none⟩ = some (.slice A1 N c1) ∧ Fr (fun _ => False) w6 wx) => (refdepth_calls x (by have := HXZ.out; omega) 0 w.heap.size _ wx (HFW6.out.trans hf.2.2.2.2.2).size (HAT.out.fr0 (HFW6.out.trans hf.2.2.2.2.2) (Nat.le_refl _))).mono (R' := fun e w' => e = .returned (.int .i64 x.depth) ∧ (w'.cell? ⟨w.heap.size, 0, none⟩ = some (.int .i64 k) ∧ w'.cell? ⟨w.heap.size, 1, none⟩ = some (.int .u64 n) ∧ w'.cell? ⟨w.heap.size, 2, none⟩ = some (.string s) ∧ w'.cell? ⟨w.heap.size, 3, none⟩ = some (.slice A m c) ∧ w'.cell? ⟨b5, 0, none⟩ = some (.slice A1 N c1) ∧ Fr (fun _ => False) w6 w')) (fun e w' h => ⟨h.1, HST.out w' (hf.2.2.2.2.2.trans h.2)⟩))
  have HC2 := hid (fun wx (hf : wx.cell? ⟨w.heap.size, 0, none⟩ = some (.int .i64 k) ∧ wx.cell? ⟨w.heap.size, 1, none⟩ = some (.int .u64 n) ∧ wx.cell? ⟨w.heap.size, 2, none⟩ = some (.string s) ∧ wx.cell? ⟨w.heap.size, 3, none⟩ = some (.slice A m c) ∧ wx.cell? ⟨b5, 0, none⟩ = some (.slice A1 N c1) ∧ Fr (fun _ => False) w6 wx) => (size_calls 2000000 x (by have := HXZ.out; omega) (Nat.le_refl _) 0 w.heap.size _ wx (HFW6.out.trans hf.2.2.2.2.2).size (HAT.out.fr0 (HFW6.out.trans hf.2.2.2.2.2) (Nat.le_refl _))).mono (R' := fun e w' => e = .returned (.int .i64 x.size) ∧ (w'.cell? ⟨w.heap.size, 0, none⟩ = some (.int .i64 k) ∧ w'.cell? ⟨w.heap.size, 1, none⟩ = some (.int .u64 n) ∧ w'.cell? ⟨w.heap.size, 2, none⟩ = some (.string s) ∧ w'.cell? ⟨w.heap.size, 3, none⟩ = some (.slice A m c) ∧ w'.cell? ⟨b5, 0, none⟩ = some (.slice A1 N c1) ∧ Fr (fun _ => False) w6 w')) (fun e w' h => ⟨h.1, HST.out w' (hf.2.2.2.2.2.trans h.2)⟩))
  have HC3 := hid (fun wx (hf : wx.cell? ⟨w.heap.size, 0, none⟩ = some (.int .i64 k) ∧ wx.cell? ⟨w.heap.size, 1, none⟩ = some (.int .u64 n) ∧ wx.cell? ⟨w.heap.size, 2, none⟩ = some (.string s) ∧ wx.cell? ⟨w.heap.size, 3, none⟩ = some (.slice A m c) ∧ wx.cell? ⟨b5, 0, none⟩ = some (.slice A1 N c1) ∧ Fr (fun _ => False) w6 wx) => (check_calls x (by have := HXZ.out; omega) 0 w.heap.size _ wx (HFW6.out.trans hf.2.2.2.2.2).size (HDD.out.fr0 (HFW6.out.trans hf.2.2.2.2.2)) (HAT.out.fr0 (HFW6.out.trans hf.2.2.2.2.2) (Nat.le_refl _))).mono (R' := fun e w' => e = .returned (.int .i64 x.check) ∧ (w'.cell? ⟨w.heap.size, 0, none⟩ = some (.int .i64 k) ∧ w'.cell? ⟨w.heap.size, 1, none⟩ = some (.int .u64 n) ∧ w'.cell? ⟨w.heap.size, 2, none⟩ = some (.string s) ∧ w'.cell? ⟨w.heap.size, 3, none⟩ = some (.slice A m c) ∧ w'.cell? ⟨b5, 0, none⟩ = some (.slice A1 N c1) ∧ Fr (fun _ => False) w6 w')) (fun e w' h => ⟨h.1, HST.out w' (hf.2.2.2.2.2.trans h.2)⟩))
  have HC4 := hid (fun wx (hf : wx.cell? ⟨w.heap.size, 0, none⟩ = some (.int .i64 k) ∧ wx.cell? ⟨w.heap.size, 1, none⟩ = some (.int .u64 n) ∧ wx.cell? ⟨w.heap.size, 2, none⟩ = some (.string s) ∧ wx.cell? ⟨w.heap.size, 3, none⟩ = some (.slice A m c) ∧ wx.cell? ⟨b5, 0, none⟩ = some (.slice A1 N c1) ∧ Fr (fun _ => False) w6 wx) => (refcheck_calls x (by have := HXZ.out; omega) 0 w.heap.size _ wx (HFW6.out.trans hf.2.2.2.2.2).size (HAT.out.fr0 (HFW6.out.trans hf.2.2.2.2.2) (Nat.le_refl _))).mono (R' := fun e w' => e = .returned (.int .i64 x.check) ∧ (w'.cell? ⟨w.heap.size, 0, none⟩ = some (.int .i64 k) ∧ w'.cell? ⟨w.heap.size, 1, none⟩ = some (.int .u64 n) ∧ w'.cell? ⟨w.heap.size, 2, none⟩ = some (.string s) ∧ w'.cell? ⟨w.heap.size, 3, none⟩ = some (.slice A m c) ∧ w'.cell? ⟨b5, 0, none⟩ = some (.slice A1 N c1) ∧ Fr (fun _ => False) w6 w')) (fun e w' h => ⟨h.1, HST.out w' (hf.2.2.2.2.2.trans h.2)⟩))
  obtain ⟨dp, hdp⟩ : ∃ d, x.depth = d := ⟨_, rfl⟩
  obtain ⟨ck, hck⟩ : ∃ d, x.check = d := ⟨_, rfl⟩
  rw [hdp] at HC0 HC1
  rw [HNX.out] at HC2
  rw [hck] at HC3 HC4
  clear hdp hck
  obtain ⟨c0, c1x, c2x, c3, c4, _⟩ := HST.out w6 (Fr.refl _ _)
  have hfn := fun_ne Bt
  go_wp2_with fail
  go_region_held3 (fun w' => w'.cell? ⟨w.heap.size, 0, none⟩ = some (.int .i64 k) ∧ w'.cell? ⟨w.heap.size, 1, none⟩ = some (.int .u64 n) ∧ w'.cell? ⟨w.heap.size, 2, none⟩ = some (.string s) ∧ w'.cell? ⟨w.heap.size, 3, none⟩ = some (.slice A m c) ∧ w'.cell? ⟨b5, 0, none⟩ = some (.slice A1 N c1) ∧ Fr (fun _ => False) w6 w')
    (first | exact HST.out _ (Fr.refl _ _) | exact HST.out _ (Fr.refl _ _).drew | assumption)
    (first
      | ((go_at_call 18; with_reducible refine (HC0.out _ (by assumption)).mono ?_; rintro e' wz ⟨rfl, hS⟩))
      | ((go_at_call 19; with_reducible refine (HC1.out _ (by assumption)).mono ?_; rintro e' wz ⟨rfl, hS⟩))
      | ((go_at_call 20; with_reducible refine (HC2.out _ (by assumption)).mono ?_; rintro e' wz ⟨rfl, hS⟩))
      | ((go_at_call 21; with_reducible refine (HC3.out _ (by assumption)).mono ?_; rintro e' wz ⟨rfl, hS⟩))
      | ((go_at_call 22; with_reducible refine (HC4.out _ (by assumption)).mono ?_; rintro e' wz ⟨rfl, hS⟩)))
  have HSZ := hid hS
  clear hS c0 c1x c2x c3 c4
  go_wp2_with fail
  obtain ⟨w7, hw7⟩ : ∃ w7, wz.alloc (.cells #[.int .i64 0] 3) = w7 := ⟨_, rfl⟩
  rw [hw7]
  have HF7 := hid (show Fr (fun _ => False) w6 w7 by rw [← hw7]; exact HSZ.out.2.2.2.2.2.alloc _)
  have HB7 := hid (show Blk w7 wz.heap.size 3 #[.int .i64 0] by rw [← hw7]; exact Blk.new _ _ _)
  obtain ⟨b7, hb7⟩ : ∃ b, wz.heap.size = b := ⟨_, rfl⟩
  have HBZ := hid (show w6.heap.size ≤ b7 by rw [← hb7]; exact HSZ.out.2.2.2.2.2.size)
  rw [hb7] at HB7 ⊢
  clear hw7 hb7
  refine wp_loop (fun a wr => ∃ (r b8 : Nat) (ds : List Nat), r ≤ 2 ∧ FrT a.tmps w b5 Bt b8 ∧ a.defers = dfs ds ∧ ds.length = r ∧ ds.Pairwise (fun a b => a ≠ b) ∧ (∀ D ∈ ds, wr.heap[D]? = some (.deferred (some [])) ∧ w6.heap.size ≤ D) ∧ w6.heap.size ≤ b8 ∧ Blk wr b8 3 #[.int .i64 r] ∧ Fr (fun _ => False) w6 wr) (fun a wr => 2 - rdN (a.tmps.getD 8 undef) wr) ?_ ?_
  · exact ⟨0, b7, [], by omega, ⟨rfl, rfl, rfl, rfl, rfl, rfl, rfl, rfl⟩, rfl, rfl, List.Pairwise.nil, (fun D h => (by simp at h)), HBZ.out, HB7.out, HF7.out⟩
  · rintro ⟨t, dd⟩ wr ⟨r, b8, ds, hr, hfr, rfl, hdl, hdn, hdh, hb8, hblk, hf⟩
    obtain ⟨hsz, g2, g3, g4, g5, g6, g7, g8⟩ := hfr
    obtain ⟨T, hT⟩ : ∃ T : Nat → Value, ∀ i, t.getD i undef = T i := ⟨_, fun _ => rfl⟩
    have hlit := lit93 t hsz T hT
    have w2 : ∀ {i : Nat} {v : Value}, t[i]? = some v → T i = v := fun h => (hT _).symm.trans (getD_of h)
    rw [w2 g2, w2 g3, w2 g4, w2 g5, w2 g6, w2 g7, w2 g8] at hlit
    have hact := congrArg (fun x => (⟨x, dfs ds⟩ : Act)) hlit
    simp only at hact
    rw [hact]
    have HF := hid hf
    have HDS := hid (show ds.Pairwise (fun a b => a ≠ b) ∧ (∀ D ∈ ds, wr.heap[D]? = some (.deferred (some [])) ∧ w6.heap.size ≤ D) from ⟨hdn, hdh⟩)
    have HB8 := hid hblk
    have e8 := hblk.cell 0
    simp at e8
    clear g2 g3 g4 g5 g6 g7 g8 hT hlit hact w2 hsz hdn hdh hblk
    obtain ⟨dl, hdd⟩ : ∃ dl, dl = dfs ds := ⟨_, rfl⟩
    rw [← hdd]
    by_cases hr2 : r < 2
    · have hri : (r : Int) < 2 := by omega
      go_wp2_with fail
      obtain ⟨w9, hw9⟩ : ∃ w9, wr.alloc (.cells #[.int .i64 0] 3) = w9 := ⟨_, rfl⟩
      rw [hw9]
      have HF9 := hid (show Fr (fun _ => False) wr w9 by rw [← hw9]; exact (Fr.refl _ _).alloc _)
      have HB9 := hid (show Blk w9 wr.heap.size 3 #[.int .i64 0] by rw [← hw9]; exact Blk.new _ _ _)
      have HF69 := hid (HF.out.trans HF9.out)
      have HW9 := hid (HFW6.out.trans HF69.out)
      obtain ⟨b9, hb9⟩ : ∃ b, wr.heap.size = b := ⟨_, rfl⟩
      rw [hb9] at HB9 ⊢
      have HL9 := hid (show w6.heap.size ≤ b9 ∧ b9 < w9.heap.size ∧ b8 < b9 ∧ w.heap.size + 1 + 1 < b9 ∧ b5 + 1 < b9 by
        have h1 := HF.out.size
        have h2 := HB9.out.lt
        have h3 := HB8.out.lt
        have h4 := (HBR.out.fr (HF6.out.trans HF.out) (fun h => h)).lt
        have h5 := (HL6.out wr HF.out).2.lt
        exact ⟨by omega, h2, by omega, by omega, by omega⟩)
      have HKW := hid (show ∀ W, Fr (fun b => b = b9) w9 W → Fr (fun _ => False) w6 W from fun W h => HF69.out.then_ h (fun i hi e => by have := HL9.out.1; omega))
      clear hw9 hb9 e8
      refine (wpIn_wide (n := 9)).1 ?_
      refine wpIn_rangeFunc_ownH rfl (by omega) (gf := 70) (lb := #[.pointer (some ⟨Bt, 0, none⟩)]) rfl trivial (enters_of Tryd.func70 (by kernel_rfl) rfl)
        (all_stops Fence.wide rfl _ trivial trivial rfl w9.heap.size w 0 w.heap.size 2000000 (fun b => b = b9) (fun b _ h e => by have := HL9.out; omega) (fun b h => by have := HL9.out; omega) (Nat.le_refl _) x _ (by have := HXZ.out; omega) HAT.out w9 (Nat.le_refl _) (Kc.fr (HW9.out.mono (fun _ _ h => h.elim))) _ (HBT.out.fr HF69.out (fun h => h))) (fun h k => h.trans k) (fun W l o o' _ hl ho _ => Kc.put o' hl ho) (Below.refl _ _) (fun _ => rfl)
        (fun pre W => Fr (fun b => b = b9) w9 W ∧ Blk W b9 3 #[.int .i64 pre.length] ∧ prs pre <+: prs ys)
        (fun c pre W => (c = .ret ∧ ¬ prs pre <+: prs ys) ∨ (BRKC c ∧ r = 0 ∧ Fr (fun b => b = b9) w9 W))
        (fun s A B row hs hg hr => ⟨fr_own hs.1 hg (fun r e => (hr r e).1), blk_own hs.2.1 hg (fun r e => (hr r e).2), hs.2.2⟩)
        (fun c s A B row hs hg hr => by
          rcases hs with h | h
          · exact .inl h
          · exact .inr ⟨h.1, h.2.1, fr_own h.2.2 hg (fun r e => (hr r e).1)⟩)
        ⟨Fr.refl _ _, HB9.out, ⟨prs ys, rfl⟩⟩
        (fun v a' W => ∃ By, w9.heap.size ≤ By ∧ Blk W By 25 v.1.2.2.toArray ∧ a' = { tmps := #[T 0, T 1, .pointer (some ⟨w.heap.size, 0, none⟩), .pointer (some ⟨w.heap.size + 1, 0, none⟩), .pointer (some ⟨w.heap.size + 1 + 1, 0, none⟩), .pointer (some ⟨b5, 0, none⟩), .pointer (some ⟨b5 + 1, 0, none⟩), .func (.func 70) #[] #[.pointer (some ⟨Bt, 0, none⟩)], .pointer (some ⟨b8, 0, none⟩), .pointer (some ⟨b9, 0, none⟩), .int .i64 v.1.2.1, .pointer (some ⟨By, 0, none⟩), T 12, T 13, T 14, T 15, T 16, T 17, T 18, T 19, T 20, T 21, T 22, T 23, T 24, T 25, T 26, T 27, T 28, T 29, T 30, T 31, T 32, T 33, T 34, T 35, T 36, T 37, T 38, T 39, T 40, T 41, T 42, T 43, T 44, T 45, .int .i64 (r : Int), .bool true, T 48, T 49, .func (.func 70) #[] #[.pointer (some ⟨Bt, 0, none⟩)], .int .i64 v.1.2.1, .agg v.1.2.2.toArray, T 53, T 54, T 55, T 56, T 57, T 58, T 59, T 60, T 61, T 62, T 63, T 64, T 65, T 66, T 67, T 68, T 69, T 70, T 71, T 72, T 73, T 74, T 75, T 76, T 77, T 78, T 79, T 80, T 81, T 82, T 83, T 84, T 85, T 86, T 87, T 88, T 89, T 90, T 91, T 92], defers := [] })
        (fun v a' s A B row hs hg hr => by
          obtain ⟨By, h1, h2, h3⟩ := hs
          exact ⟨By, h1, blk_own h2 hg (fun r e => (hr r e).2), h3⟩) ?assign ?body ?done ?stop
      case assign =>
        rintro l pre ⟨⟨y, dy, cs⟩, hy, hyz⟩ W K ⟨hfW, hbW, hpW⟩ hK
        obtain ⟨k', n', s', l'⟩ := y
        have hy' := hy
        obtain ⟨A', c', rfl, _⟩ := hy'
        simp only [visE]
        gi_wp2_with fail
        exact hK _ _ ((KeepsOthers.alloc _ _).from _) (Kc.alloc _ _) ⟨hfW.alloc _, hbW.alloc _, hpW⟩ ⟨W.heap.size, hfW.size, Blk.new W _ _, rfl⟩
      case body =>
        rintro l pre v a' W hl hrec ⟨hfW, hbW, hpW⟩ ⟨By, hBy, hb, rfl⟩ hlt
        have HKF := hid (HKW.out W hfW)
        have HFW := hid hfW
        have HPW := hid hpW
        have hy := v.2.1
        have hyz := v.2.2
        obtain ⟨y, hyv⟩ : ∃ y, v.1.1 = y := ⟨_, rfl⟩
        obtain ⟨dy, hdy⟩ : ∃ dy, v.1.2.1 = dy := ⟨_, rfl⟩
        obtain ⟨cs, hcs⟩ : ∃ cs, v.1.2.2 = cs := ⟨_, rfl⟩
        rw [hyv, hcs] at hy
        rw [hyv] at hyz
        rw [hcs] at hb ⊢
        rw [hdy]
        have HPR := hid (show prs (pre ++ [v]) = prs pre ++ [(y, dy)] by rw [prs_append, ← hyv, ← hdy]; rfl)
        obtain ⟨p, hp⟩ : ∃ p, pre.length = p := ⟨_, rfl⟩
        have HPL := hid hp
        rw [hp] at hbW
        have HYZ := hid hyz
        have HY := hid hy
        obtain ⟨yy, hyy⟩ : ∃ yy, yy = y := ⟨_, rfl⟩
        rw [← hyy] at HYZ HY HPR
        obtain ⟨k', n', s', l'⟩ := y
        obtain ⟨A', c', rfl, _⟩ := hy
        have HYE := hid hyy
        clear hyv hdy hcs hyz hyy hp hfW hpW hlt hrec
        have HB9W := hid hbW
        have e9 := hbW.cell 0
        have z9 := hbW.frozen 0
        simp at e9
        have y0 := hb.cell 0
        have y1 := hb.cell 1
        have y2 := hb.cell 2
        have y3 := hb.cell 3
        simp at y0 y1 y2 y3
        obtain ⟨q5, q6⟩ := HL6.out W HKF.out
        have l5 := q5.cell 0
        have l6 := q6.cell 0
        simp at l5 l6
        have hbr := HBR.out.fr (HF6.out.trans HKF.out) (fun h => h)
        have r0 := hbr.cell 0
        have r1 := hbr.frozen 0
        simp at r0
        clear hb hbW q5 q6 hbr
        have HRET := hid (show ∀ W' : World, W.heap.size ≤ W'.heap.size → KeepsFrom w9.heap.size W W' → ¬ prs (pre ++ [v]) <+: prs ys → True from fun _ _ _ _ => trivial)
        by_cases hpN : p < N
        case neg =>
          have hge : (N : Int) ≤ (p : Int) := by omega
          have HNO := hid (show ¬ prs (pre ++ [v]) <+: prs ys by
            rw [HPR.out]
            exact pre_no (by rw [prs_length, prs_length, HPL.out, HNN.out]; omega))
          have hwide : ∀ f, Fence.wide.fn f := fun _ => trivial
          gi_wp2_with fail
          refine reg_a T _ w b5 Bt b8 b9 By p N r c1 c2 _ _ dy A1 W e9 l5 hge _ (fun W' hW' => ?_)
          have r0' := cell_fr r0 hW'
          have r1' := (hW'.frozen (p := ⟨w.heap.size + 1 + 1, 0, none⟩) (World.block_lt_of_cell? W ⟨w.heap.size + 1 + 1, 0, none⟩ r0) (fun h => h)).trans r1
          gi_wp2_with fail
          exact ⟨(KeepsFrom.trans ⟨hW'.size, fun k o _ hk _ => (hW'.block k (lt_of_heap hk) (fun h => h)).trans hk⟩ ((KeepsOthers.setCell _ _ _).from _)), .inl ⟨rfl, HNO.out⟩⟩
        have hpy : p < ys.length := by rw [HNN.out]; exact hpN
        obtain ⟨a1, k2, n2, s2, l2, B2, d2, rfl, _, hyj, hcsj, g0, g1, g2, g3⟩ := own_vis (HO1.out.fr0 HKF.out) p hpy
        obtain ⟨a2, rfl, _, hdj⟩ := (App.Own.fr HO2.out HKF.out (fun _ _ h => h)).rd.1 p (by rw [vds_length]; exact hpy)
        obtain ⟨dj, hdjj⟩ : ∃ d, (ys[p]).1.2.1 = d := ⟨_, rfl⟩
        rw [show (vds ys).getD p 0 = ((dj : Nat) : Int) by rw [vds, List.getD_eq_getElem?_getD, List.getElem?_map, List.getElem?_eq_getElem hpy, ← hdjj]; rfl] at hdj
        have hc1 : N ≤ c1 := by
          obtain ⟨A', c', e1, e2, _⟩ := HO1.out.form
          injection e1 with _ _ e3
          omega
        have hc2 : N ≤ c2 := by
          obtain ⟨A', c', e1, e2, _⟩ := HO2.out.form
          injection e1 with _ _ e3
          rw [vds_length, HNN.out] at e2
          omega
        have HAT2 := hid (show prs (pre ++ [v]) <+: prs ys ↔ (yy, dy) = ((ys[p]).1.1, dj) by
          rw [HPR.out, pre_at (by rw [prs_length, prs_length, HPL.out, HNN.out]; exact hpN) HPW.out]
          have e : (prs ys)[(prs pre).length]'(by rw [prs_length, prs_length, HPL.out, HNN.out]; exact hpN) = ((ys[p]).1.1, dj) := by
            simp only [prs_length, HPL.out]
            rw [← hdjj]
            simp [prs]
          rw [e])
        have hyj2 := (ys[p]).2.1
        have hyjz := (ys[p]).2.2
        rw [hcsj] at hyj2
        obtain ⟨z, hz⟩ : ∃ z, (ys[p]).1.1 = z := ⟨_, rfl⟩
        rw [hz] at HAT2 hyj2 hyjz
        have HYJ := hid hyj2
        have HYJZ := hid hyjz
        obtain ⟨m2, hm2⟩ : ∃ q, l2.length = q := ⟨_, rfl⟩
        rw [hm2] at g3 HYJ
        clear hyj hcsj hyj2 hyjz hz hdjj hm2
        by_cases hd : dy = dj
        · subst hd
          obtain ⟨bb, hbb⟩ : ∃ b, decide (yy = z) = b := ⟨_, rfl⟩
          have HSM := hid (fun wx (hwx : Fr (fun _ => False) W wx) => (refsame_calls 2000000 yy z HYZ.out (Nat.le_refl _) 0 w.heap.size 0 w.heap.size _ _ wx (HFW6.out.trans (HKF.out.trans hwx)).size (HFW6.out.trans (HKF.out.trans hwx)).size (HY.out.fr0 (HFW6.out.trans (HKF.out.trans hwx)) (Nat.le_refl _)) (HYJ.out.fr0 (HFW6.out.trans (HKF.out.trans hwx)) (Nat.le_refl _))))
          rw [hbb] at HSM
          gi_wp2_with fail
          refine reg_c T _ w b5 Bt b8 b9 By p N r c1 c2 _ _ dy bb a1 a2 k' k2 n' n2 l'.length m2 c' d2 s' s2 A' B2 W e9 l5 l6 hdj hc2 hpN hc1 y0 y1 y2 y3 g0 g1 g2 g3 HSM _ (fun W' hW' => ?_)
          have r0' := cell_fr r0 hW'
          have r1' := (hW'.frozen (p := ⟨w.heap.size + 1 + 1, 0, none⟩) (World.block_lt_of_cell? W ⟨w.heap.size + 1 + 1, 0, none⟩ r0) (fun h => h)).trans r1
          cases bb with
          | false =>
            gi_wp2_with fail
            exact ⟨(KeepsFrom.trans ⟨hW'.size, fun k o _ hk _ => (hW'.block k (lt_of_heap hk) (fun h => h)).trans hk⟩ ((KeepsOthers.setCell _ _ _).from _)), .inl ⟨rfl, (fun h => (by have h2 := HAT2.out.1 h; simp only [Prod.mk.injEq] at h2; exact absurd h2.1 (of_decide_eq_false hbb)))⟩⟩
          | true =>
            have HEQ := hid (HAT2.out.2 (by rw [of_decide_eq_true hbb]))
            have hp1 : IntKind.i64.wrap ((p : Int) + 1) = (p : Int) + 1 := i64_in _ (by have := HNX.out; have := HXZ.out; omega)
            have e9' := cell_fr e9 hW'
            have z9' := (hW'.frozen (p := ⟨b9, 0, none⟩) (World.block_lt_of_cell? W ⟨b9, 0, none⟩ e9) (fun h => h)).trans z9
            have hb8W := (HB8.out.fr HF9.out (fun h => h)).fr HFW.out (by have := HL9.out; omega)
            have hb8' := hb8W.fr hW' (fun h => h)
            have hfw' := HBF.out.fr (HF6.out.trans (HKF.out.trans hW')) (fun h => h)
            have e8 := (hb8'.far (p := ⟨b9, 0, none⟩) (by show b8 ≠ b9; have := HL9.out; omega) (.int .i64 ((p : Int) + 1))).cell 0
            have ef := (hfw'.far (p := ⟨b9, 0, none⟩) (by show w.heap.size + 1 ≠ b9; have := HL9.out; omega) (.int .i64 ((p : Int) + 1))).cell 0
            have hk9 := ((HB9W.out.fr hW' (fun h => h)).set_ 0 (.int .i64 ((p : Int) + 1)))
            have ek := hk9.cell 0
            simp at e8 ef ek
            have HW2 := hid hW'
            have HK9 := hid hk9
            have hkeep : KeepsFrom w9.heap.size W (W'.setCell ⟨b9, 0, none⟩ (.int .i64 ((p : Int) + 1))) := KeepsFrom.trans ⟨hW'.size, fun k o _ hk _ => (hW'.block k (lt_of_heap hk) (fun h => h)).trans hk⟩ ((KeepsOthers.setCell _ _ _).from _)
            have hfr2 : Fr (fun b => b = b9) w9 (W'.setCell ⟨b9, 0, none⟩ (.int .i64 ((p : Int) + 1))) := (HFW.out.then_ hW' (fun _ _ h => h.elim)).setCell (.inl rfl) _
            have HKP := hid hkeep
            have HR2 := hid hfr2
            have hIn : ∀ (W2 : World), W2 = (W'.setCell ⟨b9, 0, none⟩ (.int .i64 ((p : Int) + 1))) → KeepsFrom w9.heap.size W W2 ∧ Kc (fun b => b = b9) W W2 ∧ Fr (fun b => b = b9) w9 W2 ∧ Blk W2 b9 3 #[.int .i64 ((pre ++ [v]).length : Nat)] ∧ prs (pre ++ [v]) <+: prs ys := fun W2 h => by
              subst h
              refine ⟨HKP.out, (Kc.fr (HW2.out.mono (fun _ _ h => h.elim))).trans (Kc.set (S := fun b => b = b9) _ (p := ⟨b9, 0, none⟩) rfl _), HR2.out, ?_, HEQ.out⟩
              rw [List.length_append, HPL.out]
              exact HK9.out
            have HIN := hid hIn
            clear hIn hkeep hfr2 hk9 hb8W hb8' hfw' hW'
            by_cases hr0 : r = 0
            · have hr1 : (r : Int) = 0 := by omega
              rw [hr1] at e8
              have hcv : IntKind.i64.wrap (few : Int) = (few : Int) := i64_in _ (by have := HFEW.out; omega)
              by_cases hkf : few < p + 1
              · have hkf1 : (few : Int) < (p : Int) + 1 := by omega
                gi_wp2_with fail
                exact ⟨(HIN.out _ rfl).1, .inr ⟨rfl, hr0, (HIN.out _ rfl).2.2.1⟩⟩
              · have hkf1 : ¬ (few : Int) < (p : Int) + 1 := by omega
                gi_wp2_with fail
                exact HIN.out _ rfl
            · have hr1 : ((r : Int) == 0) = false := beq_eq_false_iff_ne.2 (by omega)
              gi_wp2_with fail
              exact HIN.out _ rfl
        · have hne : (((dy : Nat) : Int) != ((dj : Nat) : Int)) = true := bne_iff_ne.2 (by omega)
          gi_wp2_with fail
          refine reg_b T _ w b5 Bt b8 b9 By p N r c1 c2 _ _ dy dj (some a1) a2 W e9 l5 l6 hdj hc2 hpN hne _ (fun W' hW' => ?_)
          have r0' := cell_fr r0 hW'
          have r1' := (hW'.frozen (p := ⟨w.heap.size + 1 + 1, 0, none⟩) (World.block_lt_of_cell? W ⟨w.heap.size + 1 + 1, 0, none⟩ r0) (fun h => h)).trans r1
          gi_wp2_with fail
          exact ⟨(KeepsFrom.trans ⟨hW'.size, fun k o _ hk _ => (hW'.block k (lt_of_heap hk) (fun h => h)).trans hk⟩ ((KeepsOthers.setCell _ _ _).from _)), .inl ⟨rfl, (fun h => (by have h2 := HAT2.out.1 h; simp only [Prod.mk.injEq] at h2; exact absurd h2.2 hd))⟩⟩
      case done =>
        rintro D xs W hD hS ⟨hfW, hbW, hpW⟩ hK
        have HKF := hid (HKW.out W hfW)
        have e8 := ((HB8.out.fr HF9.out (fun h => h)).fr hfW (by show ¬ b8 = b9; have := HL9.out; omega)).cell 0
        have z8 := ((HB8.out.fr HF9.out (fun h => h)).fr hfW (by show ¬ b8 = b9; have := HL9.out; omega)).frozen 0
        simp at e8
        obtain ⟨q5, q6⟩ := HL6.out W HKF.out
        have l5 := q5.cell 0
        simp at l5
        have hr1 : IntKind.i64.wrap ((r : Int) + 1) = (r : Int) + 1 := i64_in _ (by omega)
        have HREL := hid (show ∀ (W2 : World), W2 = W.alloc (.cells #[.int .i64 ((r : Int) + 1)] 3) → (∃ (ds2 : List Nat), r + 1 ≤ 2 ∧ ({ target := .collected D, args := #[] } :: dl) = dfs ds2 ∧ ds2.length = r + 1 ∧ ds2.Pairwise (fun a b => a ≠ b) ∧ (∀ D ∈ ds2, W2.heap[D]? = some (.deferred (some [])) ∧ w6.heap.size ≤ D) ∧ w6.heap.size ≤ W.heap.size ∧ Blk W2 W.heap.size 3 #[.int .i64 ((r + 1 : Nat) : Int)] ∧ Fr (fun _ => False) w6 W2) ∧ rdN (.pointer (some ⟨W.heap.size, 0, none⟩)) W2 = r + 1 from fun W2 h => by
          subst h
          have hblk := Blk.new W 3 #[.int .i64 ((r : Int) + 1)]
          have hold : ∀ E ∈ ds, W.heap[E]? = some (.deferred (some [])) ∧ w6.heap.size ≤ E ∧ E < w9.heap.size := fun E hE => by
            obtain ⟨h1, h2⟩ := HDS.out.2 E hE
            have h3 := lt_of_heap h1
            have h4 := HF9.out.size
            have h5 : ¬ E = b9 := fun e => by
              have h6 := HB9.out
              have h7 := (HF9.out.block E h3 (fun h => h)).trans h1
              rw [e] at h7
              rw [show w9.heap[b9]? = _ from h6] at h7
              cases h7
            exact ⟨(hfW.block E (by omega) h5).trans ((HF9.out.block E h3 (fun h => h)).trans h1), h2, by omega⟩
          refine ⟨⟨D :: ds, by omega, by rw [hdd]; rfl, by rw [List.length_cons, hdl], List.Pairwise.cons (fun E hE e => ?_) HDS.out.1, fun E hE => ?_, HKF.out.size, hblk, HKF.out.alloc _⟩, ?_⟩
          · have := (hold E hE).2.2
            omega
          · have ha : ∀ E : Nat, W.heap[E]? = some (Obj.deferred (some [])) → (W.alloc (.cells #[.int .i64 ((r : Int) + 1)] 3)).heap[E]? = some (Obj.deferred (some [])) := fun E h => (Below.heap_alloc W _ E (lt_of_heap h)).trans h
            rcases List.mem_cons.1 hE with rfl | hE
            · exact ⟨ha _ hK, by have := HL9.out; omega⟩
            · exact ⟨ha _ (hold E hE).1, (hold E hE).2.1⟩
          · have hc : (W.alloc (.cells #[.int .i64 ((r : Int) + 1)] 3)).cell? ⟨W.heap.size, 0, none⟩ = some (.int .i64 ((r : Int) + 1)) := (hblk.cell 0).trans rfl
            rw [rdN_of hc]
            omega)
        have hmu : 2 - rdN (.pointer (some ⟨b8, 0, none⟩)) wr = 2 - r := by
          have hc := HB8.out.cell 0
          simp at hc
          rw [rdN_of hc]
          simp
        have HMU := hid hmu
        clear hmu
        have hlen : xs.length = N := by rw [← HNN.out, ← prs_length, ← prs_length]; exact congrArg List.length (hS.trans HYS.out.symm)
        have e9 := hbW.cell 0
        simp at e9
        rw [hlen] at e9
        have hNN : ((N : Int) != (N : Int)) = false := bne_self_eq_false _
        clear hS hbW hpW hK q5 q6 hfW
        by_cases h1 : r = 1
        · obtain ⟨rr, hrr⟩ : ∃ rr : Int, (r : Int) = rr := ⟨_, rfl⟩
          have h11 : (rr == 1) = true := by rw [← hrr, h1]; rfl
          rw [hrr] at e8 hr1 HREL
          go_wp2_with fail
          obtain ⟨⟨ds2, j1, j2, j3, j4, j5, j6, j7, j8⟩, j9⟩ := HREL.out _ rfl
          refine ⟨⟨r + 1, W.heap.size, ds2, j1, ⟨rfl, rfl, rfl, rfl, rfl, rfl, rfl, rfl⟩, j2, j3, j4, j5, j6, j7, j8⟩, ?_⟩
          refine Nat.lt_of_le_of_lt (m := 2 - (r + 1)) (Nat.le_of_eq (congrArg (2 - ·) j9)) ?_
          refine Nat.lt_of_lt_of_le (m := 2 - r) (by omega) (Nat.le_of_eq HMU.out.symm)
        · have hrr : ((r : Int) == 1) = false := beq_eq_false_iff_ne.2 (by omega)
          go_wp2_with fail
          obtain ⟨⟨ds2, j1, j2, j3, j4, j5, j6, j7, j8⟩, j9⟩ := HREL.out _ rfl
          refine ⟨⟨r + 1, W.heap.size, ds2, j1, ⟨rfl, rfl, rfl, rfl, rfl, rfl, rfl, rfl⟩, j2, j3, j4, j5, j6, j7, j8⟩, ?_⟩
          refine Nat.lt_of_le_of_lt (m := 2 - (r + 1)) (Nat.le_of_eq (congrArg (2 - ·) j9)) ?_
          refine Nat.lt_of_lt_of_le (m := 2 - r) (by omega) (Nat.le_of_eq HMU.out.symm)
      case stop =>
        rintro D cc pre W hD hS hix hK
        rcases hix with ⟨rfl, hno⟩ | ⟨hbrk, hr0, hfW⟩
        · exact absurd (by rw [HYS.out]; exact hS) hno
        unfold BRKC at hbrk
        subst hbrk
        have HKF := hid (HKW.out W hfW)
        have e8 := ((HB8.out.fr HF9.out (fun h => h)).fr hfW (by show ¬ b8 = b9; have := HL9.out; omega)).cell 0
        have z8 := ((HB8.out.fr HF9.out (fun h => h)).fr hfW (by show ¬ b8 = b9; have := HL9.out; omega)).frozen 0
        simp at e8
        obtain ⟨q5, q6⟩ := HL6.out W HKF.out
        have l5 := q5.cell 0
        simp at l5
        have hr1 : IntKind.i64.wrap ((r : Int) + 1) = (r : Int) + 1 := i64_in _ (by omega)
        have HREL := hid (show ∀ (W2 : World), W2 = W.alloc (.cells #[.int .i64 ((r : Int) + 1)] 3) → (∃ (ds2 : List Nat), r + 1 ≤ 2 ∧ ({ target := .collected D, args := #[] } :: dl) = dfs ds2 ∧ ds2.length = r + 1 ∧ ds2.Pairwise (fun a b => a ≠ b) ∧ (∀ D ∈ ds2, W2.heap[D]? = some (.deferred (some [])) ∧ w6.heap.size ≤ D) ∧ w6.heap.size ≤ W.heap.size ∧ Blk W2 W.heap.size 3 #[.int .i64 ((r + 1 : Nat) : Int)] ∧ Fr (fun _ => False) w6 W2) ∧ rdN (.pointer (some ⟨W.heap.size, 0, none⟩)) W2 = r + 1 from fun W2 h => by
          subst h
          have hblk := Blk.new W 3 #[.int .i64 ((r : Int) + 1)]
          have hold : ∀ E ∈ ds, W.heap[E]? = some (.deferred (some [])) ∧ w6.heap.size ≤ E ∧ E < w9.heap.size := fun E hE => by
            obtain ⟨h1, h2⟩ := HDS.out.2 E hE
            have h3 := lt_of_heap h1
            have h4 := HF9.out.size
            have h5 : ¬ E = b9 := fun e => by
              have h6 := HB9.out
              have h7 := (HF9.out.block E h3 (fun h => h)).trans h1
              rw [e] at h7
              rw [show w9.heap[b9]? = _ from h6] at h7
              cases h7
            exact ⟨(hfW.block E (by omega) h5).trans ((HF9.out.block E h3 (fun h => h)).trans h1), h2, by omega⟩
          refine ⟨⟨D :: ds, by omega, by rw [hdd]; rfl, by rw [List.length_cons, hdl], List.Pairwise.cons (fun E hE e => ?_) HDS.out.1, fun E hE => ?_, HKF.out.size, hblk, HKF.out.alloc _⟩, ?_⟩
          · have := (hold E hE).2.2
            omega
          · have ha : ∀ E : Nat, W.heap[E]? = some (Obj.deferred (some [])) → (W.alloc (.cells #[.int .i64 ((r : Int) + 1)] 3)).heap[E]? = some (Obj.deferred (some [])) := fun E h => (Below.heap_alloc W _ E (lt_of_heap h)).trans h
            rcases List.mem_cons.1 hE with rfl | hE
            · exact ⟨ha _ hK, by have := HL9.out; omega⟩
            · exact ⟨ha _ (hold E hE).1, (hold E hE).2.1⟩
          · have hc : (W.alloc (.cells #[.int .i64 ((r : Int) + 1)] 3)).cell? ⟨W.heap.size, 0, none⟩ = some (.int .i64 ((r : Int) + 1)) := (hblk.cell 0).trans rfl
            rw [rdN_of hc]
            omega)
        have hmu : 2 - rdN (.pointer (some ⟨b8, 0, none⟩)) wr = 2 - r := by
          have hc := HB8.out.cell 0
          simp at hc
          rw [rdN_of hc]
          simp
        have HMU := hid hmu
        clear hmu
        have hrr : ((r : Int) == 1) = false := beq_eq_false_iff_ne.2 (by omega)
        clear hK q5 q6 hfW hS hr0
        refine wpIn_wide.2 ?_
        go_wp2_with fail
        obtain ⟨⟨ds2, j1, j2, j3, j4, j5, j6, j7, j8⟩, j9⟩ := HREL.out _ rfl
        refine ⟨⟨r + 1, W.heap.size, ds2, j1, ⟨rfl, rfl, rfl, rfl, rfl, rfl, rfl, rfl⟩, j2, j3, j4, j5, j6, j7, j8⟩, ?_⟩
        refine Nat.lt_of_le_of_lt (m := 2 - (r + 1)) (Nat.le_of_eq (congrArg (2 - ·) j9)) ?_
        refine Nat.lt_of_lt_of_le (m := 2 - r) (by omega) (Nat.le_of_eq HMU.out.symm)
    · have hri : ¬ (r : Int) < 2 := by omega
      have hbr := HBR.out.fr (HF6.out.trans HF.out) (fun h => h)
      have r0 := hbr.cell 0
      have r1 := hbr.frozen 0
      simp at r0
      obtain rfl : r = 2 := by omega
      obtain ⟨D1, D0, rfl⟩ : ∃ D1 D0, ds = [D1, D0] := by
        match ds, hdl with
        | [a, b], _ => exact ⟨a, b, rfl⟩
      have hne : D0 ≠ D1 := fun e => by
        have := (List.pairwise_cons.1 HDS.out.1).1 D0 (by simp)
        exact this e.symm
      have hd1 := HDS.out.2 D1 (by simp)
      have hd0 := HDS.out.2 D0 (by simp)
      have HBT4 := hid (hbr.set_ 0 (.bool true))
      go_wp2_with fail
      have k1 := (KeepsOthers.setCell wr ⟨w.heap.size + 1 + 1, 0, none⟩ (.bool true)).same D1 _ hd1.1 rfl
      have k0 := (KeepsOthers.setCell wr ⟨w.heap.size + 1 + 1, 0, none⟩ (.bool true)).same D0 _ hd0.1 rfl
      have k0' := (World.putObj_heap_other (w := wr.setCell ⟨w.heap.size + 1 + 1, 0, none⟩ (.bool true)) (o := .deferred none) hne).trans k0
      have hb1 := blk_put (o' := .deferred none) HBT4.out k1 rfl
      have hb2 := blk_put (o' := .deferred none) hb1 k0' rfl
      have h6 := hb2.cell 0
      simp at h6
      have hw6 : w.heap.size ≤ w6.heap.size := HFW6.out.size
      refine ⟨by simp, .inl ⟨_, _, rfl, run_takeDeferred k1, ?_⟩⟩
      refine ⟨by simp, .inl ⟨_, _, rfl, run_takeDeferred k0', ?_⟩⟩
      refine ⟨.bool true, ?_, ?_⟩
      · simp [results, Tryd.f3, go_sem, h6]
      · refine ⟨rfl, (HFW6.out.trans HF.out).then_ (T := fun k => w.heap.size ≤ k) ?_ (fun i hi h => by omega)⟩
        refine Fr.trans ?_ ((Fr.grown (grownBy_putObj' _ D1 (.deferred none)) (by show w.heap.size ≤ D1; omega)).trans (Fr.grown (grownBy_putObj' _ D0 (.deferred none)) (by show w.heap.size ≤ D0; omega)))
        exact (Fr.refl _ wr).setCell (.inl (by show w.heap.size ≤ w.heap.size + 1 + 1; omega)) _
end Go.Proofs.YtkmgiodhaaajjaaDoor.ItemTe
