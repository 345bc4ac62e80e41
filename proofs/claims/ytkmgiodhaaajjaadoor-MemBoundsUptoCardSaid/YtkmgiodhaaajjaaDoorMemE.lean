/- Layer mem: the law's walk. -/
import Derived.Test.YtkmgiodhaaajjaaDoorMemC
set_option linter.unusedVariables false
set_option linter.unusedSimpArgs false
namespace Go.Proofs.YtkmgiodhaaajjaaDoor.MemE
open Go.Proofs.YtkmgiodhaaajjaaDoor.SchO Go.IntWalk Go.RowKit Go.Proofs.YtkmgiodhaaajjaaDoor.Mem Go.Proofs.YtkmgiodhaaajjaaDoor.App Go.Proofs.YtkmgiodhaaajjaaDoor.FloatB Go.Proofs.YtkmgiodhaaajjaaDoor.ItemP Go.Proofs.YtkmgiodhaaajjaaDoor.ItemM Go.Proofs.YtkmgiodhaaajjaaDoor.SchP Go.Proofs.YtkmgiodhaaajjaaDoor.SchM Go.Proofs.YtkmgiodhaaajjaaDoor.SchG Go.Proofs.YtkmgiodhaaajjaaDoor.SchJ Go.Proofs.YtkmgiodhaaajjaaDoor.SchN Go.Proofs.YtkmgiodhaaajjaaDoor.SchR Go.Proofs.YtkmgiodhaaajjaaDoor.MemA Go.Proofs.YtkmgiodhaaajjaaDoor.MemB Go.Proofs.YtkmgiodhaaajjaaDoor.MemC Go.Proofs.YtkmgiodhaaajjaaDoor.MemD

set_option maxRecDepth 100000 in
set_option maxHeartbeats 8000000 in
theorem law_calls (hAw : ∀ w : World, Dbl w → Calls Tryd.prog 38 #[] w fun e w' => e = .returned (.bool true) ∧ Fr (fun _ => False) w w') (d k s g y : Int) (ns : List Nod) (A : Option Addr) (M c h : Nat) (w : World) (hg : -9223372036854775808 ≤ g ∧ g ≤ 9223372036854775807) (hD : Dbl w) (hM : ns.length = M) (hc : M ≤ c) (hMm : M ≤ 1048576) (H : RdN w h A ns) :
    Calls Tryd.prog 7 #[.agg #[.int .i64 d, .int .i64 k, .int .i64 s], .agg #[.slice A M c], .int .i64 g, .int .i64 y] w fun e w' => e = .returned (.bool true) ∧ Fr (fun _ => False) w w' := by
  have HAW := hid hAw
  have HDD := hid hD
  have HG := hid hg
  have HR := hid H
  have HM := hid hM
  clear H hM hD hAw hg
  obtain ⟨w1, hw1⟩ : ∃ w1, (w.alloc (.cells #[.int .i64 d, .int .i64 k, .int .i64 s] 59)).alloc (.cells #[.slice A M c] 42) = w1 := ⟨_, rfl⟩
  have HF1 := hid (show Fr (fun _ => False) w w1 by rw [← hw1]; exact fr_2 _ _ _)
  have HBL := hid (show Blk w1 w.heap.size 59 #[.int .i64 d, .int .i64 k, .int .i64 s] by rw [← hw1]; exact (Blk.new w _ _).alloc _)
  have HBS := hid (show Blk w1 (w.heap.size + 1) 42 #[.slice A M c] by rw [← hw1]; have := Blk.new (w.alloc (.cells #[.int .i64 d, .int .i64 k, .int .i64 s] 59)) 42 #[.slice A M c]; rwa [World.size_alloc] at this)
  have HW1 := hid hw1
  have HXW := hid (show ∀ w', Fr (fun _ => False) w1 w' → RdN w' h A ns ∧ Dbl w' from fun w' hf => ⟨(HR.out.fr0 HF1.out).fr0 hf, (HDD.out.fr0 HF1.out).fr0 hf⟩)
  have HS := hid (show ∀ w', Fr (fun _ => False) w1 w' → w'.cell? ⟨w.heap.size, 0, none⟩ = some (.int .i64 d) ∧ w'.cell? ⟨w.heap.size, 1, none⟩ = some (.int .i64 k) ∧ w'.cell? ⟨w.heap.size, 2, none⟩ = some (.int .i64 s) ∧ w'.cell? ⟨w.heap.size + 1, 0, none⟩ = some (.slice A M c) ∧ Fr (fun _ => False) w1 w' from fun w' hf => by
    obtain ⟨a0, a1, a2⟩ := blk3 (HBL.out.fr hf (fun h => h))
    exact ⟨a0, a1, a2, (blk1 (HBS.out.fr hf (fun h => h))).1, hf⟩)
  clear hw1
  obtain ⟨L, hL⟩ : ∃ x, longN ns = x := ⟨_, rfl⟩
  have HL := hid hL
  obtain ⟨X, e, hX⟩ : ∃ X e, boundV d k s ns = (X, e) := ⟨_, _, rfl⟩
  have HX := hid hX
  obtain ⟨D, b, hV⟩ : ∃ D b, deepV g y ns = (D, b) := ⟨_, _, rfl⟩
  have HV := hid hV
  have hbb : (b == b) = true := by cases b <;> rfl
  clear hL hX hV
  have HLA := hid (fun wx (hf : wx.cell? ⟨w.heap.size + 1, 0, none⟩ = some (.slice A M c) ∧ Fr (fun _ => False) w1 wx) => (longest_calls ns A M c h wx HM.out hc hMm (HXW.out wx hf.2).1).mono (R' := fun e w' => e = .returned (.int .i64 (L : Int)) ∧ w'.cell? ⟨w.heap.size + 1, 0, none⟩ = some (.slice A M c) ∧ Fr (fun _ => False) w1 w') (fun e w' g => ⟨by rw [g.1, HL.out], (HS.out w' (hf.2.then_ g.2 (fun _ _ h => h))).2.2.2⟩))
  have HLR := hid (fun wx (hf : wx.cell? ⟨w.heap.size + 1, 0, none⟩ = some (.slice A M c) ∧ Fr (fun _ => False) w1 wx) => (rlongest_calls ns A M c h wx HM.out hc hMm (HXW.out wx hf.2).1).mono (R' := fun e w' => e = .returned (.int .i64 (L : Int)) ∧ w'.cell? ⟨w.heap.size + 1, 0, none⟩ = some (.slice A M c) ∧ Fr (fun _ => False) w1 w') (fun e w' g => ⟨by rw [g.1, HL.out], (HS.out w' (hf.2.then_ g.2 (fun _ _ h => h))).2.2.2⟩))
  obtain ⟨c0, c1, c2, d0, _⟩ := HS.out w1 (Fr.refl _ _)
  go_enter Tryd.func7, Tryd.ntmps7
  go_wp2_with fail
  rw [HW1.out]
  refine (HAW.out w1 (HXW.out w1 (Fr.refl _ _)).2).mono ?_
  rintro e' w2 ⟨rfl, hf⟩
  have HF2 := hid hf
  clear hf c0 c1 c2 d0
  obtain ⟨c0, c1, c2, d0, _⟩ := HS.out w2 HF2.out
  go_wp2_with fail
  refine (sgreat_calls ns A M c h w2 HM.out hc hMm (HXW.out w2 HF2.out).1).mono ?_
  rintro e' w3 ⟨⟨q, rfl⟩, hf⟩
  have HF3 := hid (HF2.out.then_ hf (fun _ _ h => h))
  clear hf c0 c1 c2 d0
  obtain ⟨c0, c1, c2, d0, _⟩ := HS.out w3 HF3.out
  cases q with
  | true =>
    go_wp2_with fail
    go_ret
    exact ⟨rfl, HF1.out.trans HF3.out⟩
  | false =>
  go_wp2_with fail
  refine (bound_calls d k s ns A M c h w3 (HXW.out w3 HF3.out).2 HM.out hc hMm (HXW.out w3 HF3.out).1).mono ?_
  rintro e' w4 ⟨rfl, hf⟩
  have HF4 := hid (HF3.out.then_ hf (fun _ _ h => h))
  rw [HX.out]
  clear hf c0 c1 c2 d0
  obtain ⟨c0, c1, c2, d0, _⟩ := HS.out w4 HF4.out
  go_wp2_with fail
  refine (rbound_calls d k s ns A M c h w4 HM.out hc hMm (HXW.out w4 HF4.out).1).mono ?_
  rintro e' w5 ⟨rfl, hf⟩
  have HF5 := hid (HF4.out.then_ hf (fun _ _ h => h))
  rw [HX.out]
  clear hf c0 c1 c2 d0
  obtain ⟨c0, c1, c2, d0, _⟩ := HS.out w5 HF5.out
  go_wp2_with fail
  refine (deepest_calls g y ns A M c h w5 HG.out (HXW.out w5 HF5.out).2 HM.out hc hMm (HXW.out w5 HF5.out).1).mono ?_
  rintro e' w6 ⟨rfl, hf⟩
  have HF6 := hid (HF5.out.then_ hf (fun _ _ h => h))
  rw [HV.out]
  clear hf c0 c1 c2 d0
  obtain ⟨c0, c1, c2, d0, _⟩ := HS.out w6 HF6.out
  go_wp2_with fail
  refine (rdeepest_calls g y ns A M c h w6 HM.out hc hMm (HXW.out w6 HF6.out).1).mono ?_
  rintro e' w7 ⟨rfl, hf⟩
  have HF7 := hid (HF6.out.then_ hf (fun _ _ h => h))
  rw [HV.out]
  clear hf c0 c1 c2 d0
  obtain ⟨c0, c1, c2, d0, _⟩ := HS.out w7 HF7.out
  go_wp2_with fail
  go_region_held3 (fun w' => w'.cell? ⟨w.heap.size + 1, 0, none⟩ = some (.slice A M c) ∧ Fr (fun _ => False) w1 w')
    (first | exact (HS.out _ HF7.out).2.2.2 | exact (HS.out _ HF7.out.drew).2.2.2 | assumption)
    (first
      | ((go_at_call 43; with_reducible refine (HLA.out _ (by assumption)).mono ?_; rintro e' w8 ⟨rfl, hS⟩))
      | ((go_at_call 44; with_reducible refine (HLR.out _ (by assumption)).mono ?_; rintro e' w8 ⟨rfl, hS⟩)))
  all_goals
    go_wp2_with fail
    go_ret
    exact ⟨rfl, HF1.out.trans hS.2⟩
end Go.Proofs.YtkmgiodhaaajjaaDoor.MemE
