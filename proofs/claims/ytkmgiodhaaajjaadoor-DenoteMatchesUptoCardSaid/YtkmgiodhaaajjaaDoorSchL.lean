/- Layer schema: the document's word for two nodes that are the same. Layer schema: the document's words: the nodes that a node names; are two schemas the same? is there more than is looked at? -/
import Derived.Test.YtkmgiodhaaajjaaDoorSchF
import Derived.Test.YtkmgiodhaaajjaaDoorSchGJ
import Derived.Test.YtkmgiodhaaajjaaDoorItemU
import Derived.Deep.RegionHeld3
set_option linter.unusedVariables false
set_option linter.unusedSimpArgs false
namespace Go.Proofs.YtkmgiodhaaajjaaDoor.SchK
open Go.IntWalk Go.RowKit Go.Proofs.YtkmgiodhaaajjaaDoor.Mem Go.Proofs.YtkmgiodhaaajjaaDoor.App Go.Proofs.YtkmgiodhaaajjaaDoor.ItemP Go.Proofs.YtkmgiodhaaajjaaDoor.ItemM Go.Proofs.YtkmgiodhaaajjaaDoor.ItemT Go.Proofs.YtkmgiodhaaajjaaDoor.ItemB Go.Proofs.YtkmgiodhaaajjaaDoor.SchP Go.Proofs.YtkmgiodhaaajjaaDoor.SchM Go.Proofs.YtkmgiodhaaajjaaDoor.SchA Go.Proofs.YtkmgiodhaaajjaaDoor.SchC Go.Proofs.YtkmgiodhaaajjaaDoor.SchF

theorem bne_both (a b : Int) : ((a != b) = false ∧ a = b) ∨ ((a != b) = true ∧ ¬ a = b) := by
  by_cases h : a = b
  · exact .inl ⟨by rw [h]; simp, h⟩
  · exact .inr ⟨bne_iff_ne.2 h, h⟩

set_option maxRecDepth 100000 in
set_option maxHeartbeats 8000000 in
theorem rsame_calls (a b : Nod) (h h' : Nat) (Av Al Af Bv Bl Bf : Option Addr) (cv cl cf dv dl df : Nat) (w : World) (Ha : NdR w h a Av cv Al cl Af cf) (Hb : NdR w h' b Bv dv Bl dl Bf df) :
    Calls Tryd.prog 78 #[.agg (ndC a Av cv Al cl Af cf), .agg (ndC b Bv dv Bl dl Bf df)] w fun e w' => e = .returned (.bool (decide (a = b))) ∧ Fr (fun _ => False) w w' := by
  have HA := hid Ha
  have HB := hid Hb
  rw [nod_dec, ndC_eq, ndC_eq]
  obtain ⟨k, lo, hi, v, l, f⟩ := a
  obtain ⟨k', lo', hi', v', l', f'⟩ := b
  simp only
  have alc := Ha.lc
  have afc := Ha.fc
  have blc := Hb.lc
  have bfc := Hb.fc
  have alm := Ha.lm
  have afm := Ha.fm
  simp only at alc afc blc bfc alm afm
  obtain ⟨x3, hx3⟩ : ∃ x, v.k = x := ⟨_, rfl⟩
  obtain ⟨x4, hx4⟩ : ∃ x, v.n = x := ⟨_, rfl⟩
  obtain ⟨x5, hx5⟩ : ∃ x, v.s = x := ⟨_, rfl⟩
  obtain ⟨x6, hx6⟩ : ∃ x, v.l.length = x := ⟨_, rfl⟩
  obtain ⟨x7, hx7⟩ : ∃ x, l.length = x := ⟨_, rfl⟩
  obtain ⟨x8, hx8⟩ : ∃ x, f.length = x := ⟨_, rfl⟩
  obtain ⟨y3, hy3⟩ : ∃ x, v'.k = x := ⟨_, rfl⟩
  obtain ⟨y4, hy4⟩ : ∃ x, v'.n = x := ⟨_, rfl⟩
  obtain ⟨y5, hy5⟩ : ∃ x, v'.s = x := ⟨_, rfl⟩
  obtain ⟨y6, hy6⟩ : ∃ x, v'.l.length = x := ⟨_, rfl⟩
  obtain ⟨y7, hy7⟩ : ∃ x, l'.length = x := ⟨_, rfl⟩
  obtain ⟨y8, hy8⟩ : ∃ x, f'.length = x := ⟨_, rfl⟩
  have HVA := hid Ha.v
  have HVB := hid Hb.v
  simp only at HVA HVB
  rw [hx3, hx4, hx5, hx6] at HVA
  rw [hy3, hy4, hy5, hy6] at HVB
  rw [hx7] at alc alm
  rw [hx8] at afc afm
  rw [hy7] at blc
  rw [hy8] at bfc
  rw [hx3, hx4, hx5, hx6, hx7, hx8, hy3, hy4, hy5, hy6, hy7, hy8]
  have HX7 := hid hx7
  have HX8 := hid hx8
  have HY7 := hid hy7
  have HY8 := hid hy8
  clear hx3 hx4 hx5 hx6 hx7 hx8 hy3 hy4 hy5 hy6 hy7 hy8 Ha Hb
  obtain ⟨w1, hw1⟩ : ∃ w1, (w.alloc (.cells #[.int .i64 k, .int .i64 lo, .int .i64 hi, .int .i64 x3, .int .u64 x4, .string x5, .slice Av x6 cv, .slice Al x7 cl, .slice Af x8 cf] 54)).alloc (.cells #[.int .i64 k', .int .i64 lo', .int .i64 hi', .int .i64 y3, .int .u64 y4, .string y5, .slice Bv y6 dv, .slice Bl y7 dl, .slice Bf y8 df] 54) = w1 := ⟨_, rfl⟩
  have HF1 := hid (show Fr (fun _ => False) w w1 by rw [← hw1]; exact ((Fr.refl _ w).alloc _).alloc _)
  have HB1 := hid (show Blk w1 w.heap.size 54 #[.int .i64 k, .int .i64 lo, .int .i64 hi, .int .i64 x3, .int .u64 x4, .string x5, .slice Av x6 cv, .slice Al x7 cl, .slice Af x8 cf] by rw [← hw1]; exact (Blk.new w _ _).alloc _)
  have HB2 := hid (show Blk w1 (w.heap.size + 1) 54 #[.int .i64 k', .int .i64 lo', .int .i64 hi', .int .i64 y3, .int .u64 y4, .string y5, .slice Bv y6 dv, .slice Bl y7 dl, .slice Bf y8 df] by
    rw [← hw1]
    have := Blk.new (w.alloc (.cells #[.int .i64 k, .int .i64 lo, .int .i64 hi, .int .i64 x3, .int .u64 x4, .string x5, .slice Av x6 cv, .slice Al x7 cl, .slice Af x8 cf] 54)) 54 #[.int .i64 k', .int .i64 lo', .int .i64 hi', .int .i64 y3, .int .u64 y4, .string y5, .slice Bv y6 dv, .slice Bl y7 dl, .slice Bf y8 df]
    rwa [World.size_alloc] at this)
  have HW1 := hid hw1
  clear hw1
  obtain ⟨c0, c1, c2, c3, c4, c5, c6, c7, c8⟩ := blk9 HB1.out
  obtain ⟨d0, d1, d2, d3, d4, d5, d6, d7, d8⟩ := blk9 HB2.out
  have hor : ((k != k') = true ∧ ¬ k = k') ∨ ((k != k') = false ∧ k = k' ∧ (lo != lo') = true ∧ ¬ lo = lo') ∨ ((k != k') = false ∧ k = k' ∧ (lo != lo') = false ∧ lo = lo' ∧ (hi != hi') = true ∧ ¬ hi = hi') ∨ ((k != k') = false ∧ k = k' ∧ (lo != lo') = false ∧ lo = lo' ∧ (hi != hi') = false ∧ hi = hi') := by
    rcases bne_both k k' with ⟨h1, h2⟩ | ⟨h1, h2⟩
    · rcases bne_both lo lo' with ⟨h3, h4⟩ | ⟨h3, h4⟩
      · rcases bne_both hi hi' with ⟨h5, h6⟩ | ⟨h5, h6⟩
        · exact .inr (.inr (.inr ⟨h1, h2, h3, h4, h5, h6⟩))
        · exact .inr (.inr (.inl ⟨h1, h2, h3, h4, h5, h6⟩))
      · exact .inr (.inl ⟨h1, h2, h3, h4⟩)
    · exact .inl ⟨h1, h2⟩
  rcases hor with ⟨g1, n1⟩ | ⟨g1, n1, g2, n2⟩ | ⟨g1, n1, g2, n2, g3, n3⟩ | ⟨g1, n1, g2, n2, g3, n3⟩
  · have N1 := hid n1
    clear n1
    go_enter Tryd.func78, Tryd.ntmps78
    go_wp2_with fail
    rw [HW1.out]
    go_wp2_with fail
    go_ret
    exact ⟨ret_bool (by rw [decide_eq_false N1.out]; rfl), HF1.out⟩
  · have N2 := hid n2
    clear n1 n2
    go_enter Tryd.func78, Tryd.ntmps78
    go_wp2_with fail
    rw [HW1.out]
    go_wp2_with fail
    go_ret
    exact ⟨ret_bool (by rw [decide_eq_false N2.out]; simp), HF1.out⟩
  · have N3 := hid n3
    clear n1 n2 n3
    go_enter Tryd.func78, Tryd.ntmps78
    go_wp2_with fail
    rw [HW1.out]
    go_wp2_with fail
    go_ret
    exact ⟨ret_bool (by rw [decide_eq_false N3.out]; simp), HF1.out⟩
  have N1 := hid n1
  have N2 := hid n2
  have N3 := hid n3
  clear n1 n2 n3
  have HT := hid (show ∀ p q r : Bool, (decide (k = k') && decide (lo = lo') && decide (hi = hi') && p && q && r) = (p && q && r) from fun p q r => by rw [decide_eq_true N1.out, decide_eq_true N2.out, decide_eq_true N3.out]; rfl)
  obtain ⟨bv, hbv⟩ : ∃ b, decide (v = v') = b := ⟨_, rfl⟩
  have HBV := hid hbv
  clear hbv
  go_enter Tryd.func78, Tryd.ntmps78
  go_wp2_with fail
  rw [HW1.out]
  go_wp2_with fail
  refine (refsame_calls 2000000 v v' (by have := HA.out.vm; simp only at this; omega) (Nat.le_refl _) 0 h 0 h' _ _ w1 (Nat.le_trans HA.out.hh HF1.out.size) (Nat.le_trans HB.out.hh HF1.out.size) (HVA.out.fr0 HF1.out HA.out.hh) (HVB.out.fr0 HF1.out HB.out.hh)).mono ?_
  rintro e w2 ⟨rfl, hf⟩
  rw [HBV.out]
  have HF2 := hid hf
  clear hf c0 c1 c2 c3 c4 c5 c6 c7 c8 d0 d1 d2 d3 d4 d5 d6 d7 d8
  have HCD := hid (show ∀ w', Fr (fun _ => False) w1 w' → w'.cell? ⟨w.heap.size, 7, none⟩ = some (.slice Al x7 cl) ∧ w'.cell? ⟨w.heap.size, 8, none⟩ = some (.slice Af x8 cf) ∧ w'.cell? ⟨w.heap.size + 1, 7, none⟩ = some (.slice Bl y7 dl) ∧ w'.cell? ⟨w.heap.size + 1, 8, none⟩ = some (.slice Bf y8 df) from fun w' hf => by
    obtain ⟨_, _, _, _, _, _, _, c7, c8⟩ := blk9 (HB1.out.fr hf (fun h => h))
    obtain ⟨_, _, _, _, _, _, _, d7, d8⟩ := blk9 (HB2.out.fr hf (fun h => h))
    exact ⟨c7, c8, d7, d8⟩)
  obtain ⟨c7, c8, d7, d8⟩ := HCD.out _ HF2.out
  cases bv with
  | false =>
    go_wp2_with fail
    go_ret
    exact ⟨ret_bool (by rw [HT.out, HBV.out]; rfl), HF1.out.trans HF2.out⟩
  | true =>
  by_cases h7 : x7 = y7
  · by_cases h8 : x8 = y8
    · subst h7 h8
      go_wp2_with fail
      clear c7 c8 d7 d8
      go_loopw [5] (fun i wr => ∃ j : Nat, j ≤ x7 ∧ i = .int .i64 j ∧ Hid (∀ i, i < j → l.getD i 0 = l'.getD i 0) ∧ Hid (Fr (fun _ => False) w1 wr)) (fun i _ => x7 - (intOf i).toNat)
      case atStart => exact ⟨0, Nat.zero_le _, rfl, hid (fun i hi => by omega), HF2⟩
      case round =>
        obtain ⟨j, hj, rfl, HL, HF⟩ := hrel
        obtain ⟨c7, c8, d7, d8⟩ := HCD.out _ HF.out
        by_cases hlt : j < x7
        · obtain ⟨ax, rfl, _, cx⟩ := (HA.out.l.fr0 HF1.out).fr0 HF.out j (by simp only [HX7.out]; exact hlt)
          obtain ⟨ay, rfl, _, cy⟩ := (HB.out.l.fr0 HF1.out).fr0 HF.out j (by simp only [HY7.out]; exact hlt)
          simp only at cx cy
          obtain ⟨x, hx⟩ : ∃ x, l.getD j 0 = x := ⟨_, rfl⟩
          obtain ⟨y, hy⟩ : ∃ y, l'.getD j 0 = y := ⟨_, rfl⟩
          rw [hx] at cx
          rw [hy] at cy
          have HXE := hid hx
          have HYE := hid hy
          have hj0 : (0 : Int) ≤ (j : Int) := by omega
          have hjm : (j : Int) < (x7 : Int) := by omega
          have hjc : (j : Int) < (cl : Int) := by omega
          have hjd : (j : Int) < (dl : Int) := by omega
          clear hx hy
          by_cases he : x = y
          · subst he
            go_wp2_with fail
            go_quiet (fail)
            go_wp2_with fail
            go_roundw
            case rel => exact ⟨j + 1, by omega, by go_num, hid (fun i hi => by
              by_cases h : i < j
              · exact HL.out i h
              · obtain rfl : i = j := by omega
                rw [HXE.out, HYE.out]), hid (HF.out.drewN _)⟩
            case measure => simp [intOf]; omega
          · have hb : (x != y) = true := bne_iff_ne.2 he
            have HE := hid he
            clear he
            go_wp2_with fail
            go_quiet (fail)
            go_wp2_with fail
            go_ret
            refine ⟨ret_bool ?_, HF1.out.trans (HF.out.drewN _)⟩
            rw [HT.out, HBV.out, decide_eq_false (p := l = l')]
            · rfl
            · intro h
              rw [h] at HXE
              exact HE.out (HXE.out.symm.trans HYE.out)
        · obtain rfl : j = x7 := by omega
          have HLE := hid (show l = l' from agree_ext (by rw [HX7.out, HY7.out]) (fun i hi => HL.out i (by rw [HX7.out] at hi; exact hi)))
          go_wp2_with fail
          clear c7 c8 d7 d8
          obtain ⟨wo, rfl⟩ : ∃ wo : World, wo = wr := ⟨_, rfl⟩
          go_loopw [6] (fun i wr => ∃ q : Nat, q ≤ x8 ∧ i = .int .i64 q ∧ Hid (∀ i, i < q → f[i]? = f'[i]?) ∧ Hid (Fr (fun _ => False) w1 wr)) (fun i _ => x8 - (intOf i).toNat)
          case atStart => exact ⟨0, Nat.zero_le _, rfl, hid (fun i hi => by omega), HF⟩
          case round =>
            obtain ⟨q, hq, rfl, HL2, HF3⟩ := hrel
            obtain ⟨c7, c8, d7, d8⟩ := HCD.out _ HF3.out
            by_cases hlt : q < x8
            · obtain ⟨ax, rfl, _, _, _, cx0, cx1, cx2⟩ := (HA.out.f.fr0 HF1.out).fr0 HF3.out q (by simp only [HX8.out]; exact hlt)
              obtain ⟨ay, rfl, _, _, _, cy0, cy1, cy2⟩ := (HB.out.f.fr0 HF1.out).fr0 HF3.out q (by simp only [HY8.out]; exact hlt)
              simp only at cx0 cx1 cx2 cy0 cy1 cy2
              have HGX := hid (List.getElem?_eq_getElem (show q < f.length by rw [HX8.out]; exact hlt))
              have HGY := hid (List.getElem?_eq_getElem (show q < f'.length by rw [HY8.out]; exact hlt))
              obtain ⟨x, hx⟩ : ∃ x, f[q]'(by rw [HX8.out]; exact hlt) = x := ⟨_, rfl⟩
              obtain ⟨y, hy⟩ : ∃ y, f'[q]'(by rw [HY8.out]; exact hlt) = y := ⟨_, rfl⟩
              rw [hx] at cx0 cx1 cx2 HGX
              rw [hy] at cy0 cy1 cy2 HGY
              have hj0 : (0 : Int) ≤ (q : Int) := by omega
              have hjm : (q : Int) < (x8 : Int) := by omega
              have hjc : (q : Int) < (cf : Int) := by omega
              have hjd : (q : Int) < (df : Int) := by omega
              clear hx hy
              by_cases he : x = y
              · have hb := fun w => run_neq_fld w x y false (by rw [decide_eq_true he]; rfl)
                have HE := hid he
                clear he
                go_wp2_with fail
                go_quiet (fail)
                go_wp2_with fail
                go_roundw
                case rel => exact ⟨q + 1, by omega, by go_num, hid (fun i hi => by
                  by_cases h : i < q
                  · exact HL2.out i h
                  · obtain rfl : i = q := by omega
                    rw [HGX.out, HGY.out, HE.out]), hid (HF3.out.drewN _)⟩
                case measure => simp [intOf]; omega
              · have hb := fun w => run_neq_fld w x y true (by rw [decide_eq_false he]; rfl)
                have HE := hid he
                clear he
                go_wp2_with fail
                go_quiet (fail)
                go_wp2_with fail
                go_ret
                refine ⟨ret_bool ?_, HF1.out.trans (HF3.out.drewN _)⟩
                rw [HT.out, HBV.out, decide_eq_false (p := f = f')]
                · simp
                · intro h
                  have h2 := HGX.out
                  rw [h, HGY.out] at h2
                  exact HE.out (Option.some.inj h2).symm
            · obtain rfl : q = x8 := by omega
              go_wp2_with fail
              go_ret
              refine ⟨ret_bool ?_, HF1.out.trans HF3.out⟩
              rw [HT.out, HBV.out, decide_eq_true HLE.out, decide_eq_true (p := f = f')]
              · rfl
              · apply List.ext_getElem?
                intro i
                by_cases hi : i < q
                · exact HL2.out i hi
                · rw [List.getElem?_eq_none (by rw [HX8.out]; omega), List.getElem?_eq_none (by rw [HY8.out]; omega)]
    · have hb : ((x8 : Int) != (y8 : Int)) = true := bne_iff_ne.2 (by omega)
      have HE := hid h8
      subst h7
      clear h8
      go_wp2_with fail
      go_ret
      refine ⟨ret_bool ?_, HF1.out.trans HF2.out⟩
      rw [HT.out, HBV.out, decide_eq_false (p := f = f') (fun h => HE.out (by rw [← HX8.out, ← HY8.out, h]))]
      simp
  · have hb : ((x7 : Int) != (y7 : Int)) = true := bne_iff_ne.2 (by omega)
    have HE := hid h7
    clear h7
    go_wp2_with fail
    go_ret
    refine ⟨ret_bool ?_, HF1.out.trans HF2.out⟩
    rw [HT.out, HBV.out, decide_eq_false (p := l = l') (fun h => HE.out (by rw [← HX7.out, ← HY7.out, h]))]
    rfl
end Go.Proofs.YtkmgiodhaaajjaaDoor.SchK

namespace Go.Proofs.YtkmgiodhaaajjaaDoor.SchL
open Go.IntWalk Go.RowKit Go.Proofs.YtkmgiodhaaajjaaDoor.Mem Go.Proofs.YtkmgiodhaaajjaaDoor.App Go.Proofs.YtkmgiodhaaajjaaDoor.ItemP Go.Proofs.YtkmgiodhaaajjaaDoor.ItemM Go.Proofs.YtkmgiodhaaajjaaDoor.ItemT Go.Proofs.YtkmgiodhaaajjaaDoor.ItemU Go.Proofs.YtkmgiodhaaajjaaDoor.SchP Go.Proofs.YtkmgiodhaaajjaaDoor.SchM Go.Proofs.YtkmgiodhaaajjaaDoor.SchA Go.Proofs.YtkmgiodhaaajjaaDoor.SchB Go.Proofs.YtkmgiodhaaajjaaDoor.SchC Go.Proofs.YtkmgiodhaaajjaaDoor.SchF Go.Proofs.YtkmgiodhaaajjaaDoor.SchI Go.Proofs.YtkmgiodhaaajjaaDoor.SchK

set_option maxRecDepth 20000 in
set_option maxHeartbeats 4000000 in
theorem rnamed_calls (n : Nod) (h : Nat) (Av : Option Addr) (cv : Nat) (Al : Option Addr) (cl : Nat) (Af : Option Addr) (cf : Nat) (w : World) (H : NdR w h n Av cv Al cl Af cf) :
    Calls Tryd.prog 35 #[.agg (ndC n Av cv Al cl Af cf)] w fun e w' => ∃ A' c', e = .returned (.slice A' n.named.length c') ∧ App.Own .i64 3 w' w.heap.size (.slice A' n.named.length c') n.named ∧ Fr (fun _ => False) w w' := by
  have HR := hid H
  obtain ⟨m, hm⟩ : ∃ m, n.l.length = m := ⟨_, rfl⟩
  obtain ⟨q, hq⟩ : ∃ q, n.f.length = q := ⟨_, rfl⟩
  have HM := hid hm
  have HQ := hid hq
  have hlc := H.lc
  have hfc := H.fc
  have hlm := H.lm
  have hfm := H.fm
  rw [ndC_eq]
  obtain ⟨wA, hwA⟩ : ∃ wA, w.alloc (.cells #[.int .i64 n.k, .int .i64 n.lo, .int .i64 n.hi, .int .i64 n.v.k, .int .u64 n.v.n, .string n.v.s, .slice Av n.v.l.length cv, .slice Al n.l.length cl, .slice Af n.f.length cf] 54) = wA := ⟨_, rfl⟩
  have HFA := hid (show Fr (fun _ => False) w wA by rw [← hwA]; exact (Fr.refl _ w).alloc _)
  have HBA := hid (show Blk wA w.heap.size 54 #[.int .i64 n.k, .int .i64 n.lo, .int .i64 n.hi, .int .i64 n.v.k, .int .u64 n.v.n, .string n.v.s, .slice Av n.v.l.length cv, .slice Al n.l.length cl, .slice Af n.f.length cf] by rw [← hwA]; exact Blk.new w _ _)
  have HZA := hid (show wA.heap.size = w.heap.size + 1 by rw [← hwA]; simp)
  obtain ⟨w1, hw1⟩ : ∃ w1, wA.alloc (.cells #[] 3) = w1 := ⟨_, rfl⟩
  have HF1 := hid (show Fr (fun _ => False) wA w1 by rw [← hw1]; exact (Fr.refl _ wA).alloc _)
  have HO0 := hid (show App.Own .i64 3 w1 (w.heap.size + 1) (.slice (some ⟨w.heap.size + 1, 0, none⟩) 0 0) [] by
    have h := own_made0 .i64 3 wA
    rw [HZA.out, hw1] at h
    exact h)
  have HZ1 := hid (show w.heap.size + 1 ≤ w1.heap.size by rw [← hw1, World.size_alloc, HZA.out]; omega)
  have HW1 := hid (show (w.alloc (.cells #[.int .i64 n.k, .int .i64 n.lo, .int .i64 n.hi, .int .i64 n.v.k, .int .u64 n.v.n, .string n.v.s, .slice Av n.v.l.length cv, .slice Al n.l.length cl, .slice Af n.f.length cf] 54)).alloc (.cells #[] 3) = w1 by rw [hwA, hw1])
  have HNL := hid (show n.named.length = m + q by simp [Nod.named, hm, hq])
  rw [hm, hq] at HW1 HBA
  rw [hm] at hlc hlm
  rw [hq] at hfc hfm
  rw [HNL.out]
  obtain ⟨c0, c1, c2, c3, c4, c5, c6, c7, c8⟩ := blk9 (HBA.out.fr HF1.out (fun h => h))
  clear hw1 hwA H c0 c1 c2 c3 c4 c5 c6 hm hq
  go_enter Tryd.func35, Tryd.ntmps35
  rw [HM.out, HQ.out]
  go_wp2_with (first
    | (rw [HW1.out]; refine wpList_app rfl (.tmp 5) (.tmp 7) 28 rfl 8 Tryd.underlying28 infoInt _ [] rfl HO0.out Al m cl rfl n.l HM.out ((HR.out.l.fr0 HFA.out).fr0 HF1.out) (by simp; omega) (by exact HZ1.out) ?_; intro v6 w6 h6; have HO6 := hid h6.out.own; have HF6 := hid (h6.out.fr0 HO0.out HF1.out (by rw [HZA.out]; omega)); obtain ⟨A6, c6, rfl, _⟩ := h6.out.own.form; clear h6))
  clear c7 c8
  go_loopw [3, 4] (fun v i wr => ∃ (j : Nat) (A3 : Option Addr) (c3 : Nat), j ≤ q ∧ i = .int .i64 j ∧ v = .slice A3 (m + j) c3 ∧ Hid (App.Own .i64 3 wr (w.heap.size + 1) (.slice A3 (m + j) c3) (n.l ++ (n.f.take j).map Fld.node)) ∧ Hid (Fr (fun _ => False) wA wr)) (fun _ i _ => q - (intOf i).toNat)
  case atStart => exact ⟨0, A6, c6, Nat.zero_le _, rfl, by rw [HM.out]; rfl, hid (by have h := HO6.out; rw [List.nil_append, HM.out] at h; simpa using h), HF6⟩
  case round =>
    obtain ⟨j, A3, c3, hj, rfl, rfl, HO3, HF3⟩ := hrel
    obtain ⟨_, _, _, _, _, _, _, _, c8⟩ := blk9 (HBA.out.fr HF3.out (fun h => h))
    by_cases hlt : j < q
    · obtain ⟨ad, rfl, _, _, _, f0, f1, f2⟩ := ((HR.out.f.fr0 HFA.out).fr0 HF3.out) j (by rw [HQ.out]; exact hlt)
      have HTK := hid (List.take_succ_eq_append_getElem (show j < n.f.length by rw [HQ.out]; exact hlt))
      obtain ⟨x, hx⟩ : ∃ x, n.f[j]'(by rw [HQ.out]; exact hlt) = x := ⟨_, rfl⟩
      rw [hx] at HTK f0 f1 f2
      obtain ⟨key, node, opt⟩ := x
      simp only at f0 f1 f2
      have hj0 : (0 : Int) ≤ (j : Int) := by omega
      have hjm : (j : Int) < (q : Int) := by omega
      have hjc : (j : Int) < (cf : Int) := by omega
      clear hx
      go_wp2_with (first
        | (refine wpList_app1 rfl (.tmp 16) (.tmp 23) 28 rfl 8 Tryd.underlying28 infoInt wr node 3 (.slice A3 (m + j) c3) (n.l ++ (n.f.take j).map Fld.node) rfl HO3.out rfl (by simp [HM.out]; omega) (by have h1 := HF3.out.size; have h2 := HZA.out; omega) ?_; intro v6 w6 h6 g6; have HO6 := hid h6.out; have HF6 := hid (g6.out (fun _ => False) wA HF3.out (by rw [HZA.out]; omega)); obtain ⟨A6, c6, rfl, _⟩ := h6.out.form; clear h6 g6))
      go_roundw
      case rel => exact ⟨j + 1, A6, c6, by omega, by go_num, (by rw [show m + (j + 1) = n.l.length + (min j n.f.length + 1) by (have h1 := HM.out; have h2 := HQ.out; omega)]), hid (by
        have h := HO6.out
        rw [List.length_append, List.length_append, List.length_map, List.length_take, HM.out, HQ.out, Nat.min_eq_left (by omega), List.length_singleton, List.append_assoc] at h
        rw [HTK.out, List.map_append]
        exact h), HF6⟩
      case measure => simp [intOf]; omega
    · obtain rfl : j = q := by omega
      go_wp2_with fail
      go_ret
      refine ⟨A3, c3, rfl, ?_, HFA.out.trans HF3.out⟩
      have h := HO3.out
      rw [List.take_of_length_le (by rw [HQ.out]; omega)] at h
      exact App.Own.mono h (by omega)

set_option maxRecDepth 100000 in
set_option maxHeartbeats 8000000 in
theorem rssame_calls (xs ys : List Nod) (A B : Option Addr) (n m c d h h' : Nat) (w : World) (hn : xs.length = n) (hm : ys.length = m) (hc : n ≤ c) (hd : m ≤ d) (hl : n ≤ 1048576) (hx : RdN w h A xs) (hy : RdN w h' B ys) :
    Calls Tryd.prog 31 #[.agg #[.slice A n c], .agg #[.slice B m d]] w fun e w' => e = .returned (.bool (decide (xs = ys))) ∧ Fr (fun _ => False) w w' := by
  have HN := hid hn
  have HM := hid hm
  have HX := hid hx
  have HY := hid hy
  clear hn hm hx hy
  obtain ⟨w1, hw1⟩ : ∃ w1, (w.alloc (.cells #[.slice A n c] 42)).alloc (.cells #[.slice B m d] 42) = w1 := ⟨_, rfl⟩
  have HF1 := hid (show Fr (fun _ => False) w w1 by rw [← hw1]; exact ((Fr.refl _ w).alloc _).alloc _)
  have HBA := hid (show Blk w1 w.heap.size 42 #[.slice A n c] by rw [← hw1]; exact (Blk.new w _ _).alloc _)
  have HBB := hid (show Blk w1 (w.heap.size + 1) 42 #[.slice B m d] by rw [← hw1]; have := Blk.new (w.alloc (.cells #[.slice A n c] 42)) 42 #[.slice B m d]; rwa [World.size_alloc] at this)
  have HW1 := hid hw1
  clear hw1
  by_cases hnm : n = m
  · subst hnm
    go_enter Tryd.func31, Tryd.ntmps31
    go_wp2_with fail
    rw [HW1.out]
    go_loopw [5] (fun i wr => ∃ j : Nat, j ≤ n ∧ i = .int .i64 j ∧ Hid (∀ i, i < j → xs[i]? = ys[i]?) ∧ Hid (Fr (fun _ => False) w1 wr)) (fun i _ => n - (intOf i).toNat)
    case atStart => exact ⟨0, Nat.zero_le _, rfl, hid (fun i hi => by omega), hid (Fr.refl _ _)⟩
    case round =>
      obtain ⟨j, hj, rfl, HA, HF⟩ := hrel
      have a0 := (blk1 (HBA.out.fr HF.out (fun h => h))).1
      have b0 := (blk1 (HBB.out.fr HF.out (fun h => h))).1
      by_cases hlt : j < n
      · obtain ⟨ad, Av, cv, Al, cl, Af, cf, rfl, hab, hnine, hr⟩ := RdN.at_ ((HX.out.fr0 HF1.out).fr0 HF.out) j (by rw [HN.out]; exact hlt)
        obtain ⟨be, Bv, dv, Bl, dl, Bf, df, rfl, hbb, hnine', hr'⟩ := RdN.at_ ((HY.out.fr0 HF1.out).fr0 HF.out) j (by rw [HM.out]; exact hlt)
        have HGX := hid (List.getElem?_eq_getElem (show j < xs.length by rw [HN.out]; exact hlt))
        have HGY := hid (List.getElem?_eq_getElem (show j < ys.length by rw [HM.out]; exact hlt))
        obtain ⟨x, hx⟩ : ∃ x, xs[j]'(by rw [HN.out]; exact hlt) = x := ⟨_, rfl⟩
        obtain ⟨y, hy⟩ : ∃ y, ys[j]'(by rw [HM.out]; exact hlt) = y := ⟨_, rfl⟩
        rw [hx] at hnine hr HGX
        rw [hy] at hnine' hr' HGY
        have HRX := hid hr
        have HRY := hid hr'
        have HDX := hid (ndC_eq x Av cv Al cl Af cf)
        have HDY := hid (ndC_eq y Bv dv Bl dl Bf df)
        unfold Nine at hnine hnine'
        have hj0 : (0 : Int) ≤ (j : Int) := by omega
        have hjm : (j : Int) < (n : Int) := by omega
        have hjc : (j : Int) < (c : Int) := by omega
        have hjd : (j : Int) < (d : Int) := by omega
        obtain ⟨x6, hx6⟩ : ∃ q, x.v.l.length = q := ⟨_, rfl⟩
        obtain ⟨x7, hx7⟩ : ∃ q, x.l.length = q := ⟨_, rfl⟩
        obtain ⟨x8, hx8⟩ : ∃ q, x.f.length = q := ⟨_, rfl⟩
        obtain ⟨y6, hy6⟩ : ∃ q, y.v.l.length = q := ⟨_, rfl⟩
        obtain ⟨y7, hy7⟩ : ∃ q, y.l.length = q := ⟨_, rfl⟩
        obtain ⟨y8, hy8⟩ : ∃ q, y.f.length = q := ⟨_, rfl⟩
        rw [hx6, hx7, hx8] at hnine HDX
        rw [hy6, hy7, hy8] at hnine' HDY
        have HSS := hid (show ∀ w', Fr (fun _ => False) wr w' → w'.cell? ⟨w.heap.size, 0, none⟩ = some (.slice (some ad) n c) ∧ w'.cell? ⟨w.heap.size + 1, 0, none⟩ = some (.slice (some be) n d) ∧ w'.cell? (ad.add (j * 9)) = some (.int .i64 x.k) ∧ w'.cell? ⟨(ad.add (j * 9)).block, (ad.add (j * 9)).off + 1, none⟩ = some (.int .i64 x.lo) ∧ w'.cell? ⟨(ad.add (j * 9)).block, (ad.add (j * 9)).off + 2, none⟩ = some (.int .i64 x.hi) ∧ w'.cell? ⟨(ad.add (j * 9)).block, (ad.add (j * 9)).off + 3, none⟩ = some (.int .i64 x.v.k) ∧ w'.cell? ⟨(ad.add (j * 9)).block, (ad.add (j * 9)).off + 4, none⟩ = some (.int .u64 x.v.n) ∧ w'.cell? ⟨(ad.add (j * 9)).block, (ad.add (j * 9)).off + 5, none⟩ = some (.string x.v.s) ∧ w'.cell? ⟨(ad.add (j * 9)).block, (ad.add (j * 9)).off + 6, none⟩ = some (.slice Av x6 cv) ∧ w'.cell? ⟨(ad.add (j * 9)).block, (ad.add (j * 9)).off + 7, none⟩ = some (.slice Al x7 cl) ∧ w'.cell? ⟨(ad.add (j * 9)).block, (ad.add (j * 9)).off + 8, none⟩ = some (.slice Af x8 cf) ∧ w'.cell? (be.add (j * 9)) = some (.int .i64 y.k) ∧ w'.cell? ⟨(be.add (j * 9)).block, (be.add (j * 9)).off + 1, none⟩ = some (.int .i64 y.lo) ∧ w'.cell? ⟨(be.add (j * 9)).block, (be.add (j * 9)).off + 2, none⟩ = some (.int .i64 y.hi) ∧ w'.cell? ⟨(be.add (j * 9)).block, (be.add (j * 9)).off + 3, none⟩ = some (.int .i64 y.v.k) ∧ w'.cell? ⟨(be.add (j * 9)).block, (be.add (j * 9)).off + 4, none⟩ = some (.int .u64 y.v.n) ∧ w'.cell? ⟨(be.add (j * 9)).block, (be.add (j * 9)).off + 5, none⟩ = some (.string y.v.s) ∧ w'.cell? ⟨(be.add (j * 9)).block, (be.add (j * 9)).off + 6, none⟩ = some (.slice Bv y6 dv) ∧ w'.cell? ⟨(be.add (j * 9)).block, (be.add (j * 9)).off + 7, none⟩ = some (.slice Bl y7 dl) ∧ w'.cell? ⟨(be.add (j * 9)).block, (be.add (j * 9)).off + 8, none⟩ = some (.slice Bf y8 df) from fun w' hf => by
          obtain ⟨n0, n1, n2, n3, n4, n5, n6, n7, n8⟩ := hnine
          obtain ⟨p0, p1, p2, p3, p4, p5, p6, p7, p8⟩ := hnine'
          exact ⟨ItemB.cell_fr a0 hf, ItemB.cell_fr b0 hf, ItemB.cell_fr n0 hf, ItemB.cell_fr n1 hf, ItemB.cell_fr n2 hf, ItemB.cell_fr n3 hf, ItemB.cell_fr n4 hf, ItemB.cell_fr n5 hf, ItemB.cell_fr n6 hf, ItemB.cell_fr n7 hf, ItemB.cell_fr n8 hf, ItemB.cell_fr p0 hf, ItemB.cell_fr p1 hf, ItemB.cell_fr p2 hf, ItemB.cell_fr p3 hf, ItemB.cell_fr p4 hf, ItemB.cell_fr p5 hf, ItemB.cell_fr p6 hf, ItemB.cell_fr p7 hf, ItemB.cell_fr p8 hf⟩)
        clear hx hy hr hr' hx6 hx7 hx8 hy6 hy7 hy8 hnine hnine'
        go_wp2_with fail
        clear a0 b0
        go_region_held3 (fun w' => w'.cell? ⟨w.heap.size, 0, none⟩ = some (.slice (some ad) n c) ∧ w'.cell? ⟨w.heap.size + 1, 0, none⟩ = some (.slice (some be) n d) ∧ w'.cell? (ad.add (j * 9)) = some (.int .i64 x.k) ∧ w'.cell? ⟨(ad.add (j * 9)).block, (ad.add (j * 9)).off + 1, none⟩ = some (.int .i64 x.lo) ∧ w'.cell? ⟨(ad.add (j * 9)).block, (ad.add (j * 9)).off + 2, none⟩ = some (.int .i64 x.hi) ∧ w'.cell? ⟨(ad.add (j * 9)).block, (ad.add (j * 9)).off + 3, none⟩ = some (.int .i64 x.v.k) ∧ w'.cell? ⟨(ad.add (j * 9)).block, (ad.add (j * 9)).off + 4, none⟩ = some (.int .u64 x.v.n) ∧ w'.cell? ⟨(ad.add (j * 9)).block, (ad.add (j * 9)).off + 5, none⟩ = some (.string x.v.s) ∧ w'.cell? ⟨(ad.add (j * 9)).block, (ad.add (j * 9)).off + 6, none⟩ = some (.slice Av x6 cv) ∧ w'.cell? ⟨(ad.add (j * 9)).block, (ad.add (j * 9)).off + 7, none⟩ = some (.slice Al x7 cl) ∧ w'.cell? ⟨(ad.add (j * 9)).block, (ad.add (j * 9)).off + 8, none⟩ = some (.slice Af x8 cf) ∧ w'.cell? (be.add (j * 9)) = some (.int .i64 y.k) ∧ w'.cell? ⟨(be.add (j * 9)).block, (be.add (j * 9)).off + 1, none⟩ = some (.int .i64 y.lo) ∧ w'.cell? ⟨(be.add (j * 9)).block, (be.add (j * 9)).off + 2, none⟩ = some (.int .i64 y.hi) ∧ w'.cell? ⟨(be.add (j * 9)).block, (be.add (j * 9)).off + 3, none⟩ = some (.int .i64 y.v.k) ∧ w'.cell? ⟨(be.add (j * 9)).block, (be.add (j * 9)).off + 4, none⟩ = some (.int .u64 y.v.n) ∧ w'.cell? ⟨(be.add (j * 9)).block, (be.add (j * 9)).off + 5, none⟩ = some (.string y.v.s) ∧ w'.cell? ⟨(be.add (j * 9)).block, (be.add (j * 9)).off + 6, none⟩ = some (.slice Bv y6 dv) ∧ w'.cell? ⟨(be.add (j * 9)).block, (be.add (j * 9)).off + 7, none⟩ = some (.slice Bl y7 dl) ∧ w'.cell? ⟨(be.add (j * 9)).block, (be.add (j * 9)).off + 8, none⟩ = some (.slice Bf y8 df))
          (first | exact HSS.out _ (Fr.refl _ _).drew | exact HSS.out _ (Fr.refl _ _) | exact HSS.out _ HF2.out)
          ((go_at_call 78; rw [← HDX.out, ← HDY.out]; refine (rsame_calls x y h h' Av Al Af Bv Bl Bf cv cl cf dv dl df _ (by exact HRX.out.fr0 (Fr.refl _ _).drew) (by exact HRY.out.fr0 (Fr.refl _ _).drew)).mono ?_; rintro e w2 ⟨rfl, hf⟩; have HF2 := hid (((Fr.refl (fun _ => False) wr).drew).then_ hf (fun _ _ h => h))))
        obtain ⟨b, hb⟩ : ∃ b, decide (x = y) = b := ⟨_, rfl⟩
        have HB := hid hb
        rw [hb]
        clear hf hb
        cases b with
        | true =>
          have HE := hid (of_decide_eq_true HB.out)
          go_wp2_with fail
          go_roundw
          case rel => exact ⟨j + 1, by omega, by go_num, hid (fun i hi => by
            by_cases h : i < j
            · exact HA.out i h
            · obtain rfl : i = j := by omega
              rw [HGX.out, HGY.out, HE.out]), hid (HF.out.then_ HF2.out (fun _ _ h => h))⟩
          case measure => simp [intOf]; omega
        | false =>
          have HE := hid (of_decide_eq_false HB.out)
          go_wp2_with fail
          go_ret
          refine ⟨ret_bool ?_, HF1.out.trans (HF.out.then_ HF2.out (fun _ _ h => h))⟩
          rw [decide_eq_false]
          intro h
          have h2 := HGX.out
          rw [h, HGY.out] at h2
          exact HE.out (Option.some.inj h2).symm
      · obtain rfl : j = n := by omega
        go_wp2_with fail
        go_ret
        refine ⟨ret_bool ?_, HF1.out.trans HF.out⟩
        rw [decide_eq_true]
        apply List.ext_getElem?
        intro i
        by_cases hi : i < j
        · exact HA.out i hi
        · rw [List.getElem?_eq_none (by rw [HN.out]; omega), List.getElem?_eq_none (by rw [HM.out]; omega)]
  · have hb : ((n : Int) != (m : Int)) = true := bne_iff_ne.2 (by omega)
    have HNM := hid hnm
    clear hnm
    go_enter Tryd.func31, Tryd.ntmps31
    go_wp2_with fail
    rw [HW1.out]
    go_ret
    refine ⟨ret_bool ?_, HF1.out⟩
    rw [decide_eq_false]
    intro h
    exact HNM.out (by rw [← HN.out, ← HM.out, h])
end Go.Proofs.YtkmgiodhaaajjaaDoor.SchL
