/- Layer schema: are two nodes the same? -/
import Derived.Test.YtkmgiodhaaajjaaDoorSchE
set_option linter.unusedVariables false
set_option linter.unusedSimpArgs false
namespace Go.Proofs.YtkmgiodhaaajjaaDoor.SchF
open Go.IntWalk Go.RowKit Go.Proofs.YtkmgiodhaaajjaaDoor.Mem Go.Proofs.YtkmgiodhaaajjaaDoor.App Go.Proofs.YtkmgiodhaaajjaaDoor.ItemP Go.Proofs.YtkmgiodhaaajjaaDoor.ItemM Go.Proofs.YtkmgiodhaaajjaaDoor.ItemT Go.Proofs.YtkmgiodhaaajjaaDoor.ItemB Go.Proofs.YtkmgiodhaaajjaaDoor.SchP Go.Proofs.YtkmgiodhaaajjaaDoor.SchM Go.Proofs.YtkmgiodhaaajjaaDoor.SchA Go.Proofs.YtkmgiodhaaajjaaDoor.SchC

theorem it_len (x : It) : x.l.length ≤ x.size := by
  obtain ⟨k, n, s, l⟩ := x
  have := sizes_length l
  simp only [It.l, It.size]; omega
theorem beq_both (a b : Int) : ((a == b) = true ∧ a = b) ∨ ((a == b) = false ∧ ¬ a = b) := by
  by_cases h : a = b
  · exact .inl ⟨beq_iff_eq.2 h, h⟩
  · exact .inr ⟨beq_eq_false_iff_ne.2 h, h⟩
theorem nod_dec (a b : Nod) : decide (a = b) = (decide (a.k = b.k) && decide (a.lo = b.lo) && decide (a.hi = b.hi) && decide (a.v = b.v) && decide (a.l = b.l) && decide (a.f = b.f)) := by
  obtain ⟨k, lo, hi, v, l, f⟩ := a
  obtain ⟨k', lo', hi', v', l', f'⟩ := b
  rw [Bool.eq_iff_iff]
  simp only [Nod.mk.injEq, Bool.and_eq_true, decide_eq_true_eq]
  constructor
  · rintro ⟨h1, h2, h3, h4, h5, h6⟩; exact ⟨⟨⟨⟨⟨h1, h2⟩, h3⟩, h4⟩, h5⟩, h6⟩
  · rintro ⟨⟨⟨⟨⟨h1, h2⟩, h3⟩, h4⟩, h5⟩, h6⟩; exact ⟨h1, h2, h3, h4, h5, h6⟩

set_option maxRecDepth 100000 in
set_option maxHeartbeats 8000000 in
theorem nsame_calls (a b : Nod) (h h' : Nat) (Av Al Af Bv Bl Bf : Option Addr) (cv cl cf dv dl df : Nat) (w : World) (Ha : NdR w h a Av cv Al cl Af cf) (Hb : NdR w h' b Bv dv Bl dl Bf df) :
    Calls Tryd.prog 77 #[.agg (ndC a Av cv Al cl Af cf), .agg (ndC b Bv dv Bl dl Bf df)] w fun e w' => e = .returned (.bool (decide (a = b))) ∧ Fr (fun _ => False) w w' := by
  have HA := hid Ha
  have HB := hid Hb
  rw [nod_dec, ndC_eq, ndC_eq]
  obtain ⟨k, lo, hi, v, l, f⟩ := a
  obtain ⟨k', lo', hi', v', l', f'⟩ := b
  simp only
  have alc := Ha.lc
  have afc := Ha.fc
  have blc := Hb.lc
  have bfc := Hb.fc
  have alm := Ha.lm
  have afm := Ha.fm
  simp only at alc afc blc bfc alm afm
  obtain ⟨x3, hx3⟩ : ∃ x, v.k = x := ⟨_, rfl⟩
  obtain ⟨x4, hx4⟩ : ∃ x, v.n = x := ⟨_, rfl⟩
  obtain ⟨x5, hx5⟩ : ∃ x, v.s = x := ⟨_, rfl⟩
  obtain ⟨x6, hx6⟩ : ∃ x, v.l.length = x := ⟨_, rfl⟩
  obtain ⟨x7, hx7⟩ : ∃ x, l.length = x := ⟨_, rfl⟩
  obtain ⟨x8, hx8⟩ : ∃ x, f.length = x := ⟨_, rfl⟩
  obtain ⟨y3, hy3⟩ : ∃ x, v'.k = x := ⟨_, rfl⟩
  obtain ⟨y4, hy4⟩ : ∃ x, v'.n = x := ⟨_, rfl⟩
  obtain ⟨y5, hy5⟩ : ∃ x, v'.s = x := ⟨_, rfl⟩
  obtain ⟨y6, hy6⟩ : ∃ x, v'.l.length = x := ⟨_, rfl⟩
  obtain ⟨y7, hy7⟩ : ∃ x, l'.length = x := ⟨_, rfl⟩
  obtain ⟨y8, hy8⟩ : ∃ x, f'.length = x := ⟨_, rfl⟩
  have HVA := hid Ha.v
  have HVB := hid Hb.v
  simp only at HVA HVB
  rw [hx3, hx4, hx5, hx6] at HVA
  rw [hy3, hy4, hy5, hy6] at HVB
  rw [hx7] at alc alm
  rw [hx8] at afc afm
  rw [hy7] at blc
  rw [hy8] at bfc
  rw [hx3, hx4, hx5, hx6, hx7, hx8, hy3, hy4, hy5, hy6, hy7, hy8]
  have HX7 := hid hx7
  have HX8 := hid hx8
  have HY7 := hid hy7
  have HY8 := hid hy8
  clear hx3 hx4 hx5 hx6 hx7 hx8 hy3 hy4 hy5 hy6 hy7 hy8 Ha Hb
  obtain ⟨w1, hw1⟩ : ∃ w1, (w.alloc (.cells #[.int .i64 k, .int .i64 lo, .int .i64 hi, .int .i64 x3, .int .u64 x4, .string x5, .slice Av x6 cv, .slice Al x7 cl, .slice Af x8 cf] 54)).alloc (.cells #[.int .i64 k', .int .i64 lo', .int .i64 hi', .int .i64 y3, .int .u64 y4, .string y5, .slice Bv y6 dv, .slice Bl y7 dl, .slice Bf y8 df] 54) = w1 := ⟨_, rfl⟩
  have HF1 := hid (show Fr (fun _ => False) w w1 by rw [← hw1]; exact ((Fr.refl _ w).alloc _).alloc _)
  have HB1 := hid (show Blk w1 w.heap.size 54 #[.int .i64 k, .int .i64 lo, .int .i64 hi, .int .i64 x3, .int .u64 x4, .string x5, .slice Av x6 cv, .slice Al x7 cl, .slice Af x8 cf] by rw [← hw1]; exact (Blk.new w _ _).alloc _)
  have HB2 := hid (show Blk w1 (w.heap.size + 1) 54 #[.int .i64 k', .int .i64 lo', .int .i64 hi', .int .i64 y3, .int .u64 y4, .string y5, .slice Bv y6 dv, .slice Bl y7 dl, .slice Bf y8 df] by
    rw [← hw1]
    have := Blk.new (w.alloc (.cells #[.int .i64 k, .int .i64 lo, .int .i64 hi, .int .i64 x3, .int .u64 x4, .string x5, .slice Av x6 cv, .slice Al x7 cl, .slice Af x8 cf] 54)) 54 #[.int .i64 k', .int .i64 lo', .int .i64 hi', .int .i64 y3, .int .u64 y4, .string y5, .slice Bv y6 dv, .slice Bl y7 dl, .slice Bf y8 df]
    rwa [World.size_alloc] at this)
  have HW1 := hid hw1
  clear hw1
  obtain ⟨c0, c1, c2, c3, c4, c5, c6, c7, c8⟩ := blk9 HB1.out
  obtain ⟨d0, d1, d2, d3, d4, d5, d6, d7, d8⟩ := blk9 HB2.out
  have hor : ((k == k') = false ∧ ¬ k = k') ∨ ((k == k') = true ∧ k = k' ∧ (lo == lo') = false ∧ ¬ lo = lo') ∨ ((k == k') = true ∧ k = k' ∧ (lo == lo') = true ∧ lo = lo' ∧ (hi == hi') = false ∧ ¬ hi = hi') ∨ ((k == k') = true ∧ k = k' ∧ (lo == lo') = true ∧ lo = lo' ∧ (hi == hi') = true ∧ hi = hi') := by
    rcases beq_both k k' with ⟨h1, h2⟩ | ⟨h1, h2⟩
    · rcases beq_both lo lo' with ⟨h3, h4⟩ | ⟨h3, h4⟩
      · rcases beq_both hi hi' with ⟨h5, h6⟩ | ⟨h5, h6⟩
        · exact .inr (.inr (.inr ⟨h1, h2, h3, h4, h5, h6⟩))
        · exact .inr (.inr (.inl ⟨h1, h2, h3, h4, h5, h6⟩))
      · exact .inr (.inl ⟨h1, h2, h3, h4⟩)
    · exact .inl ⟨h1, h2⟩
  rcases hor with ⟨g1, n1⟩ | ⟨g1, n1, g2, n2⟩ | ⟨g1, n1, g2, n2, g3, n3⟩ | ⟨g1, n1, g2, n2, g3, n3⟩
  · have N1 := hid n1
    clear n1
    go_enter Tryd.func77, Tryd.ntmps77
    go_wp2_with fail
    rw [HW1.out]
    go_wp2_with fail
    go_ret
    exact ⟨ret_bool (by rw [decide_eq_false N1.out]; rfl), HF1.out⟩
  · have N2 := hid n2
    clear n1 n2
    go_enter Tryd.func77, Tryd.ntmps77
    go_wp2_with fail
    rw [HW1.out]
    go_wp2_with fail
    go_ret
    exact ⟨ret_bool (by rw [decide_eq_false N2.out]; simp), HF1.out⟩
  · have N3 := hid n3
    clear n1 n2 n3
    go_enter Tryd.func77, Tryd.ntmps77
    go_wp2_with fail
    rw [HW1.out]
    go_wp2_with fail
    go_ret
    exact ⟨ret_bool (by rw [decide_eq_false N3.out]; simp), HF1.out⟩
  · have N1 := hid n1
    have N2 := hid n2
    have N3 := hid n3
    clear n1 n2 n3
    have HT := hid (show ∀ p q r : Bool, (decide (k = k') && decide (lo = lo') && decide (hi = hi') && p && q && r) = (p && q && r) from fun p q r => by rw [decide_eq_true N1.out, decide_eq_true N2.out, decide_eq_true N3.out]; rfl)
    obtain ⟨bv, hbv⟩ : ∃ b, decide (v = v') = b := ⟨_, rfl⟩
    obtain ⟨bl, hbl⟩ : ∃ b, decide (l = l') = b := ⟨_, rfl⟩
    obtain ⟨bf, hbf⟩ : ∃ b, decide (f = f') = b := ⟨_, rfl⟩
    have HBV := hid hbv
    have HBL := hid hbl
    have HBF := hid hbf
    clear hbv hbl hbf
    go_enter Tryd.func77, Tryd.ntmps77
    go_wp2_with fail
    rw [HW1.out]
    go_wp2_with fail
    refine (same_calls 2000000 v v' (by have := HA.out.vm; simp only at this; omega) (Nat.le_refl _) 0 h 0 h' _ _ w1 (Nat.le_trans HA.out.hh HF1.out.size) (Nat.le_trans HB.out.hh HF1.out.size) (HVA.out.fr0 HF1.out HA.out.hh) (HVB.out.fr0 HF1.out HB.out.hh)).mono ?_
    rintro e w2 ⟨rfl, hf⟩
    rw [HBV.out]
    have HF2 := hid hf
    clear hf c0 c1 c2 c3 c4 c5 c6 c7 c8 d0 d1 d2 d3 d4 d5 d6 d7 d8
    obtain ⟨_, _, _, _, _, _, _, c7, c8⟩ := blk9 (HB1.out.fr HF2.out (fun h => h))
    obtain ⟨_, _, _, _, _, _, _, d7, d8⟩ := blk9 (HB2.out.fr HF2.out (fun h => h))
    cases bv with
    | false =>
      go_wp2_with fail
      go_ret
      exact ⟨ret_bool (by rw [HT.out, HBV.out]; rfl), HF1.out.trans HF2.out⟩
    | true =>
      go_wp2_with fail
      refine (eqints_calls Al Bl x7 y7 cl dl l l' w2 HX7.out HY7.out alc blc (by omega) ((HA.out.l.fr0 HF1.out).fr0 HF2.out) ((HB.out.l.fr0 HF1.out).fr0 HF2.out)).mono ?_
      rintro e w3 ⟨rfl, hf⟩
      rw [HBL.out]
      have HF3 := hid (HF2.out.then_ hf (fun _ _ h => h))
      clear hf c7 c8 d7 d8
      obtain ⟨_, _, _, _, _, _, _, c7, c8⟩ := blk9 (HB1.out.fr HF3.out (fun h => h))
      obtain ⟨_, _, _, _, _, _, _, d7, d8⟩ := blk9 (HB2.out.fr HF3.out (fun h => h))
      cases bl with
      | false =>
        go_wp2_with fail
        go_ret
        exact ⟨ret_bool (by rw [HT.out, HBV.out, HBL.out]; rfl), HF1.out.trans HF3.out⟩
      | true =>
        go_wp2_with fail
        refine (eqfields_calls Af Bf x8 y8 cf df f f' w3 HX8.out HY8.out afc bfc (by omega) ((HA.out.f.fr0 HF1.out).fr0 HF3.out) ((HB.out.f.fr0 HF1.out).fr0 HF3.out)).mono ?_
        rintro e w4 ⟨rfl, hf⟩
        rw [HBF.out]
        have HF4 := hid (HF3.out.then_ hf (fun _ _ h => h))
        clear hf c7 c8 d7 d8
        go_wp2_with fail
        go_ret
        exact ⟨ret_bool (by rw [HT.out, HBV.out, HBL.out, HBF.out]; rfl), HF1.out.trans HF4.out⟩
end Go.Proofs.YtkmgiodhaaajjaaDoor.SchF
