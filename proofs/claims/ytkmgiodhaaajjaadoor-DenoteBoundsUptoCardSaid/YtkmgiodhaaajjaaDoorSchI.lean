/- Layer schema: what is wrong with a node; whether a schema is well-formed. -/
import Derived.Test.YtkmgiodhaaajjaaDoorSchE
import Derived.Test.YtkmgiodhaaajjaaDoorSchG
import Derived.Test.YtkmgiodhaaajjaaDoorSchH
set_option linter.unusedVariables false
set_option linter.unusedSimpArgs false
namespace Go.Proofs.YtkmgiodhaaajjaaDoor.SchI
open Go.IntWalk Go.RowKit Go.Proofs.YtkmgiodhaaajjaaDoor.Mem Go.Proofs.YtkmgiodhaaajjaaDoor.App Go.Proofs.YtkmgiodhaaajjaaDoor.FloatB Go.Proofs.YtkmgiodhaaajjaaDoor.ItemP Go.Proofs.YtkmgiodhaaajjaaDoor.ItemM Go.Proofs.YtkmgiodhaaajjaaDoor.SchP Go.Proofs.YtkmgiodhaaajjaaDoor.SchM Go.Proofs.YtkmgiodhaaajjaaDoor.SchA Go.Proofs.YtkmgiodhaaajjaaDoor.SchB Go.Proofs.YtkmgiodhaaajjaaDoor.SchC Go.Proofs.YtkmgiodhaaajjaaDoor.SchD Go.Proofs.YtkmgiodhaaajjaaDoor.SchE Go.Proofs.YtkmgiodhaaajjaaDoor.SchF Go.Proofs.YtkmgiodhaaajjaaDoor.SchG Go.Proofs.YtkmgiodhaaajjaaDoor.SchH

theorem blk_1of3 (w : World) (a : Array Value) (t : TypeId) (o o' : Obj) : Blk (((w.alloc (.cells a t)).alloc o).alloc o') w.heap.size t a := ((Blk.new w t a).alloc _).alloc _

set_option maxRecDepth 100000 in
set_option maxHeartbeats 8000000 in
theorem swrong_calls (ns : List Nod) (i : Nat) (A : Option Addr) (M c h : Nat) (w : World) (hM : ns.length = M) (hc : M ≤ c) (hMm : M ≤ 1048576) (hi : i < M) (hD : Dbl w) (H : RdN w h A ns) :
    Calls Tryd.prog 74 #[.agg #[.slice A M c], .int .i64 i] w fun e w' => e = .returned (.int .i64 ((ns[i]'(by rw [hM]; exact hi)).wrong i M)) ∧ Fr (fun _ => False) w w' := by
  obtain ⟨ad, Av, cv, Al, cl, Af, cf, rfl, hab, hnine, hr⟩ := RdN.at_ H i (by rw [hM]; exact hi)
  obtain ⟨n, hn⟩ : ∃ n, ns[i]'(by rw [hM]; exact hi) = n := ⟨_, rfl⟩
  rw [hn] at hnine hr ⊢
  have HR := hid hr
  have HDD := hid hD
  obtain ⟨n0, n1, n2, n3, n4, n5, n6, n7, n8⟩ := hnine
  obtain ⟨r, hrr⟩ : ∃ r, n.wrong i M = r := ⟨_, rfl⟩
  have HRR := hid hrr
  rw [hrr]
  clear hrr hr hD H hn hM hab
  have HND := hid (ndC_eq n Av cv Al cl Af cf)
  have hfl := HR.out.fc
  have hfm := HR.out.fm
  have hll := HR.out.lc
  have hlm := HR.out.lm
  obtain ⟨k, lo, hi', v, l, f⟩ := n
  simp only at n0 n1 n2 n3 n4 n5 n6 n7 n8 HND hfl hfm hll hlm
  obtain ⟨x3, hx3⟩ : ∃ x, v.k = x := ⟨_, rfl⟩
  obtain ⟨x4, hx4⟩ : ∃ x, v.n = x := ⟨_, rfl⟩
  obtain ⟨x5, hx5⟩ : ∃ x, v.s = x := ⟨_, rfl⟩
  obtain ⟨x6, hx6⟩ : ∃ x, v.l.length = x := ⟨_, rfl⟩
  obtain ⟨x7, hx7⟩ : ∃ x, l.length = x := ⟨_, rfl⟩
  obtain ⟨x8, hx8⟩ : ∃ x, f.length = x := ⟨_, rfl⟩
  rw [hx3] at n3 HND
  rw [hx4] at n4 HND
  rw [hx5] at n5 HND
  rw [hx6] at n6 HND
  rw [hx7] at n7 HND hll hlm
  rw [hx8] at n8 HND hfl hfm
  have HX8 := hid hx8
  have m0 := fun o o' => cell_a (cell_a n0 o) o'
  have m1 := fun o o' => cell_a (cell_a n1 o) o'
  have m2 := fun o o' => cell_a (cell_a n2 o) o'
  have m3 := fun o o' => cell_a (cell_a n3 o) o'
  have m4 := fun o o' => cell_a (cell_a n4 o) o'
  have m5 := fun o o' => cell_a (cell_a n5 o) o'
  have m6 := fun o o' => cell_a (cell_a n6 o) o'
  have m7 := fun o o' => cell_a (cell_a n7 o) o'
  have m8 := fun o o' => cell_a (cell_a n8 o) o'
  clear n0 n1 n2 n3 n4 n5 n6 n7 n8
  clear hx3 hx4 hx5 hx6 hx7 hx8
  have hi0 : (0 : Int) ≤ (i : Int) := by omega
  have him : (i : Int) < (M : Int) := by omega
  have hic : (i : Int) < (c : Int) := by omega
  obtain ⟨w1, hw1⟩ : ∃ w1, ((w.alloc (.cells #[.slice (some ad) M c] 42)).alloc (.cells #[.int .i64 i] 3)).alloc (.cells #[.int .i64 k, .int .i64 lo, .int .i64 hi', .int .i64 x3, .int .u64 x4, .string x5, .slice Av x6 cv, .slice Al x7 cl, .slice Af x8 cf] 54) = w1 := ⟨_, rfl⟩
  have HF1 := hid (show Fr (fun _ => False) w w1 by rw [← hw1]; exact fr_3 _ _ _ _)
  have HBS := hid (show Blk w1 w.heap.size 42 #[.slice (some ad) M c] by rw [← hw1]; exact blk_1of3 _ _ _ _ _)
  have HBI := hid (show Blk w1 (w.heap.size + 1) 3 #[.int .i64 i] by rw [← hw1]; exact blk_2 _ _ _ _ _)
  have HBN := hid (show Blk w1 (w.heap.size + 1 + 1) 54 #[.int .i64 k, .int .i64 lo, .int .i64 hi', .int .i64 x3, .int .u64 x4, .string x5, .slice Av x6 cv, .slice Al x7 cl, .slice Af x8 cf] by rw [← hw1]; exact blk_3 _ _ _ _ _)
  have HW1 := hid hw1
  clear hw1
  have hkk : (k < 0 ∨ (¬ k < 0 ∧ 10 < k)) ∨ (¬ k < 0 ∧ ¬ 10 < k) := by omega
  rcases hkk with hkk | ⟨hk0, hk10⟩
  · have HE := hid (show r = 18 by rw [← HRR.out, Nod.wrong, if_pos (show k < 0 ∨ 10 < k by omega)])
    rcases hkk with hk0 | ⟨hk0, hk10⟩
    all_goals
      go_enter Tryd.func74, Tryd.ntmps74
      go_wp2_with fail
      rw [HW1.out]
      go_ret
      exact ⟨by rw [HE.out]; rfl, HF1.out⟩
  have HKK := hid (show ¬ (k < 0 ∨ 10 < k) by omega)
  go_enter Tryd.func74, Tryd.ntmps74
  go_wp2_with fail
  rw [HW1.out, ← HND.out]
  clear m0 m1 m2 m3 m4 m5 m6 m7 m8
  refine (bare_calls ⟨k, lo, hi', v, l, f⟩ h Av Al Af cv cl cf w1 (by exact HDD.out.fr0 HF1.out) (by exact HR.out.fr0 HF1.out)).mono ?_
  rintro e w2 ⟨Bv, dv, Bl, dl, Bf, df, rfl, hb, hf⟩
  have HB := hid hb
  have HF2 := hid hf
  obtain ⟨ok, hok⟩ : ∃ b, (⟨k, lo, hi', v, l, f⟩ : Nod).ok = b := ⟨_, rfl⟩
  have HOK := hid hok
  rw [hok]
  obtain ⟨m, hm⟩ : ∃ m, (⟨k, lo, hi', v, l, f⟩ : Nod).bare = m := ⟨_, rfl⟩
  have HM := hid hm
  rw [hm] at HB ⊢
  have HNM := hid (ndC_eq m Bv dv Bl dl Bf df)
  rw [ndC_eq]
  clear hb hf hok hm
  obtain ⟨mk, mlo, mhi, mv, ml, mf⟩ := m
  simp only at HNM ⊢
  obtain ⟨y3, hy3⟩ : ∃ x, mv.k = x := ⟨_, rfl⟩
  obtain ⟨y4, hy4⟩ : ∃ x, mv.n = x := ⟨_, rfl⟩
  obtain ⟨y5, hy5⟩ : ∃ x, mv.s = x := ⟨_, rfl⟩
  obtain ⟨y6, hy6⟩ : ∃ x, mv.l.length = x := ⟨_, rfl⟩
  obtain ⟨y7, hy7⟩ : ∃ x, ml.length = x := ⟨_, rfl⟩
  obtain ⟨y8, hy8⟩ : ∃ x, mf.length = x := ⟨_, rfl⟩
  rw [hy3, hy4, hy5, hy6, hy7, hy8] at HNM ⊢
  clear hy3 hy4 hy5 hy6 hy7 hy8
  obtain ⟨w3, hw3⟩ : ∃ w3, w2.alloc (.cells #[.int .i64 mk, .int .i64 mlo, .int .i64 mhi, .int .i64 y3, .int .u64 y4, .string y5, .slice Bv y6 dv, .slice Bl y7 dl, .slice Bf y8 df] 54) = w3 := ⟨_, rfl⟩
  have HF3 := hid (show Fr (fun _ => False) w1 w3 by rw [← hw3]; exact HF2.out.alloc _)
  have HF23 := hid (show Fr (fun _ => False) w2 w3 by rw [← hw3]; exact (Fr.refl _ _).alloc _)
  have HBM := hid (show Blk w3 w2.heap.size 54 #[.int .i64 mk, .int .i64 mlo, .int .i64 mhi, .int .i64 y3, .int .u64 y4, .string y5, .slice Bv y6 dv, .slice Bl y7 dl, .slice Bf y8 df] by rw [← hw3]; exact Blk.new _ _ _)
  have HW3 := hid hw3
  clear hw3
  have HC3 := hid (show ∀ w', Fr (fun _ => False) w1 w' → w'.cell? ⟨w.heap.size, 0, none⟩ = some (.slice (some ad) M c) ∧ w'.cell? ⟨w.heap.size + 1, 0, none⟩ = some (.int .i64 i) ∧ Blk w' (w.heap.size + 1 + 1) 54 #[.int .i64 k, .int .i64 lo, .int .i64 hi', .int .i64 x3, .int .u64 x4, .string x5, .slice Av x6 cv, .slice Al x7 cl, .slice Af x8 cf] from fun w' hf => ⟨(blk1 (HBS.out.fr hf (fun h => h))).1, (blk1 (HBI.out.fr hf (fun h => h))).1, HBN.out.fr hf (fun h => h)⟩)
  obtain ⟨c0, c1, c2, c3, c4, c5, c6, c7, c8⟩ := blk9 (HC3.out _ HF2.out).2.2
  have d0 := fun o => cell_a c0 o
  have d1 := fun o => cell_a c1 o
  have d2 := fun o => cell_a c2 o
  have d3 := fun o => cell_a c3 o
  have d4 := fun o => cell_a c4 o
  have d5 := fun o => cell_a c5 o
  have d6 := fun o => cell_a c6 o
  have d7 := fun o => cell_a c7 o
  have d8 := fun o => cell_a c8 o
  clear c0 c1 c2 c3 c4 c5 c6 c7 c8
  have HFB := hid (show (⟨k, lo, hi', v, l, f⟩ : Nod).formB = (ok && decide ((⟨mk, mlo, mhi, mv, ml, mf⟩ : Nod) = ⟨k, lo, hi', v, l, f⟩)) by rw [Nod.formB, HOK.out, HM.out])
  cases ok with
  | false =>
    have HE := hid (show r = 11 by rw [← HRR.out, Nod.wrong, if_neg HKK.out, if_pos (by rw [HFB.out]; rfl)])
    go_wp2_with fail
    rw [HW3.out]
    go_ret
    exact ⟨by rw [HE.out]; rfl, HF1.out.trans HF3.out⟩
  | true =>
  go_wp2_with fail
  rw [HW3.out, ← HND.out, ← HNM.out]
  refine (nsame_calls ⟨mk, mlo, mhi, mv, ml, mf⟩ ⟨k, lo, hi', v, l, f⟩ h h Bv Bl Bf Av Al Af dv dl df cv cl cf w3 (by exact HB.out.fr0 HF23.out) (by exact (HR.out.fr0 HF1.out).fr0 HF3.out)).mono ?_
  rintro e w4 ⟨rfl, hf⟩
  have HF4 := hid (HF3.out.then_ hf (fun _ _ h => h))
  obtain ⟨fb, hfb⟩ : ∃ b, decide ((⟨mk, mlo, mhi, mv, ml, mf⟩ : Nod) = ⟨k, lo, hi', v, l, f⟩) = b := ⟨_, rfl⟩
  rw [hfb] at HFB ⊢
  clear hf hfb d0 d1 d2 d3 d4 d5 d6 d7 d8
  cases fb with
  | false =>
    have HE := hid (show r = 11 by rw [← HRR.out, Nod.wrong, if_neg HKK.out, if_pos (by rw [HFB.out]; rfl)])
    go_wp2_with fail
    go_ret
    exact ⟨by rw [HE.out]; rfl, HF1.out.trans HF4.out⟩
  | true =>
  have HFT := hid (show ¬ (⟨k, lo, hi', v, l, f⟩ : Nod).formB = false by rw [HFB.out]; simp)
  obtain ⟨c0, c1, c2, c3, c4, c5, c6, c7, c8⟩ := blk9 (HC3.out _ HF4.out).2.2
  go_wp2_with fail
  rw [← HND.out]
  refine (bounds_calls ⟨k, lo, hi', v, l, f⟩ Av cv Al cl Af cf w4).mono ?_
  rintro e w5 ⟨rfl, hf⟩
  have HF5 := hid (HF4.out.then_ hf (fun _ _ h => h))
  obtain ⟨bb, hbb⟩ : ∃ b, (⟨k, lo, hi', v, l, f⟩ : Nod).bounds = b := ⟨_, rfl⟩
  have HBB := hid hbb
  rw [hbb]
  clear hf hbb c0 c1 c2 c3 c4 c5 c6 c7 c8
  cases bb with
  | false =>
    have HE := hid (show r = 15 by rw [← HRR.out, Nod.wrong, if_neg HKK.out, if_neg HFT.out, if_pos HBB.out])
    go_wp2_with fail
    go_ret
    exact ⟨by rw [HE.out]; rfl, HF1.out.trans HF5.out⟩
  | true =>
  have HBT := hid (show ¬ (⟨k, lo, hi', v, l, f⟩ : Nod).bounds = false by rw [HBB.out]; simp)
  obtain ⟨_, _, _, _, _, _, _, _, c8⟩ := blk9 (HC3.out _ HF5.out).2.2
  go_wp2_with fail
  refine (keys_calls Af x8 cf f w5 HX8.out hfl hfm (by exact (HR.out.f.fr0 HF1.out).fr0 HF5.out)).mono ?_
  rintro e w6 ⟨rfl, hf⟩
  have HF6 := hid (HF5.out.then_ hf (fun _ _ h => h))
  obtain ⟨ke, hke⟩ : ∃ b, keysE [] f = b := ⟨_, rfl⟩
  have HKE := hid hke
  rw [hke]
  clear hf hke c8
  by_cases hk : ke = 0
  · subst hk
    obtain ⟨cs, ci, hcn⟩ := HC3.out _ HF6.out
    obtain ⟨c0, c1, c2, c3, c4, c5, c6, c7, c8⟩ := blk9 hcn
    clear hcn cs ci
    go_wp2_with fail
    rw [← HND.out]
    refine (named_calls ⟨k, lo, hi', v, l, f⟩ h Av cv Al cl Af cf w6 (by exact (HR.out.fr0 HF1.out).fr0 HF6.out)).mono ?_
    rintro e w7 ⟨A7, c7', rfl, ho, hf⟩
    have HF7 := hid (HF6.out.then_ hf (fun _ _ h => h))
    have HO := hid ho
    obtain ⟨nm, hnm⟩ : ∃ x, (⟨k, lo, hi', v, l, f⟩ : Nod).named = x := ⟨_, rfl⟩
    have HNM2 := hid hnm
    rw [hnm] at HO ⊢
    obtain ⟨q, hq⟩ : ∃ q, nm.length = q := ⟨_, rfl⟩
    have HQ := hid hq
    rw [hq] at HO ⊢
    have hq2 : q ≤ 2097152 := by
      have h1 := HQ.out
      have h2 := HNM2.out
      have h3 := HR.out.lm
      have h4 := HR.out.fm
      rw [← h1, ← h2]
      simp only [Nod.named, List.length_append, List.length_map] at h3 h4 ⊢
      omega
    have hqc : q ≤ c7' := by
      obtain ⟨A', c', e1, e2, _⟩ := HO.out.form
      injection e1 with _ e1 e3
      omega
    clear ho hf hnm hq c0 c1 c2 c3 c4 c5 c6 c7 c8
    go_wp2_with fail
    refine (contains_calls A7 q c7' nm i M c (w.heap.size + 1) w.heap.size (some ad) w7 HQ.out hqc (by omega) HO.out.rd.1 (HC3.out _ HF7.out).2.1 (HC3.out _ HF7.out).1).mono ?_
    rintro e w8 ⟨rfl, rfl⟩
    obtain ⟨bn, hbn⟩ : ∃ b, nm.any (badN i M) = b := ⟨_, rfl⟩
    have HBN2 := hid hbn
    rw [hbn]
    clear hbn
    have HE := hid (show r = if bn = true then 13 else 0 by rw [← HRR.out, Nod.wrong, if_neg HKK.out, if_neg HFT.out, if_neg HBT.out, if_neg (by simp only; rw [HKE.out]; simp), HNM2.out, HBN2.out])
    cases bn with
    | true =>
      go_wp2_with fail
      go_ret
      exact ⟨by rw [HE.out]; rfl, HF1.out.trans HF7.out⟩
    | false =>
      go_wp2_with fail
      go_ret
      exact ⟨by rw [HE.out]; rfl, HF1.out.trans HF7.out⟩
  · have hkb : (ke != 0) = true := bne_iff_ne.2 hk
    have HE := hid (show r = ke by rw [← HRR.out, Nod.wrong, if_neg HKK.out, if_neg HFT.out, if_neg HBT.out, if_pos (by simp only; rw [HKE.out]; exact hk)]; exact HKE.out)
    clear hk
    go_wp2_with fail
    go_ret
    exact ⟨by rw [HE.out]; rfl, HF1.out.trans HF6.out⟩
end Go.Proofs.YtkmgiodhaaajjaaDoor.SchI
