/- Layer schema: the document's word: what is wrong with a node; whether a schema is well-formed. -/
import Derived.Test.YtkmgiodhaaajjaaDoorSchL
import Derived.Test.YtkmgiodhaaajjaaDoorSchN
import Derived.Test.YtkmgiodhaaajjaaDoorUtfD
import Derived.Deep.DeepCutAuto
import Derived.Deep.CutBlock
set_option linter.unusedVariables false
set_option linter.unusedSimpArgs false
namespace Go.Proofs.YtkmgiodhaaajjaaDoor.SchQ
open Go.IntWalk Go.RowKit Go.Proofs.YtkmgiodhaaajjaaDoor.Mem Go.Proofs.YtkmgiodhaaajjaaDoor.App Go.Proofs.YtkmgiodhaaajjaaDoor.FloatB Go.Proofs.YtkmgiodhaaajjaaDoor.UtfP Go.Proofs.YtkmgiodhaaajjaaDoor.UtfD Go.Proofs.YtkmgiodhaaajjaaDoor.ItemP Go.Proofs.YtkmgiodhaaajjaaDoor.ItemM Go.Proofs.YtkmgiodhaaajjaaDoor.SchP Go.Proofs.YtkmgiodhaaajjaaDoor.SchM Go.Proofs.YtkmgiodhaaajjaaDoor.SchA Go.Proofs.YtkmgiodhaaajjaaDoor.SchB Go.Proofs.YtkmgiodhaaajjaaDoor.SchC Go.Proofs.YtkmgiodhaaajjaaDoor.SchF Go.Proofs.YtkmgiodhaaajjaaDoor.SchG Go.Proofs.YtkmgiodhaaajjaaDoor.SchH Go.Proofs.YtkmgiodhaaajjaaDoor.SchI Go.Proofs.YtkmgiodhaaajjaaDoor.SchJ Go.Proofs.YtkmgiodhaaajjaaDoor.SchK Go.Proofs.YtkmgiodhaaajjaaDoor.SchL Go.Proofs.YtkmgiodhaaajjaaDoor.SchN

/-- Of a node of the right form: its bounds, by its kind. -/
theorem form_bounds (k lo hi : Int) (v : It) (l : List Int) (f : List Fld) (hf : (⟨k, lo, hi, v, l, f⟩ : Nod).formB = true) :
    (⟨k, lo, hi, v, l, f⟩ : Nod).bounds = if k = 1 then decide (lo ≤ hi) else if k = 2 ∨ k = 3 ∨ k = 6 then decide (lo ≤ hi ∧ 0 ≤ lo) else if k = 9 then decide (0 ≤ lo) else true := by
  have hb : (⟨k, lo, hi, v, l, f⟩ : Nod).bare = ⟨k, lo, hi, v, l, f⟩ := by
    rw [Nod.formB, Bool.and_eq_true] at hf
    exact of_decide_eq_true hf.2
  unfold Nod.bounds
  by_cases h1 : k = 1
  · subst h1
    simp
  by_cases h2 : k = 2 ∨ k = 3 ∨ k = 6
  · have h9 : k ≠ 9 := by omega
    rw [if_neg h1, if_pos h2, Bool.eq_iff_iff]
    simp [h1, h9]
  by_cases h9 : k = 9
  · subst h9
    have : hi = 0 := by
      simp [Nod.bare] at hb
      omega
    subst this
    rw [if_neg h1, if_neg h2, if_pos rfl, Bool.eq_iff_iff]
    simp
  · have h0 : lo = 0 ∧ hi = 0 := by
      have q2 : k ≠ 2 := by omega
      have q3 : k ≠ 3 := by omega
      have q6 : k ≠ 6 := by omega
      have e := congrArg Nod.lo hb
      have e2 := congrArg Nod.hi hb
      by_cases h4 : k = 4
      · simp [Nod.bare, h4] at e e2; omega
      by_cases h8 : k = 8
      · simp [Nod.bare, h8] at e e2; omega
      by_cases h7 : k = 7
      · simp [Nod.bare, h7] at e e2; omega
      by_cases h10 : k = 10
      · simp [Nod.bare, h10] at e e2; omega
      simp [Nod.bare, h4, h8, h7, h10, h9, q6, h1, q2, q3] at e e2
      omega
    obtain ⟨rfl, rfl⟩ := h0
    rw [if_neg h1, if_neg h2, if_neg h9]
    simp
theorem run_eql_str (a b : ByteArray) (q : Bool) (h : decide (a = b) = q) : (a.toList == b.toList) = q := by
  rw [← h]
  by_cases e : a = b
  · rw [e]; simp
  · rw [decide_eq_false e, beq_eq_false_iff_ne, ByteArray.toList_eq, ByteArray.toList_eq]
    intro h2
    exact e (by obtain ⟨⟨l⟩⟩ := a; obtain ⟨⟨l'⟩⟩ := b; simp at h2; rw [h2])

set_option maxRecDepth 100000 in
set_option maxHeartbeats 16000000 in
theorem rwrong_calls (ns : List Nod) (i : Nat) (A : Option Addr) (M c h : Nat) (w : World) (hM : ns.length = M) (hc : M ≤ c) (hMm : M ≤ 1048576) (hi : i < M) (H : RdN w h A ns) :
    Calls Tryd.prog 75 #[.agg #[.slice A M c], .int .i64 i] w fun e w' => e = .returned (.int .i64 ((ns[i]'(by rw [hM]; exact hi)).wrong i M)) ∧ Fr (fun _ => False) w w' := by
  obtain ⟨ad, Av, cv, Al, cl, Af, cf, rfl, hab, hnine, hr⟩ := RdN.at_ H i (by rw [hM]; exact hi)
  obtain ⟨n, hn⟩ : ∃ n, ns[i]'(by rw [hM]; exact hi) = n := ⟨_, rfl⟩
  rw [hn] at hnine hr ⊢
  have HR := hid hr
  obtain ⟨n0, n1, n2, n3, n4, n5, n6, n7, n8⟩ := hnine
  obtain ⟨r, hrr⟩ : ∃ r, n.wrong i M = r := ⟨_, rfl⟩
  have HRR := hid hrr
  rw [hrr]
  clear hrr hr H hn hM hab
  have HND := hid (ndC_eq n Av cv Al cl Af cf)
  have hfl := HR.out.fc
  have hfm := HR.out.fm
  have hlm := HR.out.lm
  obtain ⟨k, lo, hi', v, l, f⟩ := n
  simp only at n0 n1 n2 n3 n4 n5 n6 n7 n8 HND hfl hfm hlm
  obtain ⟨x3, hx3⟩ : ∃ x, v.k = x := ⟨_, rfl⟩
  obtain ⟨x4, hx4⟩ : ∃ x, v.n = x := ⟨_, rfl⟩
  obtain ⟨x5, hx5⟩ : ∃ x, v.s = x := ⟨_, rfl⟩
  obtain ⟨x6, hx6⟩ : ∃ x, v.l.length = x := ⟨_, rfl⟩
  obtain ⟨x7, hx7⟩ : ∃ x, l.length = x := ⟨_, rfl⟩
  obtain ⟨x8, hx8⟩ : ∃ x, f.length = x := ⟨_, rfl⟩
  rw [hx3] at n3 HND
  rw [hx4] at n4 HND
  rw [hx5] at n5 HND
  rw [hx6] at n6 HND
  rw [hx7] at n7 HND hlm
  rw [hx8] at n8 HND hfl hfm
  have HX7 := hid hx7
  have HX8 := hid hx8
  have m0 := fun o => cell_a n0 o
  have m1 := fun o => cell_a n1 o
  have m2 := fun o => cell_a n2 o
  have m3 := fun o => cell_a n3 o
  have m4 := fun o => cell_a n4 o
  have m5 := fun o => cell_a n5 o
  have m6 := fun o => cell_a n6 o
  have m7 := fun o => cell_a n7 o
  have m8 := fun o => cell_a n8 o
  clear hx3 hx4 hx5 hx6 hx7 hx8 n0 n1 n2 n3 n4 n5 n6 n7 n8
  have hi0 : (0 : Int) ≤ (i : Int) := by omega
  have him : (i : Int) < (M : Int) := by omega
  have hic : (i : Int) < (c : Int) := by omega
  obtain ⟨w1, hw1⟩ : ∃ w1, (w.alloc (.cells #[.slice (some ad) M c] 42)).alloc (.cells #[.int .i64 k, .int .i64 lo, .int .i64 hi', .int .i64 x3, .int .u64 x4, .string x5, .slice Av x6 cv, .slice Al x7 cl, .slice Af x8 cf] 54) = w1 := ⟨_, rfl⟩
  have HF1 := hid (show Fr (fun _ => False) w w1 by rw [← hw1]; exact fr_2 _ _ _)
  have HBS := hid (show Blk w1 w.heap.size 42 #[.slice (some ad) M c] by rw [← hw1]; exact (Blk.new w _ _).alloc _)
  have HBN := hid (show Blk w1 (w.heap.size + 1) 54 #[.int .i64 k, .int .i64 lo, .int .i64 hi', .int .i64 x3, .int .u64 x4, .string x5, .slice Av x6 cv, .slice Al x7 cl, .slice Af x8 cf] by rw [← hw1]; have := Blk.new (w.alloc (.cells #[.slice (some ad) M c] 42)) 54 #[.int .i64 k, .int .i64 lo, .int .i64 hi', .int .i64 x3, .int .u64 x4, .string x5, .slice Av x6 cv, .slice Al x7 cl, .slice Af x8 cf]; rwa [World.size_alloc] at this)
  have HW1 := hid hw1
  clear hw1
  have hkk : (k < 0 ∨ (¬ k < 0 ∧ 10 < k)) ∨ (¬ k < 0 ∧ ¬ 10 < k) := by omega
  rcases hkk with hkk | ⟨hk0, hk10⟩
  · have HE := hid (show r = 18 by rw [← HRR.out, Nod.wrong, if_pos (show k < 0 ∨ 10 < k by omega)])
    rcases hkk with hk0 | ⟨hk0, hk10⟩
    all_goals
      go_enter Tryd.func75, Tryd.ntmps75
      go_wp2_with fail
      rw [HW1.out]
      go_ret
      exact ⟨by rw [HE.out]; rfl, HF1.out⟩
  have HKK := hid (show ¬ (k < 0 ∨ 10 < k) by omega)
  go_enter Tryd.func75, Tryd.ntmps75
  go_wp2_with fail
  rw [HW1.out, ← HND.out]
  clear m0 m1 m2 m3 m4 m5 m6 m7 m8 hk0 hk10
  refine (form_calls ⟨k, lo, hi', v, l, f⟩ h Av Al Af cv cl cf w1 (by exact HR.out.fr0 HF1.out)).mono ?_
  rintro e w2 ⟨rfl, hf⟩
  have HF2 := hid hf
  obtain ⟨fb, hfb⟩ : ∃ b, (⟨k, lo, hi', v, l, f⟩ : Nod).formB = b := ⟨_, rfl⟩
  have HFB := hid hfb
  rw [hfb]
  clear hf hfb
  have HCC := hid (show ∀ w', Fr (fun _ => False) w1 w' → w'.cell? ⟨w.heap.size, 0, none⟩ = some (.slice (some ad) M c) ∧ Blk w' (w.heap.size + 1) 54 #[.int .i64 k, .int .i64 lo, .int .i64 hi', .int .i64 x3, .int .u64 x4, .string x5, .slice Av x6 cv, .slice Al x7 cl, .slice Af x8 cf] from fun w' hf => ⟨(blk1 (HBS.out.fr hf (fun h => h))).1, HBN.out.fr hf (fun h => h)⟩)
  cases fb with
  | false =>
    have HE := hid (show r = 11 by rw [← HRR.out, Nod.wrong, if_neg HKK.out, if_pos HFB.out])
    go_wp2_with fail
    go_ret
    exact ⟨by rw [HE.out]; rfl, HF1.out.trans HF2.out⟩
  | true =>
  have HFT := hid (show ¬ (⟨k, lo, hi', v, l, f⟩ : Nod).formB = false by rw [HFB.out]; simp)
  have HBD := hid (form_bounds k lo hi' v l f HFB.out)
  obtain ⟨c0, c1, c2, _, _, _, _, _, _⟩ := blk9 (HCC.out _ HF2.out).2
  -- what stands behind the bounds
  have HBAD := hid (fun (hb : (⟨k, lo, hi', v, l, f⟩ : Nod).bounds = false) => show r = 15 by rw [← HRR.out, Nod.wrong, if_neg HKK.out, if_neg HFT.out, if_pos hb])
  have hcases : (⟨k, lo, hi', v, l, f⟩ : Nod).bounds = false ∨ (⟨k, lo, hi', v, l, f⟩ : Nod).bounds = true := by cases (⟨k, lo, hi', v, l, f⟩ : Nod).bounds <;> simp
  rcases hcases with hb | hb
  · have HE := hid (HBAD.out hb)
    rw [HBD.out] at hb
    have hk : (k = 1 ∧ hi' < lo) ∨ (k = 2 ∧ (hi' < lo ∨ (¬ hi' < lo ∧ lo < 0))) ∨ (k = 3 ∧ (hi' < lo ∨ (¬ hi' < lo ∧ lo < 0))) ∨ (k = 6 ∧ (hi' < lo ∨ (¬ hi' < lo ∧ lo < 0))) ∨ (k = 9 ∧ lo < 0) := by
      by_cases h1 : k = 1
      · rw [if_pos h1] at hb; have := of_decide_eq_false hb; omega
      · rw [if_neg h1] at hb
        by_cases h2 : k = 2 ∨ k = 3 ∨ k = 6
        · rw [if_pos h2] at hb; have := of_decide_eq_false hb; omega
        · rw [if_neg h2] at hb
          by_cases h9 : k = 9
          · rw [if_pos h9] at hb; have := of_decide_eq_false hb; omega
          · rw [if_neg h9] at hb; cases hb
    clear hb HRR HND HR HBN HBS HW1 HKK HFB HFT HBD HBAD
    rcases hk with ⟨rfl, h1⟩ | ⟨rfl, h1 | ⟨h0, h1⟩⟩ | ⟨rfl, h1 | ⟨h0, h1⟩⟩ | ⟨rfl, h1 | ⟨h0, h1⟩⟩ | ⟨rfl, h1⟩
    all_goals
      go_wp2_with fail
      go_ret
      exact ⟨by rw [HE.out]; rfl, HF1.out.trans HF2.out⟩
  have HBT := hid (show ¬ (⟨k, lo, hi', v, l, f⟩ : Nod).bounds = false by rw [hb]; simp)
  rw [HBD.out] at hb
  have hk : (k = 1 ∧ ¬ hi' < lo) ∨ (k = 2 ∧ ¬ hi' < lo ∧ ¬ lo < 0) ∨ (k = 3 ∧ ¬ hi' < lo ∧ ¬ lo < 0) ∨ (k = 6 ∧ ¬ hi' < lo ∧ ¬ lo < 0) ∨ (k = 9 ∧ ¬ lo < 0) ∨ (k ≠ 1 ∧ k ≠ 2 ∧ k ≠ 3 ∧ k ≠ 6 ∧ k ≠ 9) := by
    by_cases h1 : k = 1
    · rw [if_pos h1] at hb; have := of_decide_eq_true hb; omega
    · rw [if_neg h1] at hb
      by_cases h2 : k = 2 ∨ k = 3 ∨ k = 6
      · rw [if_pos h2] at hb; have := of_decide_eq_true hb; omega
      · rw [if_neg h2] at hb
        by_cases h9 : k = 9
        · rw [if_pos h9] at hb; have := of_decide_eq_true hb; omega
        · omega
  clear hb
  have HKC := hid hk
  clear hk
  go_upto_block 0 with fail
  go_cut [] from 30 to 55 (fun wx => w2 = wx)
  case first =>
    have hk := HKC.out
    rcases hk with ⟨rfl, h1⟩ | ⟨rfl, h0, h1⟩ | ⟨rfl, h0, h1⟩ | ⟨rfl, h0, h1⟩ | ⟨rfl, h1⟩ | ⟨h1, h2, h3, h6, h9⟩
    · go_wp2_with fail
      go_meet
      case rel => rfl
    · go_wp2_with fail
      go_meet
      case rel => rfl
    · go_wp2_with fail
      go_meet
      case rel => rfl
    · go_wp2_with fail
      go_meet
      case rel => rfl
    · go_wp2_with fail
      go_meet
      case rel => rfl
    · have g1 : (k == 1) = false := beq_eq_false_iff_ne.2 h1
      have g2 : (k == 2) = false := beq_eq_false_iff_ne.2 h2
      have g3 : (k == 3) = false := beq_eq_false_iff_ne.2 h3
      have g6 : (k == 6) = false := beq_eq_false_iff_ne.2 h6
      have g9 : (k == 9) = false := beq_eq_false_iff_ne.2 h9
      clear h1 h2 h3 h6 h9
      go_wp2_with fail
      go_meet
      case rel => rfl
  case rest =>
  obtain rfl : w2 = wc := hcut
  have HRK := hid (show r = if keysE [] f ≠ 0 then keysE [] f else if (⟨k, lo, hi', v, l, f⟩ : Nod).named.any (badN i M) = true then 13 else 0 by rw [← HRR.out, Nod.wrong, if_neg HKK.out, if_neg HFT.out, if_neg HBT.out])
  clear c0 c1 c2
  go_wp2_with fail
  go_loopw [6] (fun v6 wr => ∃ j : Nat, j ≤ x8 ∧ v6 = .int .i64 j ∧ Hid (keysE [] f = keysE ((f.take j).map Fld.key) (f.drop j)) ∧ Hid (Fr (fun _ => False) w1 wr)) (fun v6 _ => x8 - (intOf v6).toNat)
  case atStart => exact ⟨0, Nat.zero_le _, rfl, hid rfl, HF2⟩
  case round =>
    obtain ⟨j, hj, rfl, HE, HF⟩ := hrel
    obtain ⟨_, _, _, _, _, _, _, _, c8⟩ := blk9 (HCC.out _ HF.out).2
    by_cases hlt : j < x8
    · have HFX := hid (HR.out.f.fr0 HF1.out)
      obtain ⟨af, rfl, _, hks, _, f0, f1, f2⟩ := HFX.out.fr0 HF.out j (by simp only [HX8.out]; exact hlt)
      simp only at hks f0 f1 f2
      have HTK := hid (List.take_succ_eq_append_getElem (show j < f.length by rw [HX8.out]; exact hlt))
      have HDR := hid (List.drop_eq_getElem_cons (show j < f.length by rw [HX8.out]; exact hlt))
      obtain ⟨x, hx⟩ : ∃ x, f[j]'(by rw [HX8.out]; exact hlt) = x := ⟨_, rfl⟩
      have HXJ := hid hx
      rw [hx] at HTK HDR f0 f1 f2 hks
      obtain ⟨key, node, opt⟩ := x
      simp only at f0 f1 f2 hks
      have HE2 := hid (show keysE [] f = _ by rw [HE.out, HDR.out, keysE_step])
      simp only at HE2
      have hj0 : (0 : Int) ≤ (j : Int) := by omega
      have hjm : (j : Int) < (x8 : Int) := by omega
      have hjc : (j : Int) < (cf : Int) := by omega
      have HKS := hid hks
      clear hx hks
      go_wp2_with fail
      refine (reffirst_calls key wr HKS.out).mono ?_
      rintro e w9 ⟨rfl, rfl⟩
      obtain ⟨fs, hfs⟩ : ∃ q, firstS key = q := ⟨_, rfl⟩
      obtain ⟨vb, hvb⟩ : ∃ q, validS key = q := ⟨_, rfl⟩
      have HVB := hid hvb
      rw [hfs, hvb]
      clear hfs hvb
      cases vb with
      | false =>
        have HQ := hid (show r = 6 by
          have h : keysE [] f = 6 := by rw [HE2.out, if_pos HVB.out]
          rw [HRK.out, h]
          rfl)
        go_wp2_with fail
        go_ret
        exact ⟨by rw [HQ.out]; rfl, HF1.out.trans HF.out⟩
      | true =>
        by_cases hz : 1021 < key.size
        · have hz' : (1021 : Int) < (key.size : Int) := by omega
          have HQ := hid (show r = 4 by
            have h : keysE [] f = 4 := by rw [HE2.out, if_neg (by rw [HVB.out]; simp), if_pos hz]
            rw [HRK.out, h]
            rfl)
          clear hz
          go_wp2_with fail
          go_ret
          exact ⟨by rw [HQ.out]; rfl, HF1.out.trans HF.out⟩
        · have hz' : ¬ (1021 : Int) < (key.size : Int) := by omega
          have HZ := hid hz
          clear hz
          go_wp2_with fail
          clear f0 f1 f2 c8
          obtain ⟨wo, rfl⟩ : ∃ wo : World, wo = wr := ⟨_, rfl⟩
          go_loopw [9] (fun v9 wr => ∃ q : Nat, q ≤ j ∧ v9 = .int .i64 q ∧ Hid (∀ p (hp : p < f.length), p < q → f[p].key ≠ key) ∧ Hid (Fr (fun _ => False) w1 wr)) (fun v9 _ => j - (intOf v9).toNat)
          case atStart => exact ⟨0, Nat.zero_le _, rfl, hid (fun p hp h => by omega), HF⟩
          case round =>
            obtain ⟨q, hq, rfl, HN, HF3⟩ := hrel
            obtain ⟨_, _, _, _, _, _, _, _, c8⟩ := blk9 (HCC.out _ HF3.out).2
            by_cases hlq : q < j
            · obtain ⟨a1, he1, _, _, _, f0, _, _⟩ := HFX.out.fr0 HF3.out j (by simp only [HX8.out]; exact hlt)
              obtain ⟨a2, he2, _, _, _, g0, _, _⟩ := HFX.out.fr0 HF3.out q (by simp only [HX8.out]; omega)
              injection he1 with he1
              injection he2 with he2
              subst he1 he2
              simp only [HXJ.out] at f0
              obtain ⟨y, hy⟩ : ∃ y, (f[q]'(by rw [HX8.out]; omega)).key = y := ⟨_, rfl⟩
              have HYQ := hid hy
              rw [hy] at g0
              have hq0 : (0 : Int) ≤ (q : Int) := by omega
              have hqm : (q : Int) < (x8 : Int) := by omega
              have hqc : (q : Int) < (cf : Int) := by omega
              have hqj : (q : Int) < (j : Int) := by omega
              clear hy
              by_cases he : y = key
              · have heq := run_eql_str y key true (decide_eq_true he)
                have HYK := hid he
                have HQ := hid (show r = 14 by
                  have hany : (((f.take j).map Fld.key).any fun s => decide (s = key)) = true := by
                    rw [List.any_eq_true]
                    refine ⟨y, ?_, decide_eq_true he⟩
                    rw [List.mem_map]
                    refine ⟨f[q]'(by rw [HX8.out]; omega), ?_, HYQ.out⟩
                    rw [List.mem_take_iff_getElem]
                    exact ⟨q, by rw [HX8.out]; omega, rfl⟩
                  have h : keysE [] f = 14 := by rw [HE2.out, if_neg (by rw [HVB.out]; simp), if_neg HZ.out, if_pos hany]
                  rw [HRK.out, h]
                  rfl)
                clear he
                go_wp2_with fail
                go_quiet (fail)
                go_wp2_with fail
                go_ret
                exact ⟨by rw [HQ.out]; rfl, HF1.out.trans (HF3.out.drewN _)⟩
              · have heq := run_eql_str y key false (decide_eq_false he)
                have HYK := hid he
                clear he
                go_wp2_with fail
                go_quiet (fail)
                go_wp2_with fail
                go_roundw
                case rel => exact ⟨q + 1, by omega, by go_num, hid (fun p hp h => by
                  by_cases h2 : p < q
                  · exact HN.out p hp h2
                  · obtain rfl : p = q := by omega
                    rw [HYQ.out]; exact HYK.out), hid (HF3.out.drewN _)⟩
                case measure => simp [intOf]; omega
            · obtain rfl : q = j := by omega
              have HNA := hid (show (((f.take q).map Fld.key).any fun s => decide (s = key)) = false by
                rw [List.any_eq_false]
                intro s hs
                rw [List.mem_map] at hs
                obtain ⟨x, hx, rfl⟩ := hs
                obtain ⟨p, hp, rfl⟩ := List.mem_take_iff_getElem.1 hx
                have := HN.out p (by omega) (by omega)
                simp [this])
              go_wp2_with fail
              go_roundw
              case rel => exact ⟨q + 1, by omega, by go_num, hid (by
                rw [HE2.out, if_neg (by rw [HVB.out]; simp), if_neg HZ.out, if_neg (by rw [HNA.out]; simp), HTK.out, List.map_append]
                rfl), HF3⟩
              case measure => simp [intOf]; omega
    · obtain rfl : j = x8 := by omega
      have HK0 := hid (show keysE [] f = 0 by rw [HE.out, List.drop_of_length_le (by rw [HX8.out]; omega)]; rfl)
      have HRN := hid (show r = if (⟨k, lo, hi', v, l, f⟩ : Nod).named.any (badN i M) = true then 13 else 0 by rw [HRK.out, if_neg (by rw [HK0.out]; simp)])
      obtain ⟨c0, c1, c2, c3, c4, c5, c6, c7, _⟩ := blk9 (HCC.out _ HF.out).2
      go_wp2_with fail
      rw [← HND.out]
      refine (rnamed_calls ⟨k, lo, hi', v, l, f⟩ h Av cv Al cl Af cf wr (by exact (HR.out.fr0 HF1.out).fr0 HF.out)).mono ?_
      rintro e w7 ⟨A7, c7', rfl, ho, hf⟩
      have HF7 := hid (HF.out.then_ hf (fun _ _ h => h))
      obtain ⟨nm, hnm⟩ : ∃ x, (⟨k, lo, hi', v, l, f⟩ : Nod).named = x := ⟨_, rfl⟩
      have HO := hid ho
      have HNM2 := hid hnm
      rw [hnm] at HO HRN ⊢
      obtain ⟨q, hq⟩ : ∃ q, nm.length = q := ⟨_, rfl⟩
      have HQ := hid hq
      rw [hq] at HO ⊢
      have hq2 : q ≤ 2097152 := by
        have h1 := HQ.out
        have h2 := HNM2.out
        have h3 := HR.out.lm
        have h4 := HR.out.fm
        rw [← h1, ← h2]
        simp only [Nod.named, List.length_append, List.length_map] at h3 h4 ⊢
        omega
      have hqc : q ≤ c7' := by
        obtain ⟨A', c', e1, e2, _⟩ := HO.out.form
        injection e1 with _ e1 e3
        omega
      have HRD := hid HO.out.rd.1
      clear ho hf hnm hq c0 c1 c2 c3 c4 c5 c6 c7 c8
      go_wp2_with fail
      obtain ⟨wo, rfl⟩ : ∃ wo : World, wo = wr := ⟨_, rfl⟩
      go_loopw [11] (fun v11 wr => ∃ p : Nat, p ≤ q ∧ v11 = .int .i64 p ∧ Hid (∀ i0, i0 < p → badN i M (nm.getD i0 0) = false) ∧ Hid (Fr (fun _ => False) w7 wr)) (fun v11 _ => q - (intOf v11).toNat)
      case atStart => exact ⟨0, Nat.zero_le _, rfl, hid (fun i0 h => by omega), hid (Fr.refl _ _)⟩
      case round =>
        obtain ⟨p, hp, rfl, HA, HF8⟩ := hrel
        have HF9 := hid (HF7.out.then_ HF8.out (fun _ _ h => h))
        have s0 := (HCC.out _ HF9.out).1
        by_cases hlp : p < q
        · obtain ⟨ax, rfl, _, cx⟩ := HRD.out.fr0 HF8.out p (by rw [HQ.out]; exact hlp)
          obtain ⟨x, hx⟩ : ∃ x, nm.getD p 0 = x := ⟨_, rfl⟩
          rw [hx] at cx
          have HXE := hid hx
          have hp0 : (0 : Int) ≤ (p : Int) := by omega
          have hpm : (p : Int) < (q : Int) := by omega
          have hpc : (p : Int) < (c7' : Int) := by omega
          clear hx
          have HANY := hid (fun (hb : badN i M x = true) => show r = 13 by
            rw [HRN.out, if_pos]
            rw [List.any_eq_true]
            refine ⟨x, ?_, hb⟩
            rw [← HXE.out]
            have hp' : p < nm.length := by rw [HQ.out]; exact hlp
            simp [List.getD_eq_getElem?_getD, List.getElem?_eq_getElem hp'])
          by_cases h1 : x ≤ (i : Int)
          · have hd : decide (x ≤ (i : Int)) = true := decide_eq_true h1
            have HE3 := hid (HANY.out (by rw [badN, hd]; rfl))
            go_wp2_with fail
            go_quiet (fail)
            go_wp2_with fail
            go_ret
            exact ⟨by rw [HE3.out]; rfl, HF1.out.trans (HF9.out.drewN _)⟩
          · have hd : decide (x ≤ (i : Int)) = false := decide_eq_false h1
            by_cases h2 : (M : Int) ≤ x
            · have hd2 : decide ((M : Int) ≤ x) = true := decide_eq_true h2
              have HE3 := hid (HANY.out (by rw [badN, hd2, Bool.or_true]))
              go_wp2_with fail
              go_quiet (fail)
              go_wp2_with fail
              go_ret
              exact ⟨by rw [HE3.out]; rfl, HF1.out.trans (HF9.out.drewN _)⟩
            · have hd2 : decide ((M : Int) ≤ x) = false := decide_eq_false h2
              have HBN3 := hid (show badN i M x = false by rw [badN, hd, hd2]; rfl)
              go_wp2_with fail
              go_quiet (fail)
              go_wp2_with fail
              go_roundw
              case rel => exact ⟨p + 1, by omega, by go_num, hid (fun i0 h => by
                by_cases h3 : i0 < p
                · exact HA.out i0 h3
                · obtain rfl : i0 = p := by omega
                  rw [HXE.out]; exact HBN3.out), hid (HF8.out.drewN _)⟩
              case measure => simp [intOf]; omega
        · obtain rfl : p = q := by omega
          have HE3 := hid (show r = 0 by
            rw [HRN.out, if_neg]
            rw [Bool.not_eq_true, List.any_eq_false]
            intro x hx
            obtain ⟨i0, hi0, rfl⟩ := List.getElem_of_mem hx
            have := HA.out i0 (by rw [← HQ.out]; exact hi0)
            simp [List.getD_eq_getElem?_getD, List.getElem?_eq_getElem hi0] at this
            simp [this])
          go_wp2_with fail
          go_ret
          exact ⟨by rw [HE3.out]; rfl, HF1.out.trans HF9.out⟩
end Go.Proofs.YtkmgiodhaaajjaaDoor.SchQ
