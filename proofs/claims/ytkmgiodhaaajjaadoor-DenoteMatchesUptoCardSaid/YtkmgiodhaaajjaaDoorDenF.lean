/- Layer denote: whether an item matches a node. -/
import Derived.Test.YtkmgiodhaaajjaaDoorDenAE
set_option linter.unusedVariables false
set_option linter.unusedSimpArgs false
namespace Go.Proofs.YtkmgiodhaaajjaaDoor.DenF
open Go.IntWalk Go.RowKit Go.Proofs.YtkmgiodhaaajjaaDoor.Mem Go.Proofs.YtkmgiodhaaajjaaDoor.App Go.Proofs.YtkmgiodhaaajjaaDoor.FloatB Go.Proofs.YtkmgiodhaaajjaaDoor.ItemP Go.Proofs.YtkmgiodhaaajjaaDoor.ItemM Go.Proofs.YtkmgiodhaaajjaaDoor.ItemB Go.Proofs.YtkmgiodhaaajjaaDoor.SchP Go.Proofs.YtkmgiodhaaajjaaDoor.SchM Go.Proofs.YtkmgiodhaaajjaaDoor.SchG Go.Proofs.YtkmgiodhaaajjaaDoor.SchI Go.Proofs.YtkmgiodhaaajjaaDoor.SchJ Go.Proofs.YtkmgiodhaaajjaaDoor.DenP Go.Proofs.YtkmgiodhaaajjaaDoor.DenA Go.Proofs.YtkmgiodhaaajjaaDoor.DenB Go.Proofs.YtkmgiodhaaajjaaDoor.DenC Go.Proofs.YtkmgiodhaaajjaaDoor.DenD Go.Proofs.YtkmgiodhaaajjaaDoor.DenE

section
variable {n : Nod} {x : It} {B : Nat → Int → Bool} {g : Int → Bool}
theorem one0 (h : n.k = 0) : oneV n x B g = true := by unfold oneV; rw [if_pos h]
theorem one1 (h : n.k = 1) : oneV n x B g = numV x n.lo n.hi := by unfold oneV; rw [if_neg (by omega), if_pos h]
theorem one2 (h : n.k = 2) : oneV n x B g = (decide (x.k = 2) && decide (n.lo ≤ (x.s.size : Int) ∧ (x.s.size : Int) ≤ n.hi)) := by unfold oneV; rw [if_neg (by omega), if_neg (by omega), if_pos h]
theorem one3 (h : n.k = 3) : oneV n x B g = (decide (x.k = 3) && decide (n.lo ≤ (x.s.size : Int) ∧ (x.s.size : Int) ≤ n.hi)) := by unfold oneV; rw [if_neg (by omega), if_neg (by omega), if_neg (by omega), if_pos h]
theorem one4 (h : n.k = 4) : oneV n x B g = decide (x = n.v) := by unfold oneV; rw [if_neg (by omega), if_neg (by omega), if_neg (by omega), if_neg (by omega), if_pos h, It.same_decide]
theorem one5 (h : n.k = 5) : oneV n x B g = decide (x.k = 8) := by unfold oneV; rw [if_neg (by omega), if_neg (by omega), if_neg (by omega), if_neg (by omega), if_neg (by omega), if_pos h]
theorem one6 (h : n.k = 6) : oneV n x B g = (decide (x.k = 4) && decide (n.lo ≤ (x.l.length : Int) ∧ (x.l.length : Int) ≤ n.hi) && (List.range x.l.length).all (fun k => B k (n.l.getD 0 0))) := by unfold oneV; rw [if_neg (by omega), if_neg (by omega), if_neg (by omega), if_neg (by omega), if_neg (by omega), if_neg (by omega), if_pos h]
theorem one7 (h : n.k = 7) : oneV n x B g = (decide (x.k = 4) && decide (x.l.length = n.l.length) && (List.range x.l.length).all (fun k => B k (n.l.getD k 0))) := by unfold oneV; rw [if_neg (by omega), if_neg (by omega), if_neg (by omega), if_neg (by omega), if_neg (by omega), if_neg (by omega), if_neg (by omega), if_pos h]
theorem one8 (h : n.k = 8) : oneV n x B g = (decide (x.k = 5) && recV x.l n.f B) := by unfold oneV; rw [if_neg (by omega), if_neg (by omega), if_neg (by omega), if_neg (by omega), if_neg (by omega), if_neg (by omega), if_neg (by omega), if_neg (by omega), if_pos h]
theorem one9 (h : n.k = 9) : oneV n x B g = (decide (x.k = 6) && decide ((x.n : Int) = n.lo) && B 0 (n.l.getD 0 0)) := by unfold oneV; rw [if_neg (by omega), if_neg (by omega), if_neg (by omega), if_neg (by omega), if_neg (by omega), if_neg (by omega), if_neg (by omega), if_neg (by omega), if_neg (by omega), if_pos h]
theorem one10 (h : n.k = 10) : oneV n x B g = n.l.any g := by unfold oneV; rw [if_neg (by omega), if_neg (by omega), if_neg (by omega), if_neg (by omega), if_neg (by omega), if_neg (by omega), if_neg (by omega), if_neg (by omega), if_neg (by omega), if_neg (by omega)]
end
theorem num_eq (k : Int) (n : Nat) (s : ByteArray) (l : List It) (lo hi : Int) : numV (.mk k n s l) lo hi = ((numP k n).2 && decide (lo ≤ (numP k n).1 ∧ (numP k n).1 ≤ hi)) := by
  unfold numP
  show (if 9223372036854775807 < n then false else if k = 0 then decide (lo ≤ (n : Int) ∧ (n : Int) ≤ hi) else decide (k = 1 ∧ lo ≤ -1 - (n : Int) ∧ -1 - (n : Int) ≤ hi)) = _
  by_cases h1 : 9223372036854775807 < n
  · rw [if_pos h1, if_pos h1]; rfl
  · rw [if_neg h1, if_neg h1]
    by_cases h2 : k = 0
    · rw [if_pos h2, if_pos h2]; simp
    · rw [if_neg h2, if_neg h2]
      by_cases h3 : k = 1
      · rw [if_pos h3]; simp [h3]
      · rw [if_neg h3]; simp [h3]
theorem bounds_lo {n : Nod} (h : n.bounds = true) (hk : n.k ≠ 1) : 0 ≤ n.lo := by
  unfold Nod.bounds at h
  simp [hk] at h
  omega

set_option maxRecDepth 100000 in
set_option maxHeartbeats 16000000 in
theorem matches_calls (ns : List Nod) (HLD : Leads ns) (HWR : ∀ i (hi : i < ns.length), ns[i].wrong i ns.length = 0) (A : Option Addr) (M c h : Nat) (hM : ns.length = M) (hc : M ≤ c) (hMm : M ≤ 1048576) (d : Nat) :
    ∀ (i : Nat), i < M → M - i ≤ d → ∀ (x : It), MayBe x → x.size ≤ 2000000 → ∀ (lo hi : Nat) (cs : List Value) (w : World), hi ≤ w.heap.size → ItAt w lo hi x cs → RdN w h A ns →
      Calls Tryd.prog 83 #[.agg #[.slice A M c], .int .i64 (i : Int), .agg cs.toArray] w fun e w' => e = .returned (.bool (isV ns i x)) ∧ Fr (fun _ => False) w w' := by
  induction d with
  | zero => intro i hi hd; omega
  | succ d ih =>
    intro i him0 hd x hgx hxs lo hi cs w hh hat H
    have HM := hid hM
    have HIH := hid ih
    have HWZ := hid (wrong_zero (HWR i (by rw [hM]; exact him0)))
    have HEQ := hid (isV_eq HLD i x (by rw [hM]; exact him0))
    have HGX := hid hgx
    have HXS := hid hxs
    have HHS := hid hh
    have HRN := hid H
    obtain ⟨ad, Av, cv, Al, cl, Af, cf, rfl, hab, hnine, hr⟩ := RdN.at_ H i (by rw [hM]; exact him0)
    obtain ⟨n, hn⟩ : ∃ n, ns[i]'(by rw [hM]; exact him0) = n := ⟨_, rfl⟩
    rw [hn] at hnine hr HWZ HEQ
    have HNX := hid (show ∀ k ∈ n.named, (i : Int) < k ∧ k < (M : Int) by rw [← hM]; exact HWZ.out.2.2.2.2.2)
    have HR := hid hr
    -- what the nodes that are named answer
    have HKD := hid (show ∀ w', Fr (fun _ => False) w w' → ∀ j ∈ n.named, ∀ y, MayBe y → y.size ≤ 2000000 → ∀ ds, ItAt w' lo hi y ds → Calls Tryd.prog 83 #[.agg #[.slice (some ad) M c], .int .i64 j, .agg ds.toArray] w' fun e w'' => e = .returned (.bool (isV ns j.toNat y)) ∧ Fr (fun _ => False) w' w'' from fun w' hf j hj y hy hys ds hds => by
      obtain ⟨h1, h2⟩ := HNX.out j hj
      obtain ⟨j', rfl⟩ : ∃ j' : Nat, j = (j' : Int) := ⟨j.toNat, by omega⟩
      exact HIH.out j' (by omega) (by omega) y hy hys lo hi ds w' (Nat.le_trans HHS.out hf.size) hds (HRN.out.fr0 hf))
    obtain ⟨r, hrr⟩ : ∃ r, isV ns i x = r := ⟨_, rfl⟩
    have HRR := hid hrr
    rw [hrr] at HEQ ⊢
    obtain ⟨n0, n1, n2, n3, n4, n5, n6, n7, n8⟩ := hnine
    clear ih hrr hr hgx hxs hh H hn hM hab hd HIH HWR HLD
    obtain ⟨xk, xn, xs, xl⟩ := x
    have hat' := hat
    obtain ⟨Ax, cx, rfl, hxc, hxk, hxn, hxss, hxl, hL⟩ := hat
    have HAT := hid hat'
    have HL := hid hL
    have HXL := hid (show xl.length ≤ 2000000 by have h1 := HXS.out; have h2 := sizes_length xl; simp only [It.size] at h1; omega)
    have HKI := hid (show ∀ k (hk : k < xl.length), MayBe (xl.getD k noIt) ∧ (xl.getD k noIt).size ≤ 2000000 from fun k hk => by
      rw [getD_it hk]
      exact ⟨HGX.out.kid k hk, by have h1 := HXS.out; have h2 := size_get xk xn xs xl k hk; omega⟩)
    obtain ⟨xm, hxm⟩ : ∃ m, xl.length = m := ⟨_, rfl⟩
    have HXM := hid hxm
    have hxlm : xm ≤ 2000000 := by have := HXL.out; omega
    rw [hxm] at hxc hxl HAT HKI ⊢
    have hfl := HR.out.fc
    have hfm := HR.out.fm
    have hll := HR.out.lc
    have hlm := HR.out.lm
    obtain ⟨k, nlo, nhi, v, l, f⟩ := n
    simp only at n0 n1 n2 n3 n4 n5 n6 n7 n8 hfl hfm hll hlm
    obtain ⟨x3, hx3⟩ : ∃ x, v.k = x := ⟨_, rfl⟩
    obtain ⟨x4, hx4⟩ : ∃ x, v.n = x := ⟨_, rfl⟩
    obtain ⟨x5, hx5⟩ : ∃ x, v.s = x := ⟨_, rfl⟩
    obtain ⟨x6, hx6⟩ : ∃ x, v.l.length = x := ⟨_, rfl⟩
    obtain ⟨x7, hx7⟩ : ∃ x, l.length = x := ⟨_, rfl⟩
    obtain ⟨x8, hx8⟩ : ∃ x, f.length = x := ⟨_, rfl⟩
    have HVA := hid (show ItAt w 0 h v [.int .i64 x3, .int .u64 x4, .string x5, .slice Av x6 cv] by have := HR.out.v; simp only at this; rw [hx3, hx4, hx5, hx6] at this; exact this)
    rw [hx3] at n3
    rw [hx4] at n4
    rw [hx5] at n5
    rw [hx6] at n6
    rw [hx7] at n7 hll hlm
    rw [hx8] at n8 hfl hfm
    have HX7 := hid hx7
    have HX8 := hid hx8
    have m0 := fun o o' => cell_a (cell_a n0 o) o'
    have m1 := fun o o' => cell_a (cell_a n1 o) o'
    have m2 := fun o o' => cell_a (cell_a n2 o) o'
    have m3 := fun o o' => cell_a (cell_a n3 o) o'
    have m4 := fun o o' => cell_a (cell_a n4 o) o'
    have m5 := fun o o' => cell_a (cell_a n5 o) o'
    have m6 := fun o o' => cell_a (cell_a n6 o) o'
    have m7 := fun o o' => cell_a (cell_a n7 o) o'
    have m8 := fun o o' => cell_a (cell_a n8 o) o'
    clear n0 n1 n2 n3 n4 n5 n6 n7 n8 hat' hL hxm
    clear hx3 hx4 hx5 hx6 hx7 hx8
    have hi0 : (0 : Int) ≤ (i : Int) := by omega
    have him : (i : Int) < (M : Int) := by omega
    have hic : (i : Int) < (c : Int) := by omega
    obtain ⟨w1, hw1⟩ : ∃ w1, ((w.alloc (.cells #[.slice (some ad) M c] 42)).alloc (.cells #[.int .i64 xk, .int .u64 xn, .string xs, .slice Ax xm cx] 25)).alloc (.cells #[.int .i64 k, .int .i64 nlo, .int .i64 nhi, .int .i64 x3, .int .u64 x4, .string x5, .slice Av x6 cv, .slice Al x7 cl, .slice Af x8 cf] 54) = w1 := ⟨_, rfl⟩
    have HF1 := hid (show Fr (fun _ => False) w w1 by rw [← hw1]; exact fr_3 _ _ _ _)
    have HBS := hid (show Blk w1 w.heap.size 42 #[.slice (some ad) M c] by rw [← hw1]; exact blk_1of3 _ _ _ _ _)
    have HBX := hid (show Blk w1 (w.heap.size + 1) 25 #[.int .i64 xk, .int .u64 xn, .string xs, .slice Ax xm cx] by rw [← hw1]; exact blk_2 _ _ _ _ _)
    have HBN := hid (show Blk w1 (w.heap.size + 1 + 1) 54 #[.int .i64 k, .int .i64 nlo, .int .i64 nhi, .int .i64 x3, .int .u64 x4, .string x5, .slice Av x6 cv, .slice Al x7 cl, .slice Af x8 cf] by rw [← hw1]; exact blk_3 _ _ _ _ _)
    have HW1 := hid hw1
    clear hw1
    have HS := hid (show ∀ w', Fr (fun _ => False) w1 w' → w'.cell? ⟨w.heap.size, 0, none⟩ = some (.slice (some ad) M c) ∧ (w'.cell? ⟨w.heap.size + 1, 0, none⟩ = some (.int .i64 xk) ∧ w'.cell? ⟨w.heap.size + 1, 1, none⟩ = some (.int .u64 xn) ∧ w'.cell? ⟨w.heap.size + 1, 2, none⟩ = some (.string xs) ∧ w'.cell? ⟨w.heap.size + 1, 3, none⟩ = some (.slice Ax xm cx)) ∧ Blk w' (w.heap.size + 1 + 1) 54 #[.int .i64 k, .int .i64 nlo, .int .i64 nhi, .int .i64 x3, .int .u64 x4, .string x5, .slice Av x6 cv, .slice Al x7 cl, .slice Af x8 cf] from fun w' hf => by
      have hB := HBX.out.fr hf (fun h => h)
      have e0 := hB.cell 0
      have e1 := hB.cell 1
      have e2 := hB.cell 2
      have e3 := hB.cell 3
      simp at e0 e1 e2 e3
      exact ⟨(blk1 (HBS.out.fr hf (fun h => h))).1, ⟨e0, e1, e2, e3⟩, HBN.out.fr hf (fun h => h)⟩)
    have hkr : k = 0 ∨ k = 1 ∨ k = 2 ∨ k = 3 ∨ k = 4 ∨ k = 5 ∨ k = 6 ∨ k = 7 ∨ k = 8 ∨ k = 9 ∨ k = 10 := by
      have := HWZ.out.1
      simp only at this
      omega
    rcases hkr with rfl | rfl | rfl | rfl | rfl | rfl | rfl | rfl | rfl | rfl | rfl
    case inl =>
      have HE := hid (show r = true by rw [HEQ.out, one0 rfl])
      go_enter Tryd.func83, Tryd.ntmps83
      go_wp2_with fail
      rw [HW1.out]
      go_ret
      exact ⟨ret_bool HE.out.symm, HF1.out⟩
    case inr.inl =>
      have HE := hid (show r = ((numP xk xn).2 && decide (nlo ≤ (numP xk xn).1 ∧ (numP xk xn).1 ≤ nhi)) by rw [HEQ.out, one1 rfl]; exact num_eq _ _ _ _ _ _)
      obtain ⟨⟨p1, p2⟩, hp⟩ : ∃ p, numP xk xn = p := ⟨_, rfl⟩
      have HP := hid hp
      rw [hp] at HE
      clear hp
      simp only at HE
      obtain ⟨_, ⟨c0, c1, c2, c3⟩, _⟩ := HS.out w1 (Fr.refl _ _)
      go_enter Tryd.func83, Tryd.ntmps83
      go_wp2_with fail
      rw [HW1.out]
      refine (number_calls xk xn xs Ax xm cx w1).mono ?_
      rintro e w2 ⟨rfl, hf⟩
      have HF2 := hid hf
      rw [HP.out]
      clear hf c0 c1 c2 c3 m0 m1 m2 m3 m4 m5 m6 m7 m8
      obtain ⟨d0, d1, d2, d3, d4, d5, d6, d7, d8⟩ := blk9 (HS.out w2 HF2.out).2.2
      cases p2 with
      | false =>
        go_wp2_with fail
        go_ret
        exact ⟨ret_bool HE.out.symm, HF1.out.trans HF2.out⟩
      | true =>
        go_wp2_with fail
        refine (within_calls _ _ _ _ _ _ _ _ _ nlo nhi p1 rfl rfl w2).mono ?_
        rintro e w3 ⟨rfl, hf⟩
        have HF3 := hid (HF2.out.then_ hf (fun _ _ h => h))
        clear hf d0 d1 d2 d3 d4 d5 d6 d7 d8
        go_wp2_with fail
        go_ret
        exact ⟨ret_bool (by rw [HE.out]; simp), HF1.out.trans HF3.out⟩
    case inr.inr.inl =>
      have HE := hid (show r = (decide (xk = 2) && decide (nlo ≤ (xs.size : Int) ∧ (xs.size : Int) ≤ nhi)) by rw [HEQ.out, one2 rfl]; rfl)
      obtain ⟨_, ⟨c0, c1, c2, c3⟩, _⟩ := HS.out w1 (Fr.refl _ _)
      by_cases h2 : xk = 2
      · subst h2
        go_enter Tryd.func83, Tryd.ntmps83
        go_wp2_with fail
        rw [HW1.out]
        refine (within_calls _ _ _ _ _ _ _ _ _ nlo nhi (xs.size : Int) rfl rfl w1).mono ?_
        rintro e w3 ⟨rfl, hf⟩
        have HF3 := hid hf
        clear hf
        go_wp2_with fail
        go_ret
        exact ⟨ret_bool (by rw [HE.out]; simp), HF1.out.trans HF3.out⟩
      · have hb : (xk == 2) = false := beq_eq_false_iff_ne.2 h2
        have HE2 := hid (show r = false by rw [HE.out, decide_eq_false h2]; rfl)
        go_enter Tryd.func83, Tryd.ntmps83
        go_wp2_with fail
        rw [HW1.out]
        go_ret
        exact ⟨ret_bool HE2.out.symm, HF1.out⟩
    case inr.inr.inr.inl =>
      have HE := hid (show r = (decide (xk = 3) && decide (nlo ≤ (xs.size : Int) ∧ (xs.size : Int) ≤ nhi)) by rw [HEQ.out, one3 rfl]; rfl)
      obtain ⟨_, ⟨c0, c1, c2, c3⟩, _⟩ := HS.out w1 (Fr.refl _ _)
      by_cases h2 : xk = 3
      · subst h2
        go_enter Tryd.func83, Tryd.ntmps83
        go_wp2_with fail
        rw [HW1.out]
        refine (within_calls _ _ _ _ _ _ _ _ _ nlo nhi (xs.size : Int) rfl rfl w1).mono ?_
        rintro e w3 ⟨rfl, hf⟩
        have HF3 := hid hf
        clear hf
        go_wp2_with fail
        go_ret
        exact ⟨ret_bool (by rw [HE.out]; simp), HF1.out.trans HF3.out⟩
      · have hb : (xk == 3) = false := beq_eq_false_iff_ne.2 h2
        have HE2 := hid (show r = false by rw [HE.out, decide_eq_false h2]; rfl)
        go_enter Tryd.func83, Tryd.ntmps83
        go_wp2_with fail
        rw [HW1.out]
        go_ret
        exact ⟨ret_bool HE2.out.symm, HF1.out⟩
    case inr.inr.inr.inr.inl =>
      have HE := hid (show r = decide (It.mk xk xn xs xl = v) by rw [HEQ.out, one4 rfl])
      obtain ⟨_, ⟨c0, c1, c2, c3⟩, hbn⟩ := HS.out w1 (Fr.refl _ _)
      go_enter Tryd.func83, Tryd.ntmps83
      go_wp2_with fail
      rw [HW1.out]
      refine (same_calls 2000000 (.mk xk xn xs xl) v HXS.out (Nat.le_refl _) lo hi 0 h _ _ w1 (Nat.le_trans HHS.out HF1.out.size) (Nat.le_trans HR.out.hh HF1.out.size) (HAT.out.fr0 HF1.out HHS.out) (HVA.out.fr0 HF1.out HR.out.hh)).mono ?_
      rintro e w3 ⟨rfl, hf⟩
      have HF3 := hid hf
      rw [← HE.out]
      clear hf
      go_wp2_with fail
      go_ret
      exact ⟨rfl, HF1.out.trans HF3.out⟩
    case inr.inr.inr.inr.inr.inl =>
      have HE := hid (show r = decide (xk = 8) by rw [HEQ.out, one5 rfl]; rfl)
      by_cases h2 : xk = 8
      · subst h2
        go_enter Tryd.func83, Tryd.ntmps83
        go_wp2_with fail
        rw [HW1.out]
        go_ret
        exact ⟨ret_bool (by rw [HE.out]; rfl), HF1.out⟩
      · have hb : (xk == 8) = false := beq_eq_false_iff_ne.2 h2
        have HE2 := hid (show r = false by rw [HE.out, decide_eq_false h2])
        go_enter Tryd.func83, Tryd.ntmps83
        go_wp2_with fail
        rw [HW1.out]
        go_ret
        exact ⟨ret_bool HE2.out.symm, HF1.out⟩
    case inr.inr.inr.inr.inr.inr.inl =>
      have HE := hid (show r = (decide (xk = 4) && decide (nlo ≤ (xm : Int) ∧ (xm : Int) ≤ nhi) && (List.range xm).all (fun k => isV ns (l.getD 0 0).toNat (xl.getD k noIt))) by rw [HEQ.out, one6 rfl, ← HXM.out]; rfl)
      by_cases h2 : xk = 4
      · subst h2
        have HL1 := hid (show l.length = 1 from ok_one HWZ.out.2.1 (Or.inl rfl))
        have HMEM := hid (show l.getD 0 0 ∈ (Nod.mk 6 nlo nhi v l f).named by
          simp only [Nod.named, List.mem_append]
          exact Or.inl (getD_mem (by rw [HL1.out]; omega)))
        go_enter Tryd.func83, Tryd.ntmps83
        go_wp2_with fail
        rw [HW1.out]
        refine (within_calls _ _ _ _ _ _ _ _ _ nlo nhi (xm : Int) rfl rfl w1).mono ?_
        rintro e w2 ⟨rfl, hf⟩
        have HF2 := hid hf
        clear hf
        obtain ⟨wb, hwb⟩ : ∃ wb, decide (nlo ≤ (xm : Int) ∧ (xm : Int) ≤ nhi) = wb := ⟨_, rfl⟩
        rw [hwb] at HE ⊢
        clear hwb
        cases wb with
        | false =>
          go_wp2_with fail
          go_ret
          exact ⟨ret_bool (by rw [HE.out]; rfl), HF1.out.trans HF2.out⟩
        | true =>
          go_wp2_with fail
          refine (all2_calls w2 (some ad) M c lo hi w.heap.size (w.heap.size + 1) (w.heap.size + 1 + 1) xl Ax xm cx (fun _ => l.getD 0 0) (fun k => isV ns (l.getD 0 0).toNat (xl.getD k noIt)) HXM.out hxc hxlm (Nat.le_trans HHS.out (HF1.out.trans HF2.out).size) (HL.out.fr0 (HF1.out.trans HF2.out) HHS.out) (HS.out w2 HF2.out).1 (HS.out w2 HF2.out).2.1.2.2.2 (Nat.lt_of_lt_of_le HBS.out.lt HF2.out.size)
            (fun w' hf k hk => two_calls k (w.heap.size + 1 + 1) Al x7 cl l w' HX7.out (by have := HX7.out; have := HL1.out; omega) hll (blk9 (HS.out w' (HF2.out.trans hf)).2.2).2.2.2.2.2.2.2.1 (HR.out.l.fr0 ((HF1.out.trans HF2.out).trans hf)))
            (fun w' hf k hk ds hds => HKD.out w' ((HF1.out.trans HF2.out).trans hf) _ HMEM.out _ (HKI.out k hk).1 (HKI.out k hk).2 ds (hds.fr0 hf (Nat.le_trans HHS.out (HF1.out.trans HF2.out).size)))).mono ?_
          rintro e w3 ⟨rfl, hf⟩
          have HF3 := hid (HF2.out.then_ hf (fun _ _ h => h))
          rw [show (List.range xm).all (fun k => isV ns (l.getD 0 0).toNat (xl.getD k noIt)) = r by rw [HE.out]; rfl]
          clear hf
          go_wp2_with fail
          go_ret
          exact ⟨rfl, HF1.out.trans HF3.out⟩
      · have hb : (xk == 4) = false := beq_eq_false_iff_ne.2 h2
        have HE2 := hid (show r = false by rw [HE.out, decide_eq_false h2]; rfl)
        go_enter Tryd.func83, Tryd.ntmps83
        go_wp2_with fail
        rw [HW1.out]
        go_ret
        exact ⟨ret_bool HE2.out.symm, HF1.out⟩
    case inr.inr.inr.inr.inr.inr.inr.inl =>
      have HE := hid (show r = (decide (xk = 4) && decide (xm = x7) && (List.range xm).all (fun k => isV ns (l.getD k 0).toNat (xl.getD k noIt))) by rw [HEQ.out, one7 rfl, ← HXM.out, ← HX7.out]; rfl)
      by_cases h2 : xk = 4
      · subst h2
        by_cases h3 : xm = x7
        · have HX73 := hid h3
          subst h3
          go_enter Tryd.func83, Tryd.ntmps83
          go_wp2_with fail
          rw [HW1.out]
          refine (all3_calls w1 (some ad) M c lo hi w.heap.size (w.heap.size + 1) (w.heap.size + 1 + 1) xl Ax xm cx (fun k => l.getD k 0) (fun k => isV ns (l.getD k 0).toNat (xl.getD k noIt)) HXM.out hxc hxlm (Nat.le_trans HHS.out HF1.out.size) (HL.out.fr0 HF1.out HHS.out) (HS.out w1 (Fr.refl _ _)).1 (HS.out w1 (Fr.refl _ _)).2.1.2.2.2 HBS.out.lt
            (fun w' hf k hk => three_calls k (w.heap.size + 1 + 1) Al xm cl l w' HX7.out hk hll (blk9 (HS.out w' hf).2.2).2.2.2.2.2.2.2.1 (HR.out.l.fr0 (HF1.out.trans hf)))
            (fun w' hf k hk ds hds => HKD.out w' (HF1.out.trans hf) _ (by
              simp only [Nod.named, List.mem_append]
              exact Or.inl (getD_mem (by rw [HX7.out]; exact hk))) _ (HKI.out k hk).1 (HKI.out k hk).2 ds (hds.fr0 hf (Nat.le_trans HHS.out HF1.out.size)))).mono ?_
          rintro e w3 ⟨rfl, hf⟩
          have HF3 := hid hf
          rw [show (List.range xm).all (fun k => isV ns (l.getD k 0).toNat (xl.getD k noIt)) = r by rw [HE.out]; simp]
          clear hf
          go_wp2_with fail
          go_ret
          exact ⟨rfl, HF1.out.trans HF3.out⟩
        · have hb : ((xm : Int) == (x7 : Int)) = false := beq_eq_false_iff_ne.2 (by omega)
          have HE2 := hid (show r = false by rw [HE.out, decide_eq_false h3]; simp)
          clear h3
          go_enter Tryd.func83, Tryd.ntmps83
          go_wp2_with fail
          rw [HW1.out]
          go_ret
          exact ⟨ret_bool HE2.out.symm, HF1.out⟩
      · have hb : (xk == 4) = false := beq_eq_false_iff_ne.2 h2
        have HE2 := hid (show r = false by rw [HE.out, decide_eq_false h2]; rfl)
        go_enter Tryd.func83, Tryd.ntmps83
        go_wp2_with fail
        rw [HW1.out]
        go_ret
        exact ⟨ret_bool HE2.out.symm, HF1.out⟩
    case inr.inr.inr.inr.inr.inr.inr.inr.inl =>
      have HE := hid (show r = (decide (xk = 5) && recV xl f (fun k j => isV ns j.toNat (xl.getD k noIt))) by rw [HEQ.out, one8 rfl]; rfl)
      by_cases h2 : xk = 5
      · subst h2
        go_enter Tryd.func83, Tryd.ntmps83
        go_wp2_with fail
        rw [HW1.out]
        refine (record_calls w1 (some ad) M c lo hi _ _ _ _ _ _ _ _ f Af x8 cf (.mk 5 xn xs xl) Ax xm cx (fun k j => isV ns j.toNat (xl.getD k noIt)) HGX.out rfl (keys_apart f [] HWZ.out.2.2.2.2.1).2 HX8.out hfl hfm (HR.out.f.fr0 HF1.out) HXM.out hxc hxlm (HL.out.fr0 HF1.out HHS.out) (Nat.le_trans HHS.out HF1.out.size)
          (fun w' hf k hk g hg ds hds => HKD.out w' (HF1.out.trans hf) _ (by
            simp only [Nod.named, List.mem_append, List.mem_map]
            exact Or.inr ⟨g, hg, rfl⟩) _ (HKI.out k hk).1 (HKI.out k hk).2 ds (hds.fr0 hf (Nat.le_trans HHS.out HF1.out.size)))).mono ?_
        rintro e w3 ⟨rfl, hf⟩
        have HF3 := hid hf
        rw [show recV (It.mk 5 xn xs xl).l f (fun k j => isV ns j.toNat (xl.getD k noIt)) = r by rw [HE.out]; simp [It.l]]
        clear hf
        go_wp2_with fail
        go_ret
        exact ⟨rfl, HF1.out.trans HF3.out⟩
      · have hb : (xk == 5) = false := beq_eq_false_iff_ne.2 h2
        have HE2 := hid (show r = false by rw [HE.out, decide_eq_false h2]; rfl)
        go_enter Tryd.func83, Tryd.ntmps83
        go_wp2_with fail
        rw [HW1.out]
        go_ret
        exact ⟨ret_bool HE2.out.symm, HF1.out⟩
    case inr.inr.inr.inr.inr.inr.inr.inr.inr.inl =>
      have HE := hid (show r = (decide (xk = 6) && decide ((xn : Int) = nlo) && isV ns (l.getD 0 0).toNat (xl.getD 0 noIt)) by rw [HEQ.out, one9 rfl]; rfl)
      have hlo0 : 0 ≤ nlo := bounds_lo HWZ.out.2.2.2.1 (by simp)
      have hlo1 : nlo ≤ 9223372036854775807 := HR.out.lor.2
      have hwl : IntKind.u64.wrap nlo = nlo := u64_in _ (by omega)
      by_cases h2 : xk = 6
      · by_cases h3 : (xn : Int) = nlo
        · subst h2 h3
          have HL1 := hid (show l.length = 1 from ok_one HWZ.out.2.1 (Or.inr rfl))
          have HL2 := hid (show xl.length = 1 from HGX.out.tag rfl)
          have HMEM := hid (show l.getD 0 0 ∈ (Nod.mk 9 (xn : Int) nhi v l f).named by
            simp only [Nod.named, List.mem_append]
            exact Or.inl (getD_mem (by rw [HL1.out]; omega)))
          obtain rfl : xm = 1 := by rw [← HXM.out, HL2.out]
          obtain rfl : x7 = 1 := by rw [← HX7.out, HL1.out]
          obtain ⟨al, rfl, hal, ca⟩ := HR.out.l 0 (by rw [HL1.out]; omega)
          obtain ⟨ax, yk, yn, ys, yl, A', c', rfl, hla, hab2, hx', b0, b1, b2, b3, hch⟩ := ItsAt.kid HL.out 0 (by rw [HL2.out]; omega)
          have hca : w.cell? al = some (.int .i64 (l.getD 0 0)) := ca
          have b0 : w.cell? ax = some (.int .i64 yk) := by simpa [Addr.add] using b0
          have b1 : w.cell? ⟨ax.block, ax.off + 1, none⟩ = some (.int .u64 yn) := by simpa [Addr.add] using b1
          have b2 : w.cell? ⟨ax.block, ax.off + 2, none⟩ = some (.string ys) := by simpa [Addr.add] using b2
          have b3 : w.cell? ⟨ax.block, ax.off + 3, none⟩ = some (.slice A' yl.length c') := by simpa [Addr.add] using b3
          obtain ⟨j, hj⟩ : ∃ j, l.getD 0 0 = j := ⟨_, rfl⟩
          have HJ := hid hj
          rw [hj] at hca HMEM HE
          obtain ⟨b, hb⟩ : ∃ b, isV ns j.toNat (xl.getD 0 noIt) = b := ⟨_, rfl⟩
          have HB := hid hb
          rw [hb] at HE
          have HCH := hid (show ItAt w lo hi (xl.getD 0 noIt) [.int .i64 yk, .int .u64 yn, .string ys, .slice A' yl.length c'] by rw [getD_it (by rw [HL2.out]; omega), hx']; exact hch)
          obtain ⟨q2, hq2⟩ : ∃ q, yl.length = q := ⟨_, rfl⟩
          rw [hq2] at b3 HCH
          clear hq2 hb hj hx' hch ca hla hab2 hal
          have HSS := hid (show ∀ w', Fr (fun _ => False) w1 w' → w'.cell? ⟨w.heap.size, 0, none⟩ = some (.slice (some ad) M c) ∧ w'.cell? ⟨w.heap.size + 1, 0, none⟩ = some (.int .i64 6) ∧ w'.cell? ⟨w.heap.size + 1, 1, none⟩ = some (.int .u64 xn) ∧ w'.cell? ⟨w.heap.size + 1, 3, none⟩ = some (.slice (some ax) 1 cx) ∧ w'.cell? ⟨w.heap.size + 1 + 1, 1, none⟩ = some (.int .i64 (xn : Int)) ∧ w'.cell? ⟨w.heap.size + 1 + 1, 7, none⟩ = some (.slice (some al) 1 cl) ∧ w'.cell? al = some (.int .i64 j) ∧ w'.cell? ax = some (.int .i64 yk) ∧ w'.cell? ⟨ax.block, ax.off + 1, none⟩ = some (.int .u64 yn) ∧ w'.cell? ⟨ax.block, ax.off + 2, none⟩ = some (.string ys) ∧ w'.cell? ⟨ax.block, ax.off + 3, none⟩ = some (.slice A' q2 c') ∧ Fr (fun _ => False) w1 w' from fun w' hf => by
            obtain ⟨g0, ⟨g1, g2, _, g4⟩, hN⟩ := HS.out w' hf
            obtain ⟨_, k1, _, _, _, _, _, k7, _⟩ := blk9 hN
            have hf0 := HF1.out.trans hf
            exact ⟨g0, g1, g2, g4, k1, k7, cell_fr hca hf0, cell_fr b0 hf0, cell_fr b1 hf0, cell_fr b2 hf0, cell_fr b3 hf0, hf⟩)
          have HCM := hid (fun wx (hf : wx.cell? ⟨w.heap.size, 0, none⟩ = some (.slice (some ad) M c) ∧ wx.cell? ⟨w.heap.size + 1, 0, none⟩ = some (.int .i64 6) ∧ wx.cell? ⟨w.heap.size + 1, 1, none⟩ = some (.int .u64 xn) ∧ wx.cell? ⟨w.heap.size + 1, 3, none⟩ = some (.slice (some ax) 1 cx) ∧ wx.cell? ⟨w.heap.size + 1 + 1, 1, none⟩ = some (.int .i64 (xn : Int)) ∧ wx.cell? ⟨w.heap.size + 1 + 1, 7, none⟩ = some (.slice (some al) 1 cl) ∧ wx.cell? al = some (.int .i64 j) ∧ wx.cell? ax = some (.int .i64 yk) ∧ wx.cell? ⟨ax.block, ax.off + 1, none⟩ = some (.int .u64 yn) ∧ wx.cell? ⟨ax.block, ax.off + 2, none⟩ = some (.string ys) ∧ wx.cell? ⟨ax.block, ax.off + 3, none⟩ = some (.slice A' q2 c') ∧ Fr (fun _ => False) w1 wx) => (HKD.out wx (HF1.out.trans hf.2.2.2.2.2.2.2.2.2.2.2) j HMEM.out _ (HKI.out 0 (by omega)).1 (HKI.out 0 (by omega)).2 _ (HCH.out.fr0 (HF1.out.trans hf.2.2.2.2.2.2.2.2.2.2.2) HHS.out)).mono (R' := fun e w' => e = .returned (.bool b) ∧ w'.cell? ⟨w.heap.size, 0, none⟩ = some (.slice (some ad) M c) ∧ w'.cell? ⟨w.heap.size + 1, 0, none⟩ = some (.int .i64 6) ∧ w'.cell? ⟨w.heap.size + 1, 1, none⟩ = some (.int .u64 xn) ∧ w'.cell? ⟨w.heap.size + 1, 3, none⟩ = some (.slice (some ax) 1 cx) ∧ w'.cell? ⟨w.heap.size + 1 + 1, 1, none⟩ = some (.int .i64 (xn : Int)) ∧ w'.cell? ⟨w.heap.size + 1 + 1, 7, none⟩ = some (.slice (some al) 1 cl) ∧ w'.cell? al = some (.int .i64 j) ∧ w'.cell? ax = some (.int .i64 yk) ∧ w'.cell? ⟨ax.block, ax.off + 1, none⟩ = some (.int .u64 yn) ∧ w'.cell? ⟨ax.block, ax.off + 2, none⟩ = some (.string ys) ∧ w'.cell? ⟨ax.block, ax.off + 3, none⟩ = some (.slice A' q2 c') ∧ Fr (fun _ => False) w1 w') (fun e w' g => ⟨by rw [g.1, HB.out], HSS.out w' (hf.2.2.2.2.2.2.2.2.2.2.2.then_ g.2 (fun _ _ h => h))⟩))
          have h01 : (0 : Int) < 1 := by omega
          have hc1 : (1 : Int) ≤ (cx : Int) := by omega
          have hcl1 : (1 : Int) ≤ (cl : Int) := by omega
          have hcx0 : (0 : Int) < (cx : Int) := by omega
          have hcl0 : (0 : Int) < (cl : Int) := by omega
          clear b0 b1 b2 b3 hca
          go_enter Tryd.func83, Tryd.ntmps83
          go_wp2_with fail
          rw [HW1.out]
          go_region_held3 (fun w' => w'.cell? ⟨w.heap.size, 0, none⟩ = some (.slice (some ad) M c) ∧ w'.cell? ⟨w.heap.size + 1, 0, none⟩ = some (.int .i64 6) ∧ w'.cell? ⟨w.heap.size + 1, 1, none⟩ = some (.int .u64 xn) ∧ w'.cell? ⟨w.heap.size + 1, 3, none⟩ = some (.slice (some ax) 1 cx) ∧ w'.cell? ⟨w.heap.size + 1 + 1, 1, none⟩ = some (.int .i64 (xn : Int)) ∧ w'.cell? ⟨w.heap.size + 1 + 1, 7, none⟩ = some (.slice (some al) 1 cl) ∧ w'.cell? al = some (.int .i64 j) ∧ w'.cell? ax = some (.int .i64 yk) ∧ w'.cell? ⟨ax.block, ax.off + 1, none⟩ = some (.int .u64 yn) ∧ w'.cell? ⟨ax.block, ax.off + 2, none⟩ = some (.string ys) ∧ w'.cell? ⟨ax.block, ax.off + 3, none⟩ = some (.slice A' q2 c') ∧ Fr (fun _ => False) w1 w')
            (first | exact HSS.out _ (Fr.refl _ _) | exact HSS.out _ (Fr.refl _ _).drew | assumption)
            (first
              | ((go_at_call 83; with_reducible refine (HCM.out _ (by assumption)).mono ?_; rintro e' w8 ⟨rfl, hS⟩)))
          all_goals
            go_wp2_with fail
            go_ret
            exact ⟨ret_bool (by rw [HE.out]; simp), HF1.out.trans hS.2.2.2.2.2.2.2.2.2.2.2⟩
        · subst h2
          have hb : ((xn : Int) == nlo) = false := beq_eq_false_iff_ne.2 h3
          have HE2 := hid (show r = false by rw [HE.out, decide_eq_false h3]; simp)
          obtain ⟨c0, ⟨c1, c2, c3, c4⟩, hN⟩ := HS.out w1 (Fr.refl _ _)
          obtain ⟨d0, d1, d2, d3, d4, d5, d6, d7, d8⟩ := blk9 hN
          clear h3
          go_enter Tryd.func83, Tryd.ntmps83
          go_wp2_with fail
          rw [HW1.out]
          go_quiet (fail)
          go_wp2_with fail
          go_ret
          exact ⟨ret_bool HE2.out.symm, HF1.out.drewN _⟩
      · have hb : (xk == 6) = false := beq_eq_false_iff_ne.2 h2
        have HE2 := hid (show r = false by rw [HE.out, decide_eq_false h2]; rfl)
        obtain ⟨c0, ⟨c1, c2, c3, c4⟩, hN⟩ := HS.out w1 (Fr.refl _ _)
        obtain ⟨d0, d1, d2, d3, d4, d5, d6, d7, d8⟩ := blk9 hN
        go_enter Tryd.func83, Tryd.ntmps83
        go_wp2_with fail
        rw [HW1.out]
        go_quiet (fail)
        go_wp2_with fail
        go_ret
        exact ⟨ret_bool HE2.out.symm, HF1.out.drewN _⟩
    case inr.inr.inr.inr.inr.inr.inr.inr.inr.inr =>
      have HE := hid (show r = l.any (fun j => isV ns j.toNat (.mk xk xn xs xl)) by rw [HEQ.out, one10 rfl])
      obtain ⟨c0, ⟨c1, c2, c3, c4⟩, _⟩ := HS.out w1 (Fr.refl _ _)
      go_enter Tryd.func83, Tryd.ntmps83
      go_wp2_with fail
      rw [HW1.out]
      refine (cont4_calls w1 Al x7 cl l (some ad) M c w.heap.size (w.heap.size + 1) _ _ _ _ (fun j => isV ns j.toNat (.mk xk xn xs xl)) HX7.out hll (by omega) (HR.out.l.fr0 HF1.out) c0 c1 c2 c3 c4
        (fun w' hf k hk => HKD.out w' (HF1.out.trans hf) k (by
          simp only [Nod.named, List.mem_append]
          exact Or.inl hk) _ HGX.out HXS.out _ (HAT.out.fr0 (HF1.out.trans hf) HHS.out))).mono ?_
      rintro e w3 ⟨rfl, hf⟩
      have HF3 := hid hf
      rw [← HE.out]
      clear hf
      go_wp2_with fail
      go_ret
      exact ⟨rfl, HF1.out.trans HF3.out⟩
end Go.Proofs.YtkmgiodhaaajjaaDoor.DenF
