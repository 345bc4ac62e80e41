/- Layer item: the document's list of all items. -/
import Derived.Test.YtkmgiodhaaajjaaDoorItemB
import Derived.Test.YtkmgiodhaaajjaaDoorRange
set_option linter.unusedVariables false
set_option linter.unusedSimpArgs false
namespace Go.Proofs.YtkmgiodhaaajjaaDoor.ItemT
open Go.IntWalk Go.RowKit Go.Proofs.YtkmgiodhaaajjaaDoor.Mem Go.Proofs.YtkmgiodhaaajjaaDoor.App Go.Proofs.YtkmgiodhaaajjaaDoor.ItemP Go.Proofs.YtkmgiodhaaajjaaDoor.ItemM Go.Proofs.YtkmgiodhaaajjaaDoor.Own Go.Proofs.YtkmgiodhaaajjaaDoor.ItemA Go.Proofs.YtkmgiodhaaajjaaDoor.ItemB Go.Proofs.YtkmgiodhaaajjaaDoor.Range

theorem infoItem : (Tryd.prog.info? 25).map (fun i => (i.zero, i.size, i.bytes)) = some (some (.agg #[.int .i64 0, .int .u64 0, .string ByteArray.empty, .slice none 0 0]), 4, 56) := by kernel_rfl
theorem infoInt : (Tryd.prog.info? 3).map (fun i => (i.zero, i.size, i.bytes)) = some (some (.int .i64 0), 1, 8) := by kernel_rfl

section
variable {w0 : World} {lo hi M : Nat}
/-- The cells of items; their depths. -/
def vcs (ys : List (Vis w0 lo hi M)) : List Value := ys.flatMap fun v => v.1.2.2
def vds (ys : List (Vis w0 lo hi M)) : List Int := ys.map fun v => (v.1.2.1 : Int)
theorem vcs_append (a b : List (Vis w0 lo hi M)) : vcs (a ++ b) = vcs a ++ vcs b := by simp [vcs]
theorem vds_append (a b : List (Vis w0 lo hi M)) : vds (a ++ b) = vds a ++ vds b := by simp [vds]
theorem vds_length (a : List (Vis w0 lo hi M)) : (vds a).length = a.length := by simp [vds]
theorem vis_form (v : Vis w0 lo hi M) : ∃ A c, v.1.2.2 = [.int .i64 v.1.1.k, .int .u64 v.1.1.n, .string v.1.1.s, .slice A v.1.1.l.length c] := by
  have h := v.2.1
  generalize v.1.1 = x at h ⊢
  obtain ⟨k, n, s, l⟩ := x
  obtain ⟨A, c, h1, _⟩ := h
  exact ⟨A, c, h1⟩
theorem vcs_length (a : List (Vis w0 lo hi M)) : (vcs a).length = a.length * 4 := by
  induction a with
  | nil => rfl
  | cons v a ih =>
    obtain ⟨A, c, h⟩ := vis_form v
    have e : vcs (v :: a) = v.1.2.2 ++ vcs a := by simp [vcs]
    rw [e, List.length_append, ih, h]
    simp
    omega
theorem vcs_one (a : List (Vis w0 lo hi M)) : ∀ u ∈ vcs a, u.oneCell' = true := by
  intro u hu
  obtain ⟨v, hv, h⟩ := List.mem_flatMap.1 hu
  obtain ⟨A, c, e⟩ := vis_form v
  rw [e] at h
  simp at h
  rcases h with rfl | rfl | rfl | rfl <;> rfl
theorem vcs_get (a : List (Vis w0 lo hi M)) (j : Nat) (h : j < a.length) (m : Nat) (hm : m < 4) : (vcs a)[j * 4 + m]? = (a[j]).1.2.2[m]? := by
  induction a generalizing j with
  | nil => simp at h
  | cons v a ih =>
    obtain ⟨A, c, e⟩ := vis_form v
    have e4 : v.1.2.2.length = 4 := by rw [e]; rfl
    have e1 : vcs (v :: a) = v.1.2.2 ++ vcs a := by simp [vcs]
    cases j with
    | zero => rw [e1, List.getElem?_append_left (by omega)]; simp
    | succ j =>
      rw [e1, List.getElem?_append_right (by omega), e4, show (j + 1) * 4 + m - 4 = j * 4 + m by omega, ih j (by simpa using h)]
      rfl
end
theorem own_ne {e sz : Nat} {w : World} {b : Nat} {v : Value} {n : Nat} {cs : List Value} {e' sz' b' : Nat} {v' : Value} {n' : Nat} {cs' : List Value} (h : w.ownsRow b e sz v n cs) (h' : w.ownsRow b' e' sz' v' n' cs') (hne : e ≠ e') : ∀ g, v'.ownBlock = some g → v.ownBlock ≠ some g := by
  intro g hg hv
  rcases h.2 with ⟨rfl, _⟩ | ⟨g1, c1, cur1, rfl, _, hg1, _⟩
  · cases hv
  rcases h'.2 with ⟨rfl, _⟩ | ⟨g2, c2, cur2, rfl, _, hg2, _⟩
  · cases hg
  have e1 : g1 = g := Option.some.inj hv
  have e2 : g2 = g := Option.some.inj hg
  subst e1 e2
  rw [hg1] at hg2
  injection hg2 with hg2
  injection hg2 with _ ht
  exact hne ht

set_option maxRecDepth 100000 in
set_option maxHeartbeats 4000000 in
theorem items_calls (w0 : World) (lo hi M : Nat) (hM : M ≤ 2000000) (N : Nat) : ∀ (x : It), x.size ≤ N → x.size ≤ M → ∀ (d : Nat), d + x.size ≤ 4000000 → ∀ (cs : List Value) (w : World), Fr (fun _ => False) w0 w → hi ≤ w0.heap.size → ItAt w0 lo hi x cs →
    Calls Tryd.prog 16 #[.agg cs.toArray, .int .i64 d] w fun e w' => ∃ (ys : List (Vis w0 lo hi M)) (A : Option Addr) (c : Nat) (A' : Option Addr) (c' : Nat), e = .returned (.tuple #[.slice A ys.length c, .slice A' ys.length c']) ∧ prs ys = x.all d ∧
      OwnG 25 4 w' w.heap.size (.slice A ys.length c) ys.length (vcs ys) ∧ App.Own .i64 3 w' w.heap.size (.slice A' ys.length c') (vds ys) ∧ Fr (fun _ => False) w w' := by
  induction N with
  | zero => intro x hx; have := size_pos x; omega
  | succ N ih =>
    intro x hx hxM d hd cs w hf0 hh hi_
    obtain ⟨v, hv⟩ : ∃ v : Vis w0 lo hi M, v.1 = (x, d, cs) := ⟨vis x d cs hi_ hxM, rfl⟩
    obtain ⟨k, n, s, l⟩ := x
    obtain ⟨A, c, rfl, hc, hk, hn, hs, hl, hL⟩ := hi_
    have HIH := hid ih
    have HSZ := hid hx
    have HXM := hid hxM
    have HDZ := hid hd
    have HLB := hid (sizes_length l)
    have hl2 : l.length ≤ 2000000 := by have h1 := HXM.out; have h2 := HLB.out; simp only [It.size] at h1; omega
    have hd2 : d ≤ 4000000 := by omega
    obtain ⟨m, hm⟩ : ∃ m, l.length = m := ⟨_, rfl⟩
    have HM := hid hm
    have HL := hid hL
    have HF0 := hid hf0
    have HQ := hid (show prs [v] = [(It.mk k n s l, d)] by unfold prs; simp [hv])
    rw [hm] at hc hl2 hv ⊢
    have HVC := hid (show vcs [v] = [.int .i64 k, .int .u64 n, .string s, .slice A m c] by unfold vcs; simp [hv])
    have HVD := hid (show vds [v] = [(d : Int)] by unfold vds; simp [hv])
    clear ih hx hL hm hk hn hs hl hf0 hd hxM hv
    obtain ⟨w1, hw1⟩ : ∃ w1, w.alloc (.cells #[.int .i64 k, .int .u64 n, .string s, .slice A m c] 25) = w1 := ⟨_, rfl⟩
    have HF1 := hid (show Fr (fun _ => False) w w1 by rw [← hw1]; exact (Fr.refl _ w).alloc _)
    have HB1 := hid (show Blk w1 w.heap.size 25 #[.int .i64 k, .int .u64 n, .string s, .slice A m c] by rw [← hw1]; exact Blk.new w _ _)
    have HW1 := hid hw1
    have c0 := HB1.out.cell 0
    have c1 := HB1.out.cell 1
    have c2 := HB1.out.cell 2
    have c3 := HB1.out.cell 3
    simp at c0 c1 c2 c3
    clear hw1
    go_enter Tryd.func16, Tryd.ntmps16
    go_wp2_with fail
    rw [HW1.out]
    go_wp2_with fail
    have HX1 := hid (Blk.new w1 25 #[.int .i64 k, .int .u64 n, .string s, .slice A m c])
    have HX2 := hid (Blk.new (w1.alloc (.cells #[.int .i64 k, .int .u64 n, .string s, .slice A m c] 25)) 3 #[.int .i64 d])
    have hz1 : w1.heap.size = w.heap.size + 1 := by rw [← HW1.out]; simp
    have HZ1 := hid hz1
    clear hz1
    have HO1 := hid (show OwnG 25 4 ((w1.alloc (.cells #[.int .i64 k, .int .u64 n, .string s, .slice A m c] 25)).alloc (.cells #[.int .i64 d] 3)) w1.heap.size (.slice (some ⟨w.heap.size + 1, 0, none⟩) 1 1) 1 (vcs [v]) by
      rw [HVC.out, ← HZ1.out]
      exact OwnG.blk (sz := 4) (n := 1) (HX1.out.alloc _) (Nat.le_refl _) rfl (by simp [maxLen]))
    have HO2 := hid (show App.Own .i64 3 ((w1.alloc (.cells #[.int .i64 k, .int .u64 n, .string s, .slice A m c] 25)).alloc (.cells #[.int .i64 d] 3)) w1.heap.size (.slice (some ⟨w.heap.size + 1 + 1, 0, none⟩) 1 1) (vds [v]) by
      rw [HVD.out, ← HZ1.out]
      have hv := HX2.out
      rw [World.size_alloc] at hv
      exact Own.vec (k := .i64) (t := 3) (xs := [(d : Int)]) hv (by omega) (by simp [maxLen]))
    go_loopw [6, 7, 8] (fun vL vD i wr => ∃ (j : Nat) (ys : List (Vis w0 lo hi M)) (A1 : Option Addr) (c1 : Nat) (A2 : Option Addr) (c2 q : Nat), j ≤ m ∧ i = .int .i64 j ∧ Hid (ys.length = q) ∧ q ≤ 2000000 ∧ vL = .slice A1 q c1 ∧ vD = .slice A2 q c2 ∧ Hid (prs ys = (It.mk k n s l, d) :: alls (l.take j) (d + 1)) ∧
      Hid (OwnG 25 4 wr w1.heap.size (.slice A1 q c1) q (vcs ys)) ∧ Hid (App.Own .i64 3 wr w1.heap.size (.slice A2 q c2) (vds ys)) ∧ Hid (Fr (fun _ => False) w1 wr)) (fun _ _ i _ => m - (intOf i).toNat)
    case atStart => exact ⟨0, [v], _, 1, _, 1, 1, Nat.zero_le _, rfl, hid rfl, by omega, rfl, rfl, hid (by rw [HQ.out]; rfl), HO1, HO2, hid (((Fr.refl _ w1).alloc _).alloc _)⟩
    case round =>
      obtain ⟨j, ys, A1, c1', A2, c2', q, hj, rfl, HYQ, hq2, rfl, rfl, HPR, HOL, HOD, HF⟩ := hrel
      have e0 := cell_fr c0 HF.out
      have e1 := cell_fr c1 HF.out
      have e2 := cell_fr c2 HF.out
      have e3 := cell_fr c3 HF.out
      clear c0 c1 c2 c3
      by_cases hlt : j < m
      · obtain ⟨ad, k', n', s', l', A', c', rfl, _, hab, hx', b0, b1, b2, b3, hch⟩ := ItsAt.kid HL.out j (by rw [HM.out]; exact hlt)
        have HFA := hid ((HF0.out.trans HF1.out).trans HF.out)
        have g0 := cell_fr b0 HFA.out
        have g1 := cell_fr b1 HFA.out
        have g2 := cell_fr b2 HFA.out
        have g3 := cell_fr b3 HFA.out
        have HCH := hid hch
        have HAS := hid (alls_take_succ l j (d + 1) (by rw [HM.out]; exact hlt))
        have HGZ := hid (size_get k n s l j (by rw [HM.out]; exact hlt))
        have HTZ := hid (sizes_take_succ l j (by rw [HM.out]; exact hlt))
        have HTL := hid (sizes_take_le l (j + 1))
        rw [hx'] at HAS HGZ HTZ
        have hj0 : (0 : Int) ≤ (j : Int) := by omega
        have hjm : (j : Int) < (m : Int) := by omega
        have hjc : (j : Int) < (c : Int) := by omega
        have HB32 := hid (show q + 1 ≤ 2000000 + 1 by omega)
        clear hch hx' b0 b1 b2 b3
        go_wp2_with fail
        rw [show (d : Int) + 1 = ((d + 1 : Nat) : Int) by omega]
        refine (HIH.out (.mk k' n' s' l') (by have h1 := HGZ.out; have h2 := HSZ.out; omega) (by have h1 := HGZ.out; have h2 := HXM.out; omega) (d + 1) (by have h1 := HGZ.out; have h2 := HDZ.out; omega) _ wr HFA.out hh HCH.out).mono ?_
        rintro e w4 ⟨ys2, A3, c3', A4, c4', rfl, hp2, hL2, hD2, hf2⟩
        obtain ⟨q2, hq2'⟩ : ∃ q2, ys2.length = q2 := ⟨_, rfl⟩
        rw [hq2'] at hL2 hD2 ⊢
        have HQ2 := hid hq2'
        have HP2 := hid hp2
        have HL2 := hid hL2
        have HD2 := hid hD2
        have HF4 := hid (HF.out.then_ hf2 (fun _ _ h => h))
        have HLw := hid (OwnG.fr0 HOL.out hf2)
        have HDw := hid (App.Own.fr HOD.out hf2 (fun _ _ h => h))
        have HWW := hid hf2.size
        have hqq : q + q2 ≤ 2000000 := by
          have h1 := congrArg List.length HPR.out
          have h2 := congrArg List.length hp2
          rw [prs_length, List.length_cons, alls_length, HYQ.out] at h1
          rw [prs_length, It.all_length, hq2'] at h2
          have h3 := HTZ.out
          have h4 := HTL.out
          have h5 := HXM.out
          simp only [It.size] at h5
          omega
        have f0 := cell_fr e0 hf2
        have f1 := cell_fr e1 hf2
        have f2 := cell_fr e2 hf2
        have f3 := cell_fr e3 hf2
        clear hq2' hp2 hL2 hD2 hf2 g0 g1 g2 g3 e0 e1 e2 e3
        go_wp2_with (first
          | (refine wpList_appG rfl (.tmp 33) (.tmp 34) 23 rfl _ 56 Tryd.underlying23 infoItem rfl (by decide) (.slice A1 q c1') q (vcs ys) rfl HLw.out A3 q2 c3' rfl (vcs ys2) (by rw [vcs_length, HQ2.out]) (vcs_one _) HL2.out.rd.1 (by omega) HF4.out.size ?_; intro v5 w5 h5; have HD5 := hid (App.Own.fr HDw.out h5.out.fr (own_ne HLw.out HDw.out (by decide))); have HR5 := hid ((HD2.out.rd.1).fr h5.out.fr (fun ad e _ hb => own_ne HLw.out HD2.out (by decide) ad.block (by rw [e]; rfl) hb)); have HF5 := hid (h5.out.fr0 HLw.out HF4.out (Nat.le_refl _)); have HL5 := hid h5.out.own; obtain ⟨A5, c5, rfl, _⟩ := h5.out.own.form; clear h5)
          | (refine wpList_app rfl (.tmp 36) (.tmp 37) 28 rfl 8 Tryd.underlying28 infoInt (.slice A2 q c2') (vds ys) rfl HD5.out A4 q2 c4' rfl (vds ys2) (by rw [vds_length, HQ2.out]) HR5.out (by rw [vds_length, HYQ.out]; omega) HF5.out.size ?_; intro v6 w6 h6; have HD6 := hid h6.out.own; have HL6 := hid (OwnG.fr HL5.out h6.out.fr (own_ne HD5.out HL5.out (by decide))); have HF6 := hid (h6.out.fr0 HD5.out HF5.out (Nat.le_refl _)); obtain ⟨A6, c6, rfl, _⟩ := h6.out.own.form; clear h6))
        go_roundw
        case rel => exact ⟨j + 1, ys ++ ys2, A5, c5, A6, c6, q + q2, by omega, by go_num, hid (by rw [List.length_append, HYQ.out, HQ2.out]), hqq, rfl, by rw [vds_length, vds_length, HYQ.out, HQ2.out], hid (by rw [prs_append, HPR.out, HP2.out, HAS.out]; rfl), hid (by rw [vcs_append]; exact HL6.out), hid (by have h := HD6.out; rw [List.length_append, vds_length, vds_length, HYQ.out, HQ2.out] at h; rw [vds_append]; exact h), HF6⟩
        case measure => simp [intOf]; omega
      · obtain rfl : j = m := by omega
        go_wp2_with fail
        go_ret2
        refine ⟨ys, A1, c1', A2, c2', by rw [HYQ.out]; rfl, ?_, ?_, by rw [HYQ.out]; exact App.Own.mono HOD.out (show w.heap.size ≤ w1.heap.size by rw [HZ1.out]; omega), HF1.out.then_ HF.out (fun _ _ h => h)⟩
        · rw [HPR.out, List.take_of_length_le (by rw [HM.out]; omega), It.all]
        · rw [HYQ.out]
          exact OwnG.mono HOL.out (show w.heap.size ≤ w1.heap.size by rw [HZ1.out]; omega)
end Go.Proofs.YtkmgiodhaaajjaaDoor.ItemT
