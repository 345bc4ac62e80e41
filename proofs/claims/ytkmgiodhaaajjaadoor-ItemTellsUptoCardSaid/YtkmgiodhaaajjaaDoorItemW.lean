/- Layer item: the document's word: joined; whether an item may be. -/
import Derived.Test.YtkmgiodhaaajjaaDoorItemVv
import Derived.Test.YtkmgiodhaaajjaaDoorItemS
set_option linter.unusedVariables false
set_option linter.unusedSimpArgs false
namespace Go.Proofs.YtkmgiodhaaajjaaDoor.ItemW
open Go.IntWalk Go.RowKit Go.Proofs.YtkmgiodhaaajjaaDoor.Mem Go.Proofs.YtkmgiodhaaajjaaDoor.App Go.Proofs.YtkmgiodhaaajjaaDoor.ItemP Go.Proofs.YtkmgiodhaaajjaaDoor.ItemM Go.Proofs.YtkmgiodhaaajjaaDoor.Own Go.Proofs.YtkmgiodhaaajjaaDoor.ItemA Go.Proofs.YtkmgiodhaaajjaaDoor.ItemB Go.Proofs.YtkmgiodhaaajjaaDoor.Range Go.Proofs.YtkmgiodhaaajjaaDoor.ItemT Go.Proofs.YtkmgiodhaaajjaaDoor.ItemU Go.Proofs.YtkmgiodhaaajjaaDoor.ItemV Go.Proofs.YtkmgiodhaaajjaaDoor.ItemVn Go.Proofs.YtkmgiodhaaajjaaDoor.ItemV3 Go.Proofs.YtkmgiodhaaajjaaDoor.ItemV5 Go.Proofs.YtkmgiodhaaajjaaDoor.ItemV8 Go.Proofs.YtkmgiodhaaajjaaDoor.ItemS

theorem refwrong_calls (x : It) (hx : x.size ≤ 2000000) (lo hi : Nat) (cs : List Value) (w : World) (hh : hi ≤ w.heap.size) (h : ItAt w lo hi x cs) :
    Calls Tryd.prog 73 #[.agg cs.toArray] w fun e w' => e = .returned (.int .i64 x.wrong) ∧ Fr (fun _ => False) w w' := by
  obtain ⟨k, n, s, l⟩ := x
  have hk : k = 0 ∨ k = 1 ∨ k = 2 ∨ k = 3 ∨ k = 4 ∨ k = 5 ∨ k = 6 ∨ k = 7 ∨ k = 8 ∨ (k < 0 ∨ 8 < k) := by omega
  rcases hk with rfl | rfl | rfl | rfl | rfl | rfl | rfl | rfl | rfl | hk
  · exact wr_0 n s l hx lo hi cs w hh h
  · exact wr_1 n s l hx lo hi cs w hh h
  · exact wr_2 n s l hx lo hi cs w hh h
  · exact wr_3 n s l hx lo hi cs w hh h
  · exact wr_4 n s l hx lo hi cs w hh h
  · exact wr_5 n s l hx lo hi cs w hh h
  · exact wr_6 n s l hx lo hi cs w hh h
  · exact wr_7 n s l hx lo hi cs w hh h
  · exact wr_8 n s l hx lo hi cs w hh h
  · exact wr_n k hk n s l hx lo hi cs w hh h

/-- The j-th of a row of items. -/
theorem own_vis {w0 w : World} {lo hi M base q c : Nat} {A : Option Addr} {ys : List (Vis w0 lo hi M)} (h : OwnG 25 4 w base (.slice A q c) q (vcs ys)) (j : Nat) (hj : j < ys.length) :
    ∃ (ad : Addr) (k : Int) (n : Nat) (s : ByteArray) (l' : List It) (A' : Option Addr) (c' : Nat), A = some ad ∧ ad.block < w.heap.size ∧ (ys[j]).1.1 = .mk k n s l' ∧ (ys[j]).1.2.2 = [.int .i64 k, .int .u64 n, .string s, .slice A' l'.length c'] ∧
      w.cell? (ad.add (j * 4)) = some (.int .i64 k) ∧ w.cell? ⟨(ad.add (j * 4)).block, (ad.add (j * 4)).off + 1, none⟩ = some (.int .u64 n) ∧ w.cell? ⟨(ad.add (j * 4)).block, (ad.add (j * 4)).off + 2, none⟩ = some (.string s) ∧ w.cell? ⟨(ad.add (j * 4)).block, (ad.add (j * 4)).off + 3, none⟩ = some (.slice A' l'.length c') := by
  obtain ⟨A', c', hf⟩ := vis_form ys[j]
  have hR := h.rd.1
  have hg : ∀ m (hm : m < 4) u, (ys[j]).1.2.2[m]? = some u → ∃ ad, A = some ad ∧ ad.block < w.heap.size ∧ w.cell? (ad.add (j * 4 + m)) = some u := fun m hm u hu => hR _ u (by rw [vcs_get ys j hj m hm]; exact hu)
  rw [hf] at hg
  obtain ⟨ad, hA, hb, h0⟩ := hg 0 (by omega) _ rfl
  obtain ⟨ad1, hA1, _, h1⟩ := hg 1 (by omega) _ rfl
  obtain ⟨ad2, hA2, _, h2⟩ := hg 2 (by omega) _ rfl
  obtain ⟨ad3, hA3, _, h3⟩ := hg 3 (by omega) _ rfl
  obtain rfl : ad = ad1 := Option.some.inj (hA.symm.trans hA1)
  obtain rfl : ad = ad2 := Option.some.inj (hA.symm.trans hA2)
  obtain rfl : ad = ad3 := Option.some.inj (hA.symm.trans hA3)
  exact ⟨ad, (ys[j]).1.1.k, (ys[j]).1.1.n, (ys[j]).1.1.s, (ys[j]).1.1.l, A', c', hA, hb, It.eta _, hf, h0, (add_lit ad _ 1 (by omega)) ▸ h1, (add_lit ad _ 2 (by omega)) ▸ h2, (add_lit ad _ 3 (by omega)) ▸ h3⟩

set_option maxRecDepth 100000 in
set_option maxHeartbeats 4000000 in
theorem refcheck_calls (x : It) (hx : x.size ≤ 2000000) (lo hi : Nat) (cs : List Value) (w : World) (hh : hi ≤ w.heap.size) (hi_ : ItAt w lo hi x cs) :
    Calls Tryd.prog 22 #[.agg cs.toArray] w fun e w' => e = .returned (.int .i64 x.check) ∧ Fr (fun _ => False) w w' := by
  have HAT := hid hi_
  have HXZ := hid hx
  obtain ⟨xx, hxx⟩ : ∃ xx, xx = x := ⟨_, rfl⟩
  rw [← hxx] at HAT HXZ ⊢
  obtain ⟨k, n, s, l⟩ := x
  obtain ⟨A, c, rfl, hc, hk, hn, hs, hl, hL⟩ := hi_
  obtain ⟨m, hm⟩ : ∃ m, l.length = m := ⟨_, rfl⟩
  rw [hm] at HAT ⊢
  obtain ⟨r, hr⟩ : ∃ r, xx.check = r := ⟨_, rfl⟩
  have HR := hid hr
  rw [hr]
  obtain ⟨w1, hw1⟩ : ∃ w1, w.alloc (.cells #[.int .i64 k, .int .u64 n, .string s, .slice A m c] 25) = w1 := ⟨_, rfl⟩
  have HF1 := hid (show Fr (fun _ => False) w w1 by rw [← hw1]; exact (Fr.refl _ w).alloc _)
  have HB1 := hid (show Blk w1 w.heap.size 25 #[.int .i64 k, .int .u64 n, .string s, .slice A m c] by rw [← hw1]; exact Blk.new w _ _)
  have HW1 := hid hw1
  have HSL := hid hh
  have c0 := HB1.out.cell 0
  have c1 := HB1.out.cell 1
  have c2 := HB1.out.cell 2
  have c3 := HB1.out.cell 3
  simp at c0 c1 c2 c3
  clear hw1 hh hx hxx hk hn hs hl hL hm hc hr
  go_enter Tryd.func22, Tryd.ntmps22
  go_wp2_with fail
  rw [HW1.out]
  go_wp2_with fail
  refine (refdepth_calls xx HXZ.out lo hi _ w1 (Nat.le_trans HSL.out HF1.out.size) (HAT.out.fr0 HF1.out HSL.out)).mono ?_
  rintro e w4 ⟨rfl, hf⟩
  have HF4 := hid (HF1.out.then_ hf (fun _ _ h => h))
  have e0 := cell_fr c0 hf
  have e1 := cell_fr c1 hf
  have e2 := cell_fr c2 hf
  have e3 := cell_fr c3 hf
  obtain ⟨dp, hdp⟩ : ∃ dp, xx.depth = dp := ⟨_, rfl⟩
  have HDP := hid hdp
  rw [hdp]
  clear hf c0 c1 c2 c3 hdp
  by_cases hd : 64 < dp
  · have HRE := hid (show r = 3 by rw [← HR.out, It.check, if_pos (by rw [HDP.out]; exact hd)])
    have hd' : (64 : Int) < (dp : Int) := by omega
    go_wp2_with fail
    go_ret
    exact ⟨by rw [HRE.out]; rfl, HF4.out⟩
  have HRE := hid (show r = firstW (xx.all 1) by rw [← HR.out, It.check, if_neg (by rw [HDP.out]; exact hd)])
  have hd' : ¬ (64 : Int) < (dp : Int) := by omega
  go_wp2_with fail
  refine (items_calls w lo hi 2000000 (Nat.le_refl _) 2000000 xx HXZ.out HXZ.out 1 (by have := HXZ.out; omega) _ w4 HF4.out HSL.out HAT.out).mono ?_
  rintro e w5 ⟨ys, A3, c3', A4, c4', rfl, hp, hO, _, hf⟩
  have HF5 := hid (HF4.out.then_ hf (fun _ _ h => h))
  obtain ⟨q, hq⟩ : ∃ q, ys.length = q := ⟨_, rfl⟩
  rw [hq] at hO ⊢
  have HQ := hid hq
  have HP := hid hp
  have HO := hid hO
  have hcp : q ≤ c3' := by
    obtain ⟨A', c', h1, h2, _⟩ := hO.form
    injection h1 with _ h1 h3
    subst h3
    omega
  have hqz : q ≤ 2000000 := by
    have h1 := congrArg List.length hp
    rw [prs_length, It.all_length, hq] at h1
    rw [h1]
    exact HXZ.out
  clear hf e0 e1 e2 e3 hq hp hO hd hd'
  go_wp2_with fail
  go_loopw [5] (fun i wr => ∃ (j : Nat), j ≤ q ∧ i = .int .i64 j ∧ Hid (∀ y ∈ (xx.all 1).take j, y.1.wrong = 0) ∧ Hid (Fr (fun _ => False) w5 wr)) (fun i _ => q - (intOf i).toNat)
  case atStart => exact ⟨0, Nat.zero_le _, rfl, hid (fun y hy => by simp at hy), hid (Fr.refl _ _)⟩
  case round =>
    obtain ⟨j, hj, rfl, HZ, HF⟩ := hrel
    by_cases hlt : j < q
    · have hlt2 : j < ys.length := by rw [HQ.out]; exact hlt
      obtain ⟨ad, k', n', s', l', A', c', rfl, hab, hx', hcs, c0, c1, c2, c3⟩ := own_vis (OwnG.fr0 HO.out HF.out) j hlt2
      have hlt3 : j < (xx.all 1).length := by rw [← HP.out, prs_length]; exact hlt2
      have hyy : ((xx.all 1)[j]).1 = .mk k' n' s' l' := by
        rw [← hx']
        have h := HP.out
        have h2 : (prs ys)[j]? = (xx.all 1)[j]? := by rw [h]
        rw [List.getElem?_eq_getElem hlt3, prs, List.getElem?_map, List.getElem?_eq_getElem hlt2] at h2
        exact (congrArg Prod.fst (Option.some.inj h2)).symm
      have hv := ys[j].2.1
      have hvz := ys[j].2.2
      rw [hx', hcs] at hv
      rw [hx'] at hvz
      obtain ⟨e', he'⟩ : ∃ e', (It.mk k' n' s' l').wrong = e' := ⟨_, rfl⟩
      have HW := hid he'
      have HFA := hid (HF5.out.trans HF.out)
      have HC := hid (refwrong_calls _ hvz lo hi _ wr (Nat.le_trans HSL.out HFA.out.size) (hv.fr0 HFA.out HSL.out))
      rw [he'] at HC
      have HTK := hid (List.take_succ_eq_append_getElem hlt3)
      have HSP := hid (show xx.all 1 = (xx.all 1).take j ++ ((xx.all 1)[j] :: (xx.all 1).drop (j + 1)) by rw [← List.drop_eq_getElem_cons hlt3, List.take_append_drop])
      have HYY := hid hyy
      have hj0 : (0 : Int) ≤ (j : Int) := by omega
      have hjq : (j : Int) < (q : Int) := by omega
      have hjc : (j : Int) < (c3' : Int) := by omega
      clear hv hvz he' hyy hx' hcs
      go_wp2_with fail
      refine HC.out.mono ?_
      rintro e w6 ⟨rfl, hf⟩
      have HF6 := hid (HF.out.then_ hf (fun _ _ h => h))
      clear hf c0 c1 c2 c3
      by_cases he : e' = 0
      · have he1 : (e' != 0) = false := by rw [he]; rfl
        have HEE := hid he
        clear he
        go_wp2_with fail
        go_roundw
        case rel => exact ⟨j + 1, by omega, by go_num, hid (fun y hy => by
          rw [HTK.out] at hy
          rcases List.mem_append.1 hy with h | h
          · exact HZ.out y h
          · obtain rfl := List.mem_singleton.1 h
            rw [HYY.out, HW.out, HEE.out]), HF6⟩
        case measure => simp [intOf]; omega
      · have he1 : (e' != 0) = true := bne_iff_ne.2 he
        have HEE := hid he
        clear he
        go_wp2_with fail
        go_ret
        refine ⟨?_, HF5.out.then_ HF6.out (fun _ _ h => h)⟩
        rw [HRE.out, HSP.out, firstW_append_zero _ _ HZ.out, firstW, if_pos (by rw [HYY.out, HW.out]; exact HEE.out), HYY.out, HW.out]
        rfl
    · go_wp2_with fail
      go_ret
      refine ⟨?_, HF5.out.then_ HF.out (fun _ _ h => h)⟩
      have h1 : (xx.all 1).length = q := by rw [← HP.out, prs_length, HQ.out]
      have h2 := HZ.out
      rw [List.take_of_length_le (by omega)] at h2
      have h3 := firstW_append_zero (xx.all 1) [] h2
      rw [List.append_nil] at h3
      rw [HRE.out, h3]
      rfl
end Go.Proofs.YtkmgiodhaaajjaaDoor.ItemW
