/- Layer denote: the law DenoteMatches. Layer denote: the law DenoteMatches, over a row's lists. -/
import Derived.Test.YtkmgiodhaaajjaaDoorDenSs
import Derived.Test.YtkmgiodhaaajjaaDoorDenY
import Derived.Test.YtkmgiodhaaajjaaDoorItemW
import Derived.Test.YtkmgiodhaaajjaaDoorSchR
import Derived.Test.YtkmgiodhaaajjaaDoorDbl
import Derived.Deep.RegionHeld3
import Derived.Test.YtkmgiodhaaajjaaDoorRowItem
import Derived.Test.YtkmgiodhaaajjaaDoorRowSch
set_option linter.unusedVariables false
set_option linter.unusedSimpArgs false
namespace Go.Proofs.YtkmgiodhaaajjaaDoor.DenM
open Go.IntWalk Go.RowKit Go.Proofs.YtkmgiodhaaajjaaDoor.Mem Go.Proofs.YtkmgiodhaaajjaaDoor.App Go.Proofs.YtkmgiodhaaajjaaDoor.FloatB Go.Proofs.YtkmgiodhaaajjaaDoor.ItemP Go.Proofs.YtkmgiodhaaajjaaDoor.ItemM Go.Proofs.YtkmgiodhaaajjaaDoor.ItemB Go.Proofs.YtkmgiodhaaajjaaDoor.ItemT Go.Proofs.YtkmgiodhaaajjaaDoor.ItemU Go.Proofs.YtkmgiodhaaajjaaDoor.ItemW Go.Proofs.YtkmgiodhaaajjaaDoor.SchP Go.Proofs.YtkmgiodhaaajjaaDoor.SchM Go.Proofs.YtkmgiodhaaajjaaDoor.SchG Go.Proofs.YtkmgiodhaaajjaaDoor.SchI Go.Proofs.YtkmgiodhaaajjaaDoor.SchJ Go.Proofs.YtkmgiodhaaajjaaDoor.SchO Go.Proofs.YtkmgiodhaaajjaaDoor.SchR Go.Proofs.YtkmgiodhaaajjaaDoor.SchA Go.Proofs.YtkmgiodhaaajjaaDoor.DenP Go.Proofs.YtkmgiodhaaajjaaDoor.DenA Go.Proofs.YtkmgiodhaaajjaaDoor.DenG Go.Proofs.YtkmgiodhaaajjaaDoor.DenH Go.Proofs.YtkmgiodhaaajjaaDoor.DenS

set_option maxRecDepth 20000 in
set_option maxHeartbeats 2000000 in
/-- The document's Ints. -/
theorem rints_calls (A B : Option Addr) (n m c d : Nat) (xs ys : List Int) (w : World) (hn : xs.length = n) (hm : ys.length = m) (hc : n ≤ c) (hd : m ≤ d) (hl : n ≤ 140737488355328) (hx : RdI .i64 w A xs) (hy : RdI .i64 w B ys) :
    Calls Tryd.prog 33 #[.slice A n c, .slice B m d] w fun e w' => e = .returned (.bool (decide (xs = ys))) ∧ Fr (fun _ => False) w w' := by
  have HN := hid hn
  have HM := hid hm
  have HX := hid hx
  have HY := hid hy
  clear hn hm hx hy
  by_cases hnm : n = m
  · subst hnm
    go_enter Tryd.func33, Tryd.ntmps33
    go_wp2_with fail
    go_loopw [5] (fun i wr => ∃ j : Nat, j ≤ n ∧ i = .int .i64 j ∧ Hid (∀ i, i < j → xs.getD i 0 = ys.getD i 0) ∧ Hid (Fr (fun _ => False) w wr)) (fun i _ => n - (intOf i).toNat)
    case atStart => exact ⟨0, Nat.zero_le _, rfl, hid (fun i hi => by omega), hid (Fr.refl _ _)⟩
    case round =>
      obtain ⟨j, hj, rfl, HA, HF⟩ := hrel
      by_cases hlt : j < n
      · obtain ⟨ax, rfl, _, cx⟩ := HX.out.fr0 HF.out j (by rw [HN.out]; exact hlt)
        obtain ⟨ay, rfl, _, cy⟩ := HY.out.fr0 HF.out j (by rw [HM.out]; exact hlt)
        obtain ⟨x, hx⟩ : ∃ x, xs.getD j 0 = x := ⟨_, rfl⟩
        obtain ⟨y, hy⟩ : ∃ y, ys.getD j 0 = y := ⟨_, rfl⟩
        rw [hx] at cx
        rw [hy] at cy
        have HXE := hid hx
        have HYE := hid hy
        have hj0 : (0 : Int) ≤ (j : Int) := by omega
        have hjm : (j : Int) < (n : Int) := by omega
        have hjc : (j : Int) < (c : Int) := by omega
        have hjd : (j : Int) < (d : Int) := by omega
        clear hx hy
        by_cases he : x = y
        · subst he
          go_wp2_with fail
          go_quiet (fail)
          go_wp2_with fail
          go_roundw
          case rel => exact ⟨j + 1, by omega, by go_num, hid (fun i hi => by
            by_cases h : i < j
            · exact HA.out i h
            · obtain rfl : i = j := by omega
              rw [HXE.out, HYE.out]), hid (HF.out.drewN _)⟩
          case measure => simp [intOf]; omega
        · have hb : (x != y) = true := bne_iff_ne.2 he
          have HE := hid he
          clear he
          go_wp2_with fail
          go_quiet (fail)
          go_wp2_with fail
          go_ret
          refine ⟨ret_bool ?_, HF.out.drewN _⟩
          rw [decide_eq_false]
          intro h
          rw [h] at HXE
          exact HE.out (HXE.out.symm.trans HYE.out)
      · obtain rfl : j = n := by omega
        go_wp2_with fail
        go_ret
        refine ⟨ret_bool ?_, HF.out⟩
        rw [decide_eq_true]
        exact agree_ext (by rw [HN.out, HM.out]) (fun i hi => HA.out i (by rw [HN.out] at hi; exact hi))
  · have hb : ((n : Int) != (m : Int)) = true := bne_iff_ne.2 (by omega)
    have HNM := hid hnm
    clear hnm
    go_enter Tryd.func33, Tryd.ntmps33
    go_wp2_with fail
    go_ret
    refine ⟨ret_bool ?_, Fr.refl _ _⟩
    rw [decide_eq_false]
    intro h
    exact HNM.out (by rw [← HN.out, ← HM.out, h])
set_option maxRecDepth 100000 in
set_option maxHeartbeats 8000000 in
/-- More than is looked at. -/
theorem great18_calls (ns : List Nod) (A : Option Addr) (M c h : Nat) (w : World) (hM : ns.length = M) (hc : M ≤ c) (hMm : M ≤ 1048576) (H : RdN w h A ns) (x : It) (hx : x.size ≤ 2000000) (lo hi : Nat) (cs : List Value) (hh : hi ≤ w.heap.size) (hat : ItAt w lo hi x cs) :
    Calls Tryd.prog 48 #[.agg #[.slice A M c], .agg cs.toArray] w fun e w' => IsB e ∧ Fr (fun _ => False) w w' := by
  have HSG := hid (fun w' (hf : Fr (fun _ => False) w w') => sgreat_calls ns A M c h w' hM hc hMm (H.fr0 hf))
  have HIG := hid (fun w' (hf : Fr (fun _ => False) w w') => great_calls x hx lo hi cs w' (Nat.le_trans hh hf.size) (hat.fr0 hf hh))
  obtain ⟨xk, xn, xs, xl⟩ := x
  obtain ⟨Ax, cx, rfl, hxc, hxk, hxn, hxss, hxl, hL⟩ := hat
  obtain ⟨xm, hxm⟩ : ∃ m, xl.length = m := ⟨_, rfl⟩
  rw [hxm] at HIG ⊢
  clear hM H hx hh hL hxm
  obtain ⟨w1, hw1⟩ : ∃ w1, (w.alloc (.cells #[.slice A M c] 42)).alloc (.cells #[.int .i64 xk, .int .u64 xn, .string xs, .slice Ax xm cx] 25) = w1 := ⟨_, rfl⟩
  have HF1 := hid (two_box hw1).1
  have HS := hid (two_box hw1).2
  have HW1 := hid hw1
  clear hw1
  obtain ⟨c0, d0, d1, d2, d3⟩ := HS.out w1 (Fr.refl _ _)
  go_enter Tryd.func48, Tryd.ntmps48
  go_wp2_with fail
  rw [HW1.out]
  refine (HSG.out w1 HF1.out).mono ?_
  rintro e w2 ⟨⟨b, rfl⟩, hf⟩
  have HF2 := hid hf
  clear hf c0 d0 d1 d2 d3
  obtain ⟨c0, d0, d1, d2, d3⟩ := HS.out w2 HF2.out
  cases b with
  | true =>
    go_wp2_with fail
    go_ret
    exact ⟨⟨_, rfl⟩, HF1.out.trans HF2.out⟩
  | false =>
    go_wp2_with fail
    refine (HIG.out w2 (HF1.out.trans HF2.out)).mono ?_
    rintro e w3 ⟨⟨b, rfl⟩, hf⟩
    have HF3 := hid (HF2.out.then_ hf (fun _ _ h => h))
    clear hf c0 d0 d1 d2 d3
    go_wp2_with fail
    go_ret
    exact ⟨⟨_, rfl⟩, HF1.out.trans HF3.out⟩

set_option maxRecDepth 100000 in
set_option maxHeartbeats 8000000 in
theorem law_a (ns : List Nod) (A : Option Addr) (M c h : Nat) (w : World) (hD : Dbl w) (hM : ns.length = M) (hc : M ≤ c) (hMm : M ≤ 1048576) (H : RdN w h A ns) (x : It) (hx : x.size ≤ 2000000) (lo hi : Nat) (cs : List Value) (hh : hi ≤ w.heap.size) (hat : ItAt w lo hi x cs) (i : Int) (s1 s2 : Int) (hs : checkS ns = (s1, s2)) (hs2 : s2 ≠ 0) :
    Calls Tryd.prog 10 #[.agg #[.slice A M c], .agg cs.toArray, .int .i64 i] w fun e w' => e = .returned (.bool true) ∧ Fr (fun _ => False) w w' := by
  have HAW := hid (fun w' (hf : Fr (fun _ => False) w w') => DenY.awake_calls w' (hD.fr0 hf))
  have HG := hid (fun w' (hf : Fr (fun _ => False) w w') => great18_calls ns A M c h w' hM hc hMm (H.fr0 hf) x hx lo hi cs (Nat.le_trans hh hf.size) (hat.fr0 hf hh))
  have HSC := hid (fun w' (hf : Fr (fun _ => False) w w') => schema_calls ns A M c h w' (hD.fr0 hf) hM hc hMm (H.fr0 hf) x hx lo hi cs (Nat.le_trans hh hf.size) (hat.fr0 hf hh))
  have HMC := hid (fun w' (hf : Fr (fun _ => False) w w') => mat_calls ns A M c h w' (hD.fr0 hf) hM hc hMm (H.fr0 hf) i x hx lo hi cs (Nat.le_trans hh hf.size) (hat.fr0 hf hh))
  have HSE := hid (fun w' (hf : Fr (fun _ => False) w w') => set_calls ns A M c h w' (hD.fr0 hf) hM hc hMm (H.fr0 hf) x hx lo hi cs (Nat.le_trans hh hf.size) (hat.fr0 hf hh))
  have HRC := hid (fun w' (hf : Fr (fun _ => False) w w') => rcheck_calls ns A M c h w' hM hc hMm (H.fr0 hf))
  have HRX := hid (fun w' (hf : Fr (fun _ => False) w w') => refcheck_calls x hx lo hi cs w' (Nat.le_trans hh hf.size) (hat.fr0 hf hh))
  have hb : (s2 != 0) = true := bne_iff_ne.2 hs2
  have e1 : schV ns x = (false, s2) := by rw [schV, hs]; simp [hs2]
  have e2 : ∀ i, matV ns i x = false := fun i => by rw [matV, e1]; simp [hs2]
  have e3 : ∀ j, setL ns x j = [] := fun j => by
    induction j with
    | zero => rfl
    | succ j ih => rw [setL, e2, ih]; simp
  have HU := hid (show (setL ns x M).length = 0 by rw [e3]; rfl)
  obtain ⟨L, hLL⟩ : ∃ L, L = setL ns x M := ⟨_, rfl⟩
  rw [e1] at HSC
  simp only [e2] at HMC
  rw [HU.out, ← hLL] at HSE
  rw [← hLL] at HU
  rw [hs] at HRC
  clear hs hs2 e1 e2 e3 hLL

  obtain ⟨xk, xn, xs, xl⟩ := x
  obtain ⟨Ax, cx, rfl, hxc, hxk, hxn, hxss, hxl, hL⟩ := hat
  obtain ⟨xm, hxm⟩ : ∃ m, xl.length = m := ⟨_, rfl⟩
  rw [hxm] at HG HSC HMC HSE HRX ⊢
  try rw [hxm] at HRS
  obtain ⟨x, hxx⟩ : ∃ x, x = It.mk xk xn xs xl := ⟨_, rfl⟩
  try rw [← hxx] at HRS
  clear hD H hx hh hL hxm hxx
  obtain ⟨w1, hw1⟩ : ∃ w1, (w.alloc (.cells #[.slice A M c] 42)).alloc (.cells #[.int .i64 xk, .int .u64 xn, .string xs, .slice Ax xm cx] 25) = w1 := ⟨_, rfl⟩
  have HF1 := hid (two_box hw1).1
  have HS := hid (two_box hw1).2
  have HW1 := hid hw1
  clear hw1
  have HC0 := hid (fun wx (hf : (wx.cell? ⟨w.heap.size, 0, none⟩ = some (.slice A M c) ∧ wx.cell? ⟨w.heap.size + 1, 0, none⟩ = some (.int .i64 xk) ∧ wx.cell? ⟨w.heap.size + 1, 1, none⟩ = some (.int .u64 xn) ∧ wx.cell? ⟨w.heap.size + 1, 2, none⟩ = some (.string xs) ∧ wx.cell? ⟨w.heap.size + 1, 3, none⟩ = some (.slice Ax xm cx) ∧ Fr (fun _ => False) w1 wx)) => (HMC.out wx (HF1.out.trans hf.2.2.2.2.2)).mono (R' := fun e w' => e = .returned (.bool false) ∧ (w'.cell? ⟨w.heap.size, 0, none⟩ = some (.slice A M c) ∧ w'.cell? ⟨w.heap.size + 1, 0, none⟩ = some (.int .i64 xk) ∧ w'.cell? ⟨w.heap.size + 1, 1, none⟩ = some (.int .u64 xn) ∧ w'.cell? ⟨w.heap.size + 1, 2, none⟩ = some (.string xs) ∧ w'.cell? ⟨w.heap.size + 1, 3, none⟩ = some (.slice Ax xm cx) ∧ Fr (fun _ => False) w1 w') ∧ Fr (fun _ => False) wx w') (fun e w' h => by
    have hz := hf.2.2.2.2.2.trans h.2
    obtain ⟨e0, e1, e2, e3, e4⟩ := HS.out w' hz
    exact ⟨h.1, ⟨e0, e1, e2, e3, e4, hz⟩, h.2⟩))
  have HC1 := hid (fun wx (hf : (wx.cell? ⟨w.heap.size, 0, none⟩ = some (.slice A M c) ∧ wx.cell? ⟨w.heap.size + 1, 0, none⟩ = some (.int .i64 xk) ∧ wx.cell? ⟨w.heap.size + 1, 1, none⟩ = some (.int .u64 xn) ∧ wx.cell? ⟨w.heap.size + 1, 2, none⟩ = some (.string xs) ∧ wx.cell? ⟨w.heap.size + 1, 3, none⟩ = some (.slice Ax xm cx) ∧ Fr (fun _ => False) w1 wx)) => (HSE.out wx (HF1.out.trans hf.2.2.2.2.2)).mono (R' := fun e w' => ∃ A' c', e = .returned (.slice A' 0 c') ∧ 0 ≤ c' ∧ RdI .i64 w' A' L ∧ (w'.cell? ⟨w.heap.size, 0, none⟩ = some (.slice A M c) ∧ w'.cell? ⟨w.heap.size + 1, 0, none⟩ = some (.int .i64 xk) ∧ w'.cell? ⟨w.heap.size + 1, 1, none⟩ = some (.int .u64 xn) ∧ w'.cell? ⟨w.heap.size + 1, 2, none⟩ = some (.string xs) ∧ w'.cell? ⟨w.heap.size + 1, 3, none⟩ = some (.slice Ax xm cx) ∧ Fr (fun _ => False) w1 w') ∧ Fr (fun _ => False) wx w') (fun e w' h => by
    obtain ⟨A', c', he, ho, h2⟩ := h
    have hz := hf.2.2.2.2.2.trans h2
    obtain ⟨e0, e1, e2, e3, e4⟩ := HS.out w' hz
    have hro := ho.rd.1
    obtain ⟨A2, c2, hv, h4, _⟩ := ho.form
    injection hv with _ _ h5
    exact ⟨A', c', he, by rw [h5, ← HU.out]; exact h4, hro, ⟨e0, e1, e2, e3, e4, hz⟩, h2⟩))
  obtain ⟨c0, d0, d1, d2, d3⟩ := HS.out w1 (Fr.refl _ _)
  go_enter Tryd.func10, Tryd.ntmps10
  go_wp2_with fail
  rw [HW1.out]
  refine (HAW.out w1 HF1.out).mono ?_
  rintro e w2 ⟨rfl, hf⟩
  have HF2 := hid hf
  clear hf c0 d0 d1 d2 d3
  obtain ⟨c0, d0, d1, d2, d3⟩ := HS.out w2 HF2.out
  go_wp2_with fail
  refine (HG.out w2 (HF1.out.trans HF2.out)).mono ?_
  rintro e w3 ⟨⟨b, rfl⟩, hf⟩
  have HF3 := hid (HF2.out.trans hf)
  clear hf c0 d0 d1 d2 d3
  obtain ⟨c0, d0, d1, d2, d3⟩ := HS.out w3 HF3.out
  cases b with
  | true =>
    go_wp2_with fail
    go_ret
    exact ⟨rfl, HF1.out.trans HF3.out⟩
  | false =>
  go_wp2_with fail
  refine (HSC.out w3 (HF1.out.trans HF3.out)).mono ?_
  rintro e w4 ⟨rfl, hf⟩
  have HF4 := hid (HF3.out.trans hf)
  clear hf c0 d0 d1 d2 d3
  have HS4 := hid (show (w4.cell? ⟨w.heap.size, 0, none⟩ = some (.slice A M c) ∧ w4.cell? ⟨w.heap.size + 1, 0, none⟩ = some (.int .i64 xk) ∧ w4.cell? ⟨w.heap.size + 1, 1, none⟩ = some (.int .u64 xn) ∧ w4.cell? ⟨w.heap.size + 1, 2, none⟩ = some (.string xs) ∧ w4.cell? ⟨w.heap.size + 1, 3, none⟩ = some (.slice Ax xm cx) ∧ Fr (fun _ => False) w1 w4) by
    obtain ⟨c0, d0, d1, d2, d3⟩ := HS.out w4 HF4.out
    exact ⟨c0, d0, d1, d2, d3, HF4.out⟩)
  go_wp2_with fail
  go_region_held3 (fun w' => (w'.cell? ⟨w.heap.size, 0, none⟩ = some (.slice A M c) ∧ w'.cell? ⟨w.heap.size + 1, 0, none⟩ = some (.int .i64 xk) ∧ w'.cell? ⟨w.heap.size + 1, 1, none⟩ = some (.int .u64 xn) ∧ w'.cell? ⟨w.heap.size + 1, 2, none⟩ = some (.string xs) ∧ w'.cell? ⟨w.heap.size + 1, 3, none⟩ = some (.slice Ax xm cx) ∧ Fr (fun _ => False) w1 w'))
    (first | exact HS4.out | exact ⟨HS4.out.1, HS4.out.2.1, HS4.out.2.2.1, HS4.out.2.2.2.1, HS4.out.2.2.2.2.1, HS4.out.2.2.2.2.2.drew⟩ | assumption)
    (first
      | ((go_at_call 46; with_reducible refine (HC0.out _ (by assumption)).mono ?_; rintro e' wz ⟨rfl, hS, hf8⟩; (try (have HRD := hid (fun wx (hx : Fr (fun _ => False) wz wx) => HRD.out wx (hf8.trans hx))))))
      | ((go_at_call 50; with_reducible refine (HC1.out _ (by assumption)).mono ?_; rintro e' wz ⟨A', c', rfl, huc, hro, hS, hf9⟩; have HRD := hid (fun wx (hx : Fr (fun _ => False) wz wx) => hro.fr0 hx))))
  all_goals
    have HFZ := hid hS.2.2.2.2.2
    obtain ⟨c0, d0, d1, d2, d3, _⟩ := hS
    go_wp2_with fail
    refine (HRC.out wz (HF1.out.trans HFZ.out)).mono ?_
    rintro e w5 ⟨rfl, hf⟩
    have HF5 := hid (HFZ.out.trans hf)
    clear hf c0 d0 d1 d2 d3
    obtain ⟨c0, d0, d1, d2, d3⟩ := HS.out w5 HF5.out
    go_wp2_with fail
    go_ret
    exact ⟨rfl, HF1.out.trans HF5.out⟩

set_option maxRecDepth 100000 in
set_option maxHeartbeats 8000000 in
theorem law_b (ns : List Nod) (A : Option Addr) (M c h : Nat) (w : World) (hD : Dbl w) (hM : ns.length = M) (hc : M ≤ c) (hMm : M ≤ 1048576) (H : RdN w h A ns) (x : It) (hx : x.size ≤ 2000000) (lo hi : Nat) (cs : List Value) (hh : hi ≤ w.heap.size) (hat : ItAt w lo hi x cs) (i : Int) (s1 ce : Int) (hs : checkS ns = (s1, 0)) (hx0 : x.check = ce) (hce : ce ≠ 0) :
    Calls Tryd.prog 10 #[.agg #[.slice A M c], .agg cs.toArray, .int .i64 i] w fun e w' => e = .returned (.bool true) ∧ Fr (fun _ => False) w w' := by
  have HAW := hid (fun w' (hf : Fr (fun _ => False) w w') => DenY.awake_calls w' (hD.fr0 hf))
  have HG := hid (fun w' (hf : Fr (fun _ => False) w w') => great18_calls ns A M c h w' hM hc hMm (H.fr0 hf) x hx lo hi cs (Nat.le_trans hh hf.size) (hat.fr0 hf hh))
  have HSC := hid (fun w' (hf : Fr (fun _ => False) w w') => schema_calls ns A M c h w' (hD.fr0 hf) hM hc hMm (H.fr0 hf) x hx lo hi cs (Nat.le_trans hh hf.size) (hat.fr0 hf hh))
  have HMC := hid (fun w' (hf : Fr (fun _ => False) w w') => mat_calls ns A M c h w' (hD.fr0 hf) hM hc hMm (H.fr0 hf) i x hx lo hi cs (Nat.le_trans hh hf.size) (hat.fr0 hf hh))
  have HSE := hid (fun w' (hf : Fr (fun _ => False) w w') => set_calls ns A M c h w' (hD.fr0 hf) hM hc hMm (H.fr0 hf) x hx lo hi cs (Nat.le_trans hh hf.size) (hat.fr0 hf hh))
  have HRC := hid (fun w' (hf : Fr (fun _ => False) w w') => rcheck_calls ns A M c h w' hM hc hMm (H.fr0 hf))
  have HRX := hid (fun w' (hf : Fr (fun _ => False) w w') => refcheck_calls x hx lo hi cs w' (Nat.le_trans hh hf.size) (hat.fr0 hf hh))
  have hb : (ce != 0) = true := bne_iff_ne.2 hce
  have e1 : schV ns x = (false, ce) := by rw [schV, hs, hx0]; simp [hce]
  have e2 : ∀ i, matV ns i x = false := fun i => by rw [matV, e1]; simp [hce]
  have e3 : ∀ j, setL ns x j = [] := fun j => by
    induction j with
    | zero => rfl
    | succ j ih => rw [setL, e2, ih]; simp
  have HU := hid (show (setL ns x M).length = 0 by rw [e3]; rfl)
  obtain ⟨L, hLL⟩ : ∃ L, L = setL ns x M := ⟨_, rfl⟩
  rw [e1] at HSC
  simp only [e2] at HMC
  rw [HU.out, ← hLL] at HSE
  rw [← hLL] at HU
  rw [hs] at HRC
  rw [hx0] at HRX
  clear hs hx0 hce e1 e2 e3 hLL

  obtain ⟨xk, xn, xs, xl⟩ := x
  obtain ⟨Ax, cx, rfl, hxc, hxk, hxn, hxss, hxl, hL⟩ := hat
  obtain ⟨xm, hxm⟩ : ∃ m, xl.length = m := ⟨_, rfl⟩
  rw [hxm] at HG HSC HMC HSE HRX ⊢
  try rw [hxm] at HRS
  obtain ⟨x, hxx⟩ : ∃ x, x = It.mk xk xn xs xl := ⟨_, rfl⟩
  try rw [← hxx] at HRS
  clear hD H hx hh hL hxm hxx
  obtain ⟨w1, hw1⟩ : ∃ w1, (w.alloc (.cells #[.slice A M c] 42)).alloc (.cells #[.int .i64 xk, .int .u64 xn, .string xs, .slice Ax xm cx] 25) = w1 := ⟨_, rfl⟩
  have HF1 := hid (two_box hw1).1
  have HS := hid (two_box hw1).2
  have HW1 := hid hw1
  clear hw1
  have HC0 := hid (fun wx (hf : (wx.cell? ⟨w.heap.size, 0, none⟩ = some (.slice A M c) ∧ wx.cell? ⟨w.heap.size + 1, 0, none⟩ = some (.int .i64 xk) ∧ wx.cell? ⟨w.heap.size + 1, 1, none⟩ = some (.int .u64 xn) ∧ wx.cell? ⟨w.heap.size + 1, 2, none⟩ = some (.string xs) ∧ wx.cell? ⟨w.heap.size + 1, 3, none⟩ = some (.slice Ax xm cx) ∧ Fr (fun _ => False) w1 wx)) => (HMC.out wx (HF1.out.trans hf.2.2.2.2.2)).mono (R' := fun e w' => e = .returned (.bool false) ∧ (w'.cell? ⟨w.heap.size, 0, none⟩ = some (.slice A M c) ∧ w'.cell? ⟨w.heap.size + 1, 0, none⟩ = some (.int .i64 xk) ∧ w'.cell? ⟨w.heap.size + 1, 1, none⟩ = some (.int .u64 xn) ∧ w'.cell? ⟨w.heap.size + 1, 2, none⟩ = some (.string xs) ∧ w'.cell? ⟨w.heap.size + 1, 3, none⟩ = some (.slice Ax xm cx) ∧ Fr (fun _ => False) w1 w') ∧ Fr (fun _ => False) wx w') (fun e w' h => by
    have hz := hf.2.2.2.2.2.trans h.2
    obtain ⟨e0, e1, e2, e3, e4⟩ := HS.out w' hz
    exact ⟨h.1, ⟨e0, e1, e2, e3, e4, hz⟩, h.2⟩))
  have HC1 := hid (fun wx (hf : (wx.cell? ⟨w.heap.size, 0, none⟩ = some (.slice A M c) ∧ wx.cell? ⟨w.heap.size + 1, 0, none⟩ = some (.int .i64 xk) ∧ wx.cell? ⟨w.heap.size + 1, 1, none⟩ = some (.int .u64 xn) ∧ wx.cell? ⟨w.heap.size + 1, 2, none⟩ = some (.string xs) ∧ wx.cell? ⟨w.heap.size + 1, 3, none⟩ = some (.slice Ax xm cx) ∧ Fr (fun _ => False) w1 wx)) => (HSE.out wx (HF1.out.trans hf.2.2.2.2.2)).mono (R' := fun e w' => ∃ A' c', e = .returned (.slice A' 0 c') ∧ 0 ≤ c' ∧ RdI .i64 w' A' L ∧ (w'.cell? ⟨w.heap.size, 0, none⟩ = some (.slice A M c) ∧ w'.cell? ⟨w.heap.size + 1, 0, none⟩ = some (.int .i64 xk) ∧ w'.cell? ⟨w.heap.size + 1, 1, none⟩ = some (.int .u64 xn) ∧ w'.cell? ⟨w.heap.size + 1, 2, none⟩ = some (.string xs) ∧ w'.cell? ⟨w.heap.size + 1, 3, none⟩ = some (.slice Ax xm cx) ∧ Fr (fun _ => False) w1 w') ∧ Fr (fun _ => False) wx w') (fun e w' h => by
    obtain ⟨A', c', he, ho, h2⟩ := h
    have hz := hf.2.2.2.2.2.trans h2
    obtain ⟨e0, e1, e2, e3, e4⟩ := HS.out w' hz
    have hro := ho.rd.1
    obtain ⟨A2, c2, hv, h4, _⟩ := ho.form
    injection hv with _ _ h5
    exact ⟨A', c', he, by rw [h5, ← HU.out]; exact h4, hro, ⟨e0, e1, e2, e3, e4, hz⟩, h2⟩))
  obtain ⟨c0, d0, d1, d2, d3⟩ := HS.out w1 (Fr.refl _ _)
  go_enter Tryd.func10, Tryd.ntmps10
  go_wp2_with fail
  rw [HW1.out]
  refine (HAW.out w1 HF1.out).mono ?_
  rintro e w2 ⟨rfl, hf⟩
  have HF2 := hid hf
  clear hf c0 d0 d1 d2 d3
  obtain ⟨c0, d0, d1, d2, d3⟩ := HS.out w2 HF2.out
  go_wp2_with fail
  refine (HG.out w2 (HF1.out.trans HF2.out)).mono ?_
  rintro e w3 ⟨⟨b, rfl⟩, hf⟩
  have HF3 := hid (HF2.out.trans hf)
  clear hf c0 d0 d1 d2 d3
  obtain ⟨c0, d0, d1, d2, d3⟩ := HS.out w3 HF3.out
  cases b with
  | true =>
    go_wp2_with fail
    go_ret
    exact ⟨rfl, HF1.out.trans HF3.out⟩
  | false =>
  go_wp2_with fail
  refine (HSC.out w3 (HF1.out.trans HF3.out)).mono ?_
  rintro e w4 ⟨rfl, hf⟩
  have HF4 := hid (HF3.out.trans hf)
  clear hf c0 d0 d1 d2 d3
  have HS4 := hid (show (w4.cell? ⟨w.heap.size, 0, none⟩ = some (.slice A M c) ∧ w4.cell? ⟨w.heap.size + 1, 0, none⟩ = some (.int .i64 xk) ∧ w4.cell? ⟨w.heap.size + 1, 1, none⟩ = some (.int .u64 xn) ∧ w4.cell? ⟨w.heap.size + 1, 2, none⟩ = some (.string xs) ∧ w4.cell? ⟨w.heap.size + 1, 3, none⟩ = some (.slice Ax xm cx) ∧ Fr (fun _ => False) w1 w4) by
    obtain ⟨c0, d0, d1, d2, d3⟩ := HS.out w4 HF4.out
    exact ⟨c0, d0, d1, d2, d3, HF4.out⟩)
  go_wp2_with fail
  go_region_held3 (fun w' => (w'.cell? ⟨w.heap.size, 0, none⟩ = some (.slice A M c) ∧ w'.cell? ⟨w.heap.size + 1, 0, none⟩ = some (.int .i64 xk) ∧ w'.cell? ⟨w.heap.size + 1, 1, none⟩ = some (.int .u64 xn) ∧ w'.cell? ⟨w.heap.size + 1, 2, none⟩ = some (.string xs) ∧ w'.cell? ⟨w.heap.size + 1, 3, none⟩ = some (.slice Ax xm cx) ∧ Fr (fun _ => False) w1 w'))
    (first | exact HS4.out | exact ⟨HS4.out.1, HS4.out.2.1, HS4.out.2.2.1, HS4.out.2.2.2.1, HS4.out.2.2.2.2.1, HS4.out.2.2.2.2.2.drew⟩ | assumption)
    (first
      | ((go_at_call 46; with_reducible refine (HC0.out _ (by assumption)).mono ?_; rintro e' wz ⟨rfl, hS, hf8⟩; (try (have HRD := hid (fun wx (hx : Fr (fun _ => False) wz wx) => HRD.out wx (hf8.trans hx))))))
      | ((go_at_call 50; with_reducible refine (HC1.out _ (by assumption)).mono ?_; rintro e' wz ⟨A', c', rfl, huc, hro, hS, hf9⟩; have HRD := hid (fun wx (hx : Fr (fun _ => False) wz wx) => hro.fr0 hx))))
  all_goals
    have HFZ := hid hS.2.2.2.2.2
    obtain ⟨c0, d0, d1, d2, d3, _⟩ := hS
    go_wp2_with fail
    refine (HRC.out wz (HF1.out.trans HFZ.out)).mono ?_
    rintro e w5 ⟨rfl, hf⟩
    have HF5 := hid (HFZ.out.trans hf)
    clear hf c0 d0 d1 d2 d3
    obtain ⟨c0, d0, d1, d2, d3⟩ := HS.out w5 HF5.out
    go_wp2_with fail
    refine (HRX.out w5 (HF1.out.trans HF5.out)).mono ?_
    rintro e w6 ⟨rfl, hf⟩
    have HF6 := hid (HF5.out.trans hf)
    clear hf c0 d0 d1 d2 d3
    obtain ⟨c0, d0, d1, d2, d3⟩ := HS.out w6 HF6.out
    go_wp2_with fail
    go_ret
    exact ⟨rfl, HF1.out.trans HF6.out⟩

set_option maxRecDepth 100000 in
set_option maxHeartbeats 8000000 in
theorem law_c (ns : List Nod) (A : Option Addr) (M c h : Nat) (w : World) (hD : Dbl w) (hM : ns.length = M) (hc : M ≤ c) (hMm : M ≤ 1048576) (H : RdN w h A ns) (x : It) (hx : x.size ≤ 2000000) (lo hi : Nat) (cs : List Value) (hh : hi ≤ w.heap.size) (hat : ItAt w lo hi x cs) (i : Int) (s1 : Int) (hs : checkS ns = (s1, 0)) (hx0 : x.check = 0) :
    Calls Tryd.prog 10 #[.agg #[.slice A M c], .agg cs.toArray, .int .i64 i] w fun e w' => e = .returned (.bool true) ∧ Fr (fun _ => False) w w' := by
  have HAW := hid (fun w' (hf : Fr (fun _ => False) w w') => DenY.awake_calls w' (hD.fr0 hf))
  have HG := hid (fun w' (hf : Fr (fun _ => False) w w') => great18_calls ns A M c h w' hM hc hMm (H.fr0 hf) x hx lo hi cs (Nat.le_trans hh hf.size) (hat.fr0 hf hh))
  have HSC := hid (fun w' (hf : Fr (fun _ => False) w w') => schema_calls ns A M c h w' (hD.fr0 hf) hM hc hMm (H.fr0 hf) x hx lo hi cs (Nat.le_trans hh hf.size) (hat.fr0 hf hh))
  have HMC := hid (fun w' (hf : Fr (fun _ => False) w w') => mat_calls ns A M c h w' (hD.fr0 hf) hM hc hMm (H.fr0 hf) i x hx lo hi cs (Nat.le_trans hh hf.size) (hat.fr0 hf hh))
  have HSE := hid (fun w' (hf : Fr (fun _ => False) w w') => set_calls ns A M c h w' (hD.fr0 hf) hM hc hMm (H.fr0 hf) x hx lo hi cs (Nat.le_trans hh hf.size) (hat.fr0 hf hh))
  have HRC := hid (fun w' (hf : Fr (fun _ => False) w w') => rcheck_calls ns A M c h w' hM hc hMm (H.fr0 hf))
  have HRX := hid (fun w' (hf : Fr (fun _ => False) w w') => refcheck_calls x hx lo hi cs w' (Nat.le_trans hh hf.size) (hat.fr0 hf hh))
  have e1 : schV ns x = (isV ns 0 x, 0) := by rw [schV, hs, hx0]; simp
  have hW := check_wrong (ns := ns) (by rw [hs])
  have hM1 : 1 ≤ M := by have := hW.1; omega
  have hM2 : M ≤ 256 := by have := hW.2.1; omega
  have e2 : ∀ j : Nat, j < M → matV ns j x = isV ns j x := fun j hj => by
    rw [matV, e1]
    have : (j : Int) < (ns.length : Int) := by omega
    simp [this]
  have HM3 := hid (show matV ns i x = (decide (0 ≤ i) && decide (i < (M : Int)) && isV ns i.toNat x) by rw [matV, e1, hM]; simp)
  have HRS := hid (fun w' (hf : Fr (fun _ => False) w w') => refset_calls ns (leads_of (by rw [hs])) hW.2.2 A M c h hM hc hM2 hM1 2000000 x hx (Nat.le_refl _) (good_of hx0) lo hi cs w' (Nat.le_trans hh hf.size) (hat.fr0 hf hh) (H.fr0 hf))
  have HLS := hid (show ∀ j, j < M → setL ns x (j + 1) = if isV ns j x = true then setL ns x j ++ [(j : Int)] else setL ns x j from fun j hj => by rw [setL, e2 j hj])
  have HSL := hid (fun j => setL_len ns x j)
  obtain ⟨F, hF⟩ : ∃ F : Nat → Bool, (fun i => isV ns i x) = F := ⟨_, rfl⟩
  have hFi : ∀ i, isV ns i x = F i := fun i => by rw [← hF]
  obtain ⟨G, hG⟩ : ∃ G : Nat → List Int, (fun j => setL ns x j) = G := ⟨_, rfl⟩
  have hGi : ∀ i, setL ns x i = G i := fun i => by rw [← hG]
  obtain ⟨L, hLL⟩ : ∃ L, L = G M := ⟨_, rfl⟩
  obtain ⟨u, hu⟩ : ∃ u, u = L.length := ⟨_, rfl⟩
  have HU := hid hu.symm
  obtain ⟨m, hm⟩ : ∃ m, m = matV ns i x := ⟨_, rfl⟩
  rw [← hm] at HMC HM3
  simp only [hFi] at HM3 HRS HLS e1
  have hG0 : G 0 = [] := (hGi 0).symm
  simp only [hGi] at HLS HSL HSE
  rw [e1] at HSC
  rw [← hLL, ← hu] at HSE
  rw [hs] at HRC
  rw [hx0] at HRX
  have HLL := hid hLL
  have HG0 := hid hG0
  clear hs hx0 e1 e2 hLL hW hF hFi hG hGi hm hu hG0

  obtain ⟨xk, xn, xs, xl⟩ := x
  obtain ⟨Ax, cx, rfl, hxc, hxk, hxn, hxss, hxl, hL⟩ := hat
  obtain ⟨xm, hxm⟩ : ∃ m, xl.length = m := ⟨_, rfl⟩
  rw [hxm] at HG HSC HMC HSE HRX ⊢
  try rw [hxm] at HRS
  obtain ⟨x, hxx⟩ : ∃ x, x = It.mk xk xn xs xl := ⟨_, rfl⟩
  try rw [← hxx] at HRS
  clear hD H hx hh hL hxm hxx
  obtain ⟨w1, hw1⟩ : ∃ w1, (w.alloc (.cells #[.slice A M c] 42)).alloc (.cells #[.int .i64 xk, .int .u64 xn, .string xs, .slice Ax xm cx] 25) = w1 := ⟨_, rfl⟩
  have HF1 := hid (two_box hw1).1
  have HS := hid (two_box hw1).2
  have HW1 := hid hw1
  clear hw1
  have HC0 := hid (fun wx (hf : (wx.cell? ⟨w.heap.size, 0, none⟩ = some (.slice A M c) ∧ wx.cell? ⟨w.heap.size + 1, 0, none⟩ = some (.int .i64 xk) ∧ wx.cell? ⟨w.heap.size + 1, 1, none⟩ = some (.int .u64 xn) ∧ wx.cell? ⟨w.heap.size + 1, 2, none⟩ = some (.string xs) ∧ wx.cell? ⟨w.heap.size + 1, 3, none⟩ = some (.slice Ax xm cx) ∧ Fr (fun _ => False) w1 wx)) => (HMC.out wx (HF1.out.trans hf.2.2.2.2.2)).mono (R' := fun e w' => e = .returned (.bool m) ∧ (w'.cell? ⟨w.heap.size, 0, none⟩ = some (.slice A M c) ∧ w'.cell? ⟨w.heap.size + 1, 0, none⟩ = some (.int .i64 xk) ∧ w'.cell? ⟨w.heap.size + 1, 1, none⟩ = some (.int .u64 xn) ∧ w'.cell? ⟨w.heap.size + 1, 2, none⟩ = some (.string xs) ∧ w'.cell? ⟨w.heap.size + 1, 3, none⟩ = some (.slice Ax xm cx) ∧ Fr (fun _ => False) w1 w') ∧ Fr (fun _ => False) wx w') (fun e w' h => by
    have hz := hf.2.2.2.2.2.trans h.2
    obtain ⟨e0, e1, e2, e3, e4⟩ := HS.out w' hz
    exact ⟨h.1, ⟨e0, e1, e2, e3, e4, hz⟩, h.2⟩))
  have HC1 := hid (fun wx (hf : (wx.cell? ⟨w.heap.size, 0, none⟩ = some (.slice A M c) ∧ wx.cell? ⟨w.heap.size + 1, 0, none⟩ = some (.int .i64 xk) ∧ wx.cell? ⟨w.heap.size + 1, 1, none⟩ = some (.int .u64 xn) ∧ wx.cell? ⟨w.heap.size + 1, 2, none⟩ = some (.string xs) ∧ wx.cell? ⟨w.heap.size + 1, 3, none⟩ = some (.slice Ax xm cx) ∧ Fr (fun _ => False) w1 wx)) => (HSE.out wx (HF1.out.trans hf.2.2.2.2.2)).mono (R' := fun e w' => ∃ A' c', e = .returned (.slice A' u c') ∧ u ≤ c' ∧ RdI .i64 w' A' L ∧ (w'.cell? ⟨w.heap.size, 0, none⟩ = some (.slice A M c) ∧ w'.cell? ⟨w.heap.size + 1, 0, none⟩ = some (.int .i64 xk) ∧ w'.cell? ⟨w.heap.size + 1, 1, none⟩ = some (.int .u64 xn) ∧ w'.cell? ⟨w.heap.size + 1, 2, none⟩ = some (.string xs) ∧ w'.cell? ⟨w.heap.size + 1, 3, none⟩ = some (.slice Ax xm cx) ∧ Fr (fun _ => False) w1 w') ∧ Fr (fun _ => False) wx w') (fun e w' h => by
    obtain ⟨A', c', he, ho, h2⟩ := h
    have hz := hf.2.2.2.2.2.trans h2
    obtain ⟨e0, e1, e2, e3, e4⟩ := HS.out w' hz
    have hro := ho.rd.1
    obtain ⟨A2, c2, hv, h4, _⟩ := ho.form
    injection hv with _ _ h5
    exact ⟨A', c', he, by rw [h5, ← HU.out]; exact h4, hro, ⟨e0, e1, e2, e3, e4, hz⟩, h2⟩))
  obtain ⟨c0, d0, d1, d2, d3⟩ := HS.out w1 (Fr.refl _ _)
  go_enter Tryd.func10, Tryd.ntmps10
  go_wp2_with fail
  rw [HW1.out]
  refine (HAW.out w1 HF1.out).mono ?_
  rintro e w2 ⟨rfl, hf⟩
  have HF2 := hid hf
  clear hf c0 d0 d1 d2 d3
  obtain ⟨c0, d0, d1, d2, d3⟩ := HS.out w2 HF2.out
  go_wp2_with fail
  refine (HG.out w2 (HF1.out.trans HF2.out)).mono ?_
  rintro e w3 ⟨⟨b, rfl⟩, hf⟩
  have HF3 := hid (HF2.out.trans hf)
  clear hf c0 d0 d1 d2 d3
  obtain ⟨c0, d0, d1, d2, d3⟩ := HS.out w3 HF3.out
  cases b with
  | true =>
    go_wp2_with fail
    go_ret
    exact ⟨rfl, HF1.out.trans HF3.out⟩
  | false =>
  go_wp2_with fail
  refine (HSC.out w3 (HF1.out.trans HF3.out)).mono ?_
  rintro e w4 ⟨rfl, hf⟩
  have HF4 := hid (HF3.out.trans hf)
  clear hf c0 d0 d1 d2 d3
  have HS4 := hid (show (w4.cell? ⟨w.heap.size, 0, none⟩ = some (.slice A M c) ∧ w4.cell? ⟨w.heap.size + 1, 0, none⟩ = some (.int .i64 xk) ∧ w4.cell? ⟨w.heap.size + 1, 1, none⟩ = some (.int .u64 xn) ∧ w4.cell? ⟨w.heap.size + 1, 2, none⟩ = some (.string xs) ∧ w4.cell? ⟨w.heap.size + 1, 3, none⟩ = some (.slice Ax xm cx) ∧ Fr (fun _ => False) w1 w4) by
    obtain ⟨c0, d0, d1, d2, d3⟩ := HS.out w4 HF4.out
    exact ⟨c0, d0, d1, d2, d3, HF4.out⟩)
  go_wp2_with fail
  go_region_held3 (fun w' => (w'.cell? ⟨w.heap.size, 0, none⟩ = some (.slice A M c) ∧ w'.cell? ⟨w.heap.size + 1, 0, none⟩ = some (.int .i64 xk) ∧ w'.cell? ⟨w.heap.size + 1, 1, none⟩ = some (.int .u64 xn) ∧ w'.cell? ⟨w.heap.size + 1, 2, none⟩ = some (.string xs) ∧ w'.cell? ⟨w.heap.size + 1, 3, none⟩ = some (.slice Ax xm cx) ∧ Fr (fun _ => False) w1 w'))
    (first | exact HS4.out | exact ⟨HS4.out.1, HS4.out.2.1, HS4.out.2.2.1, HS4.out.2.2.2.1, HS4.out.2.2.2.2.1, HS4.out.2.2.2.2.2.drew⟩ | assumption)
    (first
      | ((go_at_call 46; with_reducible refine (HC0.out _ (by assumption)).mono ?_; rintro e' wz ⟨rfl, hS, hf8⟩; (try (have HRD := hid (fun wx (hx : Fr (fun _ => False) wz wx) => HRD.out wx (hf8.trans hx))))))
      | ((go_at_call 50; with_reducible refine (HC1.out _ (by assumption)).mono ?_; rintro e' wz ⟨A', c', rfl, huc, hro, hS, hf9⟩; have HRD := hid (fun wx (hx : Fr (fun _ => False) wz wx) => hro.fr0 hx))))
  all_goals
    have HFZ := hid hS.2.2.2.2.2
    obtain ⟨c0, d0, d1, d2, d3, _⟩ := hS
    go_wp2_with fail
    refine (HRC.out wz (HF1.out.trans HFZ.out)).mono ?_
    rintro e w5 ⟨rfl, hf⟩
    have HF5 := hid (HFZ.out.trans hf)
    have HF5Z := hid hf
    clear hf c0 d0 d1 d2 d3
    obtain ⟨c0, d0, d1, d2, d3⟩ := HS.out w5 HF5.out
    go_wp2_with fail
    refine (HRX.out w5 (HF1.out.trans HF5.out)).mono ?_
    rintro e w6 ⟨rfl, hf⟩
    have HF6 := hid (HF5.out.trans hf)
    have HF6Z := hid (HF5Z.out.trans hf)
    clear hf c0 d0 d1 d2 d3
    obtain ⟨c0, d0, d1, d2, d3⟩ := HS.out w6 HF6.out
    go_wp2_with fail
    refine (HRS.out w6 (HF1.out.trans HF6.out)).mono ?_
    rintro e w7 ⟨g, rfl, hg, hbv, hf⟩
    have HF7 := hid (HF6.out.trans hf)
    have HF67 := hid hf
    have HBV := hid hbv
    clear hf c0 d0 d1 d2 d3 hbv
    have HR7 := hid (fun wx (hx : Fr (fun _ => False) w7 wx) => HRD.out wx ((HF6Z.out.trans HF67.out).trans hx))
    go_wp2_with fail
    go_loopw [15, 16] (fun v15 v16 wr => ∃ (j : Nat) (A3 : Option Addr) (c3 : Nat), j ≤ M ∧ v16 = .int .i64 j ∧ v15 = .slice A3 (G j).length c3 ∧ Hid (App.Own .i64 3 wr w7.heap.size (.slice A3 (G j).length c3) (G j)) ∧ Hid (Fr (fun _ => False) w7 wr)) (fun _ v16 _ => M - (intOf v16).toNat)
    case atStart => exact ⟨0, none, 0, Nat.zero_le _, rfl, by rw [HG0.out]; rfl, hid (by rw [HG0.out]; exact Own.nil _ _ _ _), hid (Fr.refl _ _)⟩
    case round =>
      obtain ⟨j, A3, c3, hj, rfl, rfl, HO, HF⟩ := hrel
      have hul := HSL.out j
      have HB := hid (HBV.out.fr HF.out (fun h => h))
      by_cases hlt : j < M
      · have hj0 : (0 : Int) ≤ (j : Int) := by omega
        have hjm : (j : Int) < (M : Int) := by omega
        have hcj := HB.out.cell j hlt
        have hsl := HLS.out j hlt
        obtain ⟨L1, hL1⟩ : ∃ L, G j = L := ⟨_, rfl⟩
        have HL1 := hid hL1
        rw [hL1] at HO hsl hul ⊢
        have HSJ := hid hsl
        obtain ⟨b, hb⟩ : ∃ b, F j = b := ⟨_, rfl⟩
        rw [hb] at hcj HSJ
        clear hb hL1 hsl
        cases b with
        | true =>
          have HU1 := hid (show L1 ++ [(j : Int)] = G (j + 1) by rw [HSJ.out, if_pos rfl])
          go_wp2_with (first
            | (refine wpList_app1 rfl (.tmp 91) (.tmp 93) 28 rfl 8 Tryd.underlying28 infoInt wr (j : Int) 3 (.slice A3 L1.length c3) L1 rfl HO.out rfl (by omega) HF.out.size ?_; intro v9 w9 h9 g9; have HO9 := hid h9.out; have HF9 := hid (g9.out (fun _ => False) w7 HF.out (Nat.le_refl _)); obtain ⟨A9, c9, rfl, _⟩ := h9.out.form; clear h9 g9))
          go_roundw
          case rel => exact ⟨j + 1, A9, c9, by omega, by go_num, by rw [← HU1.out]; simp, hid (by rw [← HU1.out]; exact HO9.out), HF9⟩
          case measure => simp [intOf]; omega
        | false =>
          have HU1 := hid (show L1 = G (j + 1) by rw [HSJ.out]; simp)
          go_wp2_with fail
          go_roundw
          case rel => exact ⟨j + 1, A3, c3, by omega, by go_num, by rw [← HU1.out], hid (by rw [← HU1.out]; exact HO.out), HF⟩
          case measure => simp [intOf]; omega
      · obtain rfl : j = M := by omega
        have hul2 : u ≤ j := by rw [← HU.out, HLL.out]; exact hul
        have HFE := hid (HF7.out.trans HF.out)
        have hc0 := HB.out.cell 0 (by omega)
        have hm0 : (0 : Int) < (j : Int) := by omega
        have HRI := hid (rints_calls A' A3 u (G j).length c' c3 L (G j) wr HU.out rfl huc (by
          obtain ⟨A2, c2, hv, h4, _⟩ := HO.out.form
          injection hv with _ _ h5
          rw [h5]; exact h4) (by omega) (HR7.out wr HF.out) HO.out.rd.1)
        rw [HLL.out, decide_eq_true rfl] at HRI
        have HRJ := hid (fun w8 (hf : Fr (fun _ => False) wr w8) => (HB.out.fr hf (fun h => h)))
        by_cases hi0 : 0 ≤ i
        · by_cases him : i < (j : Int)
          · obtain ⟨q, rfl⟩ : ∃ q : Nat, i = (q : Int) := ⟨i.toNat, by omega⟩
            have hqj : q < j := by omega
            have hmq : m = F q := by rw [HM3.out, decide_eq_true hi0, decide_eq_true him]; simp
            have hcq := fun w8 (hf : Fr (fun _ => False) wr w8) => (HRJ.out w8 hf).cell q hqj
            obtain ⟨b, hb⟩ : ∃ b, F q = b := ⟨_, rfl⟩
            rw [hb] at hmq hcq
            subst hmq
            have HCQ := hid hcq
            obtain ⟨b0, hb0⟩ : ∃ b, F 0 = b := ⟨_, rfl⟩
            rw [hb0] at hc0 ⊢
            clear hb hb0 hcq
            go_wp2_with fail
            refine HRI.out.mono ?_
            rintro e w9 ⟨rfl, hf9⟩
            have HF9 := hid hf9
            have hcq := HCQ.out w9 hf9
            clear hf9
            go_wp2_with fail
            go_ret
            cases m <;> exact ⟨rfl, HF1.out.trans (HFE.out.trans HF9.out)⟩
          · have hmq : m = false := by rw [HM3.out, decide_eq_false him]; simp
            subst hmq
            obtain ⟨b0, hb0⟩ : ∃ b, F 0 = b := ⟨_, rfl⟩
            rw [hb0] at hc0 ⊢
            clear hb0
            go_wp2_with fail
            refine HRI.out.mono ?_
            rintro e w9 ⟨rfl, hf9⟩
            have HF9 := hid hf9
            clear hf9
            go_wp2_with fail
            go_ret
            exact ⟨rfl, HF1.out.trans (HFE.out.trans HF9.out)⟩
        · have hmq : m = false := by rw [HM3.out, decide_eq_false hi0]; simp
          subst hmq
          obtain ⟨b0, hb0⟩ : ∃ b, F 0 = b := ⟨_, rfl⟩
          rw [hb0] at hc0 ⊢
          clear hb0
          go_wp2_with fail
          refine HRI.out.mono ?_
          rintro e w9 ⟨rfl, hf9⟩
          have HF9 := hid hf9
          clear hf9
          go_wp2_with fail
          go_ret
          exact ⟨rfl, HF1.out.trans (HFE.out.trans HF9.out)⟩

theorem law_calls (ns : List Nod) (A : Option Addr) (M c h : Nat) (w : World) (hD : Dbl w) (hM : ns.length = M) (hc : M ≤ c) (hMm : M ≤ 1048576) (H : RdN w h A ns) (x : It) (hx : x.size ≤ 2000000) (lo hi : Nat) (cs : List Value) (hh : hi ≤ w.heap.size) (hat : ItAt w lo hi x cs) (i : Int) :
    Calls Tryd.prog 10 #[.agg #[.slice A M c], .agg cs.toArray, .int .i64 i] w fun e w' => e = .returned (.bool true) ∧ Fr (fun _ => False) w w' := by
  obtain ⟨s1, s2, hs⟩ : ∃ s1 s2, checkS ns = (s1, s2) := ⟨_, _, rfl⟩
  by_cases h2 : s2 = 0
  · subst h2
    by_cases h3 : x.check = 0
    · exact law_c ns A M c h w hD hM hc hMm H x hx lo hi cs hh hat i s1 hs h3
    · exact law_b ns A M c h w hD hM hc hMm H x hx lo hi cs hh hat i s1 _ hs rfl h3
  · exact law_a ns A M c h w hD hM hc hMm H x hx lo hi cs hh hat i s1 s2 hs h2
end Go.Proofs.YtkmgiodhaaajjaaDoor.DenM

namespace Go.Proofs.YtkmgiodhaaajjaaDoor.DenMt
open Go.ChangeShapes Go.RowKit Go.Proofs.YtkmgiodhaaajjaaDoor.Mem Go.Proofs.YtkmgiodhaaajjaaDoor.ItemP Go.Proofs.YtkmgiodhaaajjaaDoor.ItemM Go.Proofs.YtkmgiodhaaajjaaDoor.SchP Go.Proofs.YtkmgiodhaaajjaaDoor.SchM
theorem mat_law (A : Option Addr) (xs : List Nod) (c : Nat) (x : It) (cs : List Value) (a : Int) (W : World) (hc : xs.length ≤ c) (hl : xs.length ≤ 1048576) (hx : RdN W W.heap.size A xs) (hz : x.size ≤ 1048576) (hat : ItAt W 0 W.heap.size x cs) (ha : (Lit.int .i64 a).wf = true) (hL : laidMetH Tryd.prog Rows.denoteMatchesUptoRow.laid W) :
    Calls Tryd.prog 10 #[.agg #[.slice A xs.length c], .agg cs.toArray, .int .i64 a] W fun e W' => e = .returned (.bool true) ∧ Below W.heap.size W W' :=
  (DenM.law_calls xs A _ c W.heap.size W (Dbl.dbl hL) rfl hc hl hx x (by omega) 0 W.heap.size cs (Nat.le_refl _) hat a).mono fun e w' h => ⟨h.1, h.2.toBelow (fun _ _ h => h)⟩
end Go.Proofs.YtkmgiodhaaajjaaDoor.DenMt
