/- Layer denote: whether an item matches a schema, a node; the nodes that it matches. -/
import Derived.Test.YtkmgiodhaaajjaaDoorDenF
import Derived.Test.YtkmgiodhaaajjaaDoorItemS
set_option linter.unusedVariables false
set_option linter.unusedSimpArgs false
namespace Go.Proofs.YtkmgiodhaaajjaaDoor.DenG
open Go.IntWalk Go.RowKit Go.Proofs.YtkmgiodhaaajjaaDoor.ItemS Go.Proofs.YtkmgiodhaaajjaaDoor.ItemT Go.Proofs.YtkmgiodhaaajjaaDoor.Mem Go.Proofs.YtkmgiodhaaajjaaDoor.App Go.Proofs.YtkmgiodhaaajjaaDoor.FloatB Go.Proofs.YtkmgiodhaaajjaaDoor.ItemP Go.Proofs.YtkmgiodhaaajjaaDoor.ItemM Go.Proofs.YtkmgiodhaaajjaaDoor.ItemB Go.Proofs.YtkmgiodhaaajjaaDoor.SchP Go.Proofs.YtkmgiodhaaajjaaDoor.SchM Go.Proofs.YtkmgiodhaaajjaaDoor.SchG Go.Proofs.YtkmgiodhaaajjaaDoor.SchI Go.Proofs.YtkmgiodhaaajjaaDoor.SchJ Go.Proofs.YtkmgiodhaaajjaaDoor.DenP Go.Proofs.YtkmgiodhaaajjaaDoor.DenA Go.Proofs.YtkmgiodhaaajjaaDoor.DenF

/-- What Schema tells. -/
noncomputable def schV (ns : List Nod) (x : It) : Bool × Int := if (checkS ns).2 ≠ 0 then (false, (checkS ns).2) else if x.check ≠ 0 then (false, x.check) else (isV ns 0 x, 0)
/-- What Matches tells. -/
noncomputable def matV (ns : List Nod) (i : Int) (x : It) : Bool := decide ((schV ns x).2 = 0) && decide (0 ≤ i) && decide (i < (ns.length : Int)) && isV ns i.toNat x
theorem schV_zero {ns : List Nod} {x : It} (h : (schV ns x).2 = 0) : (checkS ns).2 = 0 ∧ x.check = 0 := by
  unfold schV at h
  by_cases h1 : (checkS ns).2 ≠ 0
  · rw [if_pos h1] at h; exact absurd h h1
  · rw [if_neg h1] at h
    by_cases h2 : x.check ≠ 0
    · rw [if_pos h2] at h; exact absurd h h2
    · exact ⟨by omega, by omega⟩
theorem ret_bi {a : Bool × Int} {x : Bool} {b : Int} (h : a = (x, b)) : Ending.returned (.tuple #[.bool x, .int .i64 b]) = Ending.returned (.tuple #[.bool a.1, .int .i64 a.2]) := by rw [h]
/-- Two boxes of a schema and an item. -/
theorem two_box {w w1 : World} {A : Option Addr} {M c : Nat} {xk : Int} {xn : Nat} {xs : ByteArray} {Ax : Option Addr} {xm cx : Nat} (hw1 : (w.alloc (.cells #[.slice A M c] 42)).alloc (.cells #[.int .i64 xk, .int .u64 xn, .string xs, .slice Ax xm cx] 25) = w1) :
    Fr (fun _ => False) w w1 ∧ ∀ w', Fr (fun _ => False) w1 w' → w'.cell? ⟨w.heap.size, 0, none⟩ = some (.slice A M c) ∧ w'.cell? ⟨w.heap.size + 1, 0, none⟩ = some (.int .i64 xk) ∧ w'.cell? ⟨w.heap.size + 1, 1, none⟩ = some (.int .u64 xn) ∧ w'.cell? ⟨w.heap.size + 1, 2, none⟩ = some (.string xs) ∧ w'.cell? ⟨w.heap.size + 1, 3, none⟩ = some (.slice Ax xm cx) := by
  have hbs : Blk w1 w.heap.size 42 #[.slice A M c] := by rw [← hw1]; exact (Blk.new w _ _).alloc _
  have hbx : Blk w1 (w.heap.size + 1) 25 #[.int .i64 xk, .int .u64 xn, .string xs, .slice Ax xm cx] := by
    rw [← hw1]
    have := Blk.new (w.alloc (.cells #[.slice A M c] 42)) 25 #[.int .i64 xk, .int .u64 xn, .string xs, .slice Ax xm cx]
    rwa [World.size_alloc] at this
  refine ⟨by rw [← hw1]; exact ((Fr.refl _ w).alloc _).alloc _, fun w' hf => ?_⟩
  have hB := hbx.fr hf (fun h => h)
  have e0 := hB.cell 0
  have e1 := hB.cell 1
  have e2 := hB.cell 2
  have e3 := hB.cell 3
  simp at e0 e1 e2 e3
  exact ⟨(blk1 (hbs.fr hf (fun h => h))).1, e0, e1, e2, e3⟩

set_option maxRecDepth 100000 in
set_option maxHeartbeats 8000000 in
theorem schema_calls (ns : List Nod) (A : Option Addr) (M c h : Nat) (w : World) (hD : Dbl w) (hM : ns.length = M) (hc : M ≤ c) (hMm : M ≤ 1048576) (H : RdN w h A ns) (x : It) (hx : x.size ≤ 2000000) (lo hi : Nat) (cs : List Value) (hh : hi ≤ w.heap.size) (hat : ItAt w lo hi x cs) :
    Calls Tryd.prog 49 #[.agg #[.slice A M c], .agg cs.toArray] w fun e w' => e = .returned (.tuple #[.bool (schV ns x).1, .int .i64 (schV ns x).2]) ∧ Fr (fun _ => False) w w' := by
  have HM := hid hM
  have HDD := hid hD
  have HRN := hid H
  have HXS := hid hx
  have HHS := hid hh
  have hat' := hat
  obtain ⟨xk, xn, xs, xl⟩ := x
  obtain ⟨Ax, cx, rfl, hxc, hxk, hxn, hxss, hxl, hL⟩ := hat
  have HAT := hid hat'
  obtain ⟨xm, hxm⟩ : ∃ m, xl.length = m := ⟨_, rfl⟩
  rw [hxm] at HAT ⊢
  obtain ⟨x, hxx⟩ : ∃ x, x = It.mk xk xn xs xl := ⟨_, rfl⟩
  rw [← hxx] at HAT HXS ⊢
  clear hM hD H hx hh hat' hL hxm hxx
  obtain ⟨p, hp⟩ : ∃ p, schV ns x = p := ⟨_, rfl⟩
  have HP := hid hp
  rw [hp]
  clear hp
  obtain ⟨w1, hw1⟩ : ∃ w1, (w.alloc (.cells #[.slice A M c] 42)).alloc (.cells #[.int .i64 xk, .int .u64 xn, .string xs, .slice Ax xm cx] 25) = w1 := ⟨_, rfl⟩
  have HF1 := hid (two_box hw1).1
  have HS := hid (two_box hw1).2
  have HW1 := hid hw1
  clear hw1
  obtain ⟨c0, d0, d1, d2, d3⟩ := HS.out w1 (Fr.refl _ _)
  go_enter Tryd.func49, Tryd.ntmps49
  go_wp2_with fail
  rw [HW1.out]
  refine (scheck_calls ns A M c h w1 HM.out hc hMm (HDD.out.fr0 HF1.out) (HRN.out.fr0 HF1.out)).mono ?_
  rintro e w2 ⟨rfl, hf⟩
  have HF2 := hid hf
  obtain ⟨s1, s2, hs⟩ : ∃ s1 s2, checkS ns = (s1, s2) := ⟨_, _, rfl⟩
  have HSV := hid hs
  rw [hs]
  clear hf hs c0 d0 d1 d2 d3
  obtain ⟨c0, d0, d1, d2, d3⟩ := HS.out w2 HF2.out
  by_cases h0 : s2 = 0
  · subst h0
    go_wp2_with fail
    refine (check_calls x HXS.out lo hi _ w2 (Nat.le_trans HHS.out (HF1.out.trans HF2.out).size) (HDD.out.fr0 (HF1.out.trans HF2.out)) (HAT.out.fr0 (HF1.out.trans HF2.out) HHS.out)).mono ?_
    rintro e w3 ⟨rfl, hf⟩
    have HF3 := hid (HF2.out.then_ hf (fun _ _ h => h))
    obtain ⟨t, ht⟩ : ∃ t, x.check = t := ⟨_, rfl⟩
    have HT := hid ht
    rw [ht]
    clear hf ht c0 d0 d1 d2 d3
    obtain ⟨c0, d0, d1, d2, d3⟩ := HS.out w3 HF3.out
    by_cases h1 : t = 0
    · subst h1
      have HW := hid (check_wrong (ns := ns) (by rw [HSV.out]))
      have hM1 : 0 < M := by have := HW.out.1; have := HM.out; omega
      have HMC := hid (matches_calls ns (leads_of (by rw [HSV.out])) HW.out.2.2 A M c h HM.out hc hMm M 0 hM1 (by omega) x (good_of HT.out) HXS.out lo hi _ w3 (Nat.le_trans HHS.out (HF1.out.trans HF3.out).size) (HAT.out.fr0 (HF1.out.trans HF3.out) HHS.out) (HRN.out.fr0 (HF1.out.trans HF3.out)))
      have HE := hid (show p = (isV ns 0 x, 0) by rw [← HP.out, schV, HSV.out, HT.out]; simp)
      go_wp2_with fail
      refine HMC.out.mono ?_
      rintro e w4 ⟨rfl, hf⟩
      have HF4 := hid (HF3.out.then_ hf (fun _ _ h => h))
      obtain ⟨b, hb⟩ : ∃ b, isV ns 0 x = b := ⟨_, rfl⟩
      rw [hb] at HE ⊢
      clear hf hb c0 d0 d1 d2 d3
      go_wp2_with fail
      go_ret2
      exact ⟨ret_bi HE.out, HF1.out.trans HF4.out⟩
    · have hb : (t != 0) = true := bne_iff_ne.2 h1
      have HE := hid (show p = (false, t) by rw [← HP.out, schV, HSV.out, HT.out]; simp [h1])
      clear h1
      go_wp2_with fail
      go_ret2
      exact ⟨ret_bi HE.out, HF1.out.trans HF3.out⟩
  · have hb : (s2 != 0) = true := bne_iff_ne.2 h0
    have HE := hid (show p = (false, s2) by rw [← HP.out, schV, HSV.out]; simp [h0])
    clear h0
    go_wp2_with fail
    go_ret2
    exact ⟨ret_bi HE.out, HF1.out.trans HF2.out⟩

set_option maxRecDepth 100000 in
set_option maxHeartbeats 8000000 in
theorem mat_calls (ns : List Nod) (A : Option Addr) (M c h : Nat) (w : World) (hD : Dbl w) (hM : ns.length = M) (hc : M ≤ c) (hMm : M ≤ 1048576) (H : RdN w h A ns) (i : Int) (x : It) (hx : x.size ≤ 2000000) (lo hi : Nat) (cs : List Value) (hh : hi ≤ w.heap.size) (hat : ItAt w lo hi x cs) :
    Calls Tryd.prog 46 #[.agg #[.slice A M c], .int .i64 i, .agg cs.toArray] w fun e w' => e = .returned (.bool (matV ns i x)) ∧ Fr (fun _ => False) w w' := by
  have HM := hid hM
  have HRN := hid H
  have HXS := hid hx
  have HHS := hid hh
  have HSC := hid (fun w' (hf : Fr (fun _ => False) w w') => schema_calls ns A M c h w' (hD.fr0 hf) hM hc hMm (H.fr0 hf) x hx lo hi cs (Nat.le_trans hh hf.size) (hat.fr0 hf hh))
  have HMC := hid (fun w' (hf : Fr (fun _ => False) w w') (hz : (schV ns x).2 = 0) (j : Nat) (hj : j < M) => matches_calls ns (leads_of (schV_zero hz).1) (check_wrong (schV_zero hz).1).2.2 A M c h hM hc hMm M j hj (by omega) x (good_of (schV_zero hz).2) hx lo hi cs w' (Nat.le_trans hh hf.size) (hat.fr0 hf hh) (H.fr0 hf))
  have HIM := hid (show matV ns i x = (decide ((schV ns x).2 = 0) && decide (0 ≤ i) && decide (i < (M : Int)) && isV ns i.toNat x) by rw [matV, hM])
  obtain ⟨xk, xn, xs, xl⟩ := x
  obtain ⟨Ax, cx, rfl, hxc, hxk, hxn, hxss, hxl, hL⟩ := hat
  obtain ⟨xm, hxm⟩ : ∃ m, xl.length = m := ⟨_, rfl⟩
  rw [hxm] at HSC HMC ⊢
  obtain ⟨x, hxx⟩ : ∃ x, x = It.mk xk xn xs xl := ⟨_, rfl⟩
  rw [← hxx] at HSC HMC HIM HXS ⊢
  obtain ⟨r, hr⟩ : ∃ r, matV ns i x = r := ⟨_, rfl⟩
  rw [hr] at HIM ⊢
  obtain ⟨p1, p2, hp⟩ : ∃ p1 p2, schV ns x = (p1, p2) := ⟨_, _, rfl⟩
  rw [hp] at HSC HMC HIM
  simp only at HSC HMC HIM
  clear hM hD H hx hh hL hxm hxx hr hp
  obtain ⟨w1, hw1⟩ : ∃ w1, (w.alloc (.cells #[.slice A M c] 42)).alloc (.cells #[.int .i64 xk, .int .u64 xn, .string xs, .slice Ax xm cx] 25) = w1 := ⟨_, rfl⟩
  have HF1 := hid (two_box hw1).1
  have HS := hid (two_box hw1).2
  have HW1 := hid hw1
  clear hw1
  obtain ⟨c0, d0, d1, d2, d3⟩ := HS.out w1 (Fr.refl _ _)
  by_cases hp2 : p2 = 0
  · subst hp2
    by_cases hi0 : 0 ≤ i
    · by_cases him : i < (M : Int)
      · obtain ⟨j, rfl⟩ : ∃ j : Nat, i = (j : Int) := ⟨i.toNat, by omega⟩
        have HE := hid (show r = isV ns j x by rw [HIM.out, decide_eq_true hi0, decide_eq_true him]; simp)
        have HJ := hid (show j < M by omega)
        go_enter Tryd.func46, Tryd.ntmps46
        go_wp2_with fail
        rw [HW1.out]
        refine (HSC.out w1 HF1.out).mono ?_
        rintro e w2 ⟨rfl, hf⟩
        have HF2 := hid hf
        clear hf c0 d0 d1 d2 d3
        obtain ⟨c0, d0, d1, d2, d3⟩ := HS.out w2 HF2.out
        go_wp2_with fail
        refine (HMC.out w2 (HF1.out.trans HF2.out) trivial j HJ.out).mono ?_
        rintro e w3 ⟨rfl, hf⟩
        have HF3 := hid (HF2.out.then_ hf (fun _ _ h => h))
        rw [← HE.out]
        clear hf c0 d0 d1 d2 d3
        go_wp2_with fail
        go_ret
        exact ⟨rfl, HF1.out.trans HF3.out⟩
      · have HE := hid (show r = false by rw [HIM.out, decide_eq_false him]; simp)
        go_enter Tryd.func46, Tryd.ntmps46
        go_wp2_with fail
        rw [HW1.out]
        refine (HSC.out w1 HF1.out).mono ?_
        rintro e w2 ⟨rfl, hf⟩
        have HF2 := hid hf
        clear hf c0 d0 d1 d2 d3
        obtain ⟨c0, d0, d1, d2, d3⟩ := HS.out w2 HF2.out
        go_wp2_with fail
        go_ret
        exact ⟨ret_bool HE.out.symm, HF1.out.trans HF2.out⟩
    · have HE := hid (show r = false by rw [HIM.out, decide_eq_false hi0]; simp)
      go_enter Tryd.func46, Tryd.ntmps46
      go_wp2_with fail
      rw [HW1.out]
      refine (HSC.out w1 HF1.out).mono ?_
      rintro e w2 ⟨rfl, hf⟩
      have HF2 := hid hf
      clear hf c0 d0 d1 d2 d3
      obtain ⟨c0, d0, d1, d2, d3⟩ := HS.out w2 HF2.out
      go_wp2_with fail
      go_ret
      exact ⟨ret_bool HE.out.symm, HF1.out.trans HF2.out⟩
  · have hb : (p2 == 0) = false := beq_eq_false_iff_ne.2 hp2
    have HE := hid (show r = false by rw [HIM.out, decide_eq_false hp2]; simp)
    clear hp2
    go_enter Tryd.func46, Tryd.ntmps46
    go_wp2_with fail
    rw [HW1.out]
    refine (HSC.out w1 HF1.out).mono ?_
    rintro e w2 ⟨rfl, hf⟩
    have HF2 := hid hf
    clear hf c0 d0 d1 d2 d3
    obtain ⟨c0, d0, d1, d2, d3⟩ := HS.out w2 HF2.out
    go_wp2_with fail
    go_ret
    exact ⟨ret_bool HE.out.symm, HF1.out.trans HF2.out⟩

/-- The first nodes that an item matches. -/
noncomputable def setL (ns : List Nod) (x : It) : Nat → List Int
  | 0 => []
  | j + 1 => if matV ns j x = true then setL ns x j ++ [(j : Int)] else setL ns x j
theorem setL_len (ns : List Nod) (x : It) : ∀ j, (setL ns x j).length ≤ j
  | 0 => by simp [setL]
  | j + 1 => by
    have := setL_len ns x j
    unfold setL
    split
    · simp; omega
    · omega

set_option maxRecDepth 100000 in
set_option maxHeartbeats 8000000 in
theorem set_calls (ns : List Nod) (A : Option Addr) (M c h : Nat) (w : World) (hD : Dbl w) (hM : ns.length = M) (hc : M ≤ c) (hMm : M ≤ 1048576) (H : RdN w h A ns) (x : It) (hx : x.size ≤ 2000000) (lo hi : Nat) (cs : List Value) (hh : hi ≤ w.heap.size) (hat : ItAt w lo hi x cs) :
    Calls Tryd.prog 50 #[.agg #[.slice A M c], .agg cs.toArray] w fun e w' => ∃ A' c', e = .returned (.slice A' (setL ns x M).length c') ∧ App.Own .i64 3 w' w.heap.size (.slice A' (setL ns x M).length c') (setL ns x M) ∧ Fr (fun _ => False) w w' := by
  have HMC := hid (fun w' (hf : Fr (fun _ => False) w w') (i : Int) => mat_calls ns A M c h w' (hD.fr0 hf) hM hc hMm (H.fr0 hf) i x hx lo hi cs (Nat.le_trans hh hf.size) (hat.fr0 hf hh))
  have HM := hid hM
  obtain ⟨xk, xn, xs, xl⟩ := x
  obtain ⟨Ax, cx, rfl, hxc, hxk, hxn, hxss, hxl, hL⟩ := hat
  obtain ⟨xm, hxm⟩ : ∃ m, xl.length = m := ⟨_, rfl⟩
  rw [hxm] at HMC ⊢
  obtain ⟨x, hxx⟩ : ∃ x, x = It.mk xk xn xs xl := ⟨_, rfl⟩
  rw [← hxx] at HMC ⊢
  clear hM hD H hx hh hL hxm hxx
  obtain ⟨w1, hw1⟩ : ∃ w1, (w.alloc (.cells #[.slice A M c] 42)).alloc (.cells #[.int .i64 xk, .int .u64 xn, .string xs, .slice Ax xm cx] 25) = w1 := ⟨_, rfl⟩
  have HF1 := hid (two_box hw1).1
  have HS := hid (two_box hw1).2
  have HW1 := hid hw1
  clear hw1
  go_enter Tryd.func50, Tryd.ntmps50
  go_wp2_with fail
  rw [HW1.out]
  go_loopw [5, 10] (fun v5 v10 wr => ∃ (j : Nat) (A3 : Option Addr) (c3 : Nat), j ≤ M ∧ v10 = .int .i64 j ∧ v5 = .slice A3 (setL ns x j).length c3 ∧ Hid (App.Own .i64 3 wr w1.heap.size (.slice A3 (setL ns x j).length c3) (setL ns x j)) ∧ Hid (Fr (fun _ => False) w1 wr)) (fun _ v10 _ => M - (intOf v10).toNat)
  case atStart => exact ⟨0, none, 0, Nat.zero_le _, rfl, rfl, hid (Own.nil _ _ _ _), hid (Fr.refl _ _)⟩
  case round =>
    obtain ⟨j, A3, c3, hj, rfl, rfl, HO, HF⟩ := hrel
    obtain ⟨c0, d0, d1, d2, d3⟩ := HS.out wr HF.out
    have hul := setL_len ns x j
    have HSL := hid (show setL ns x (j + 1) = if matV ns j x = true then setL ns x j ++ [(j : Int)] else setL ns x j from rfl)
    obtain ⟨L, hL⟩ : ∃ L, setL ns x j = L := ⟨_, rfl⟩
    have HLL := hid hL
    rw [hL] at HO HSL hul ⊢
    clear hL
    by_cases hlt : j < M
    · have hj0 : (0 : Int) ≤ (j : Int) := by omega
      have hjm : (j : Int) < (M : Int) := by omega
      go_wp2_with fail
      refine (HMC.out wr (HF1.out.trans HF.out) j).mono ?_
      rintro e w2 ⟨rfl, hf⟩
      have HF2 := hid (HF.out.then_ hf (fun _ _ h => h))
      have HO2 := hid (App.Own.fr HO.out hf (fun _ _ h => h))
      obtain ⟨b, hb⟩ : ∃ b, matV ns j x = b := ⟨_, rfl⟩
      rw [hb] at HSL ⊢
      clear hf hb c0 d0 d1 d2 d3
      cases b with
      | true =>
        have HU := hid (show L ++ [(j : Int)] = setL ns x (j + 1) by rw [HSL.out, if_pos rfl])
        go_wp2_with (first
          | (refine wpList_app1 rfl (.tmp 17) (.tmp 19) 28 rfl 8 Tryd.underlying28 infoInt w2 (j : Int) 3 (.slice A3 L.length c3) L rfl HO2.out rfl (by omega) HF2.out.size ?_; intro v9 w9 h9 g9; have HO9 := hid h9.out; have HF9 := hid (g9.out (fun _ => False) w1 HF2.out (Nat.le_refl _)); obtain ⟨A9, c9, rfl, _⟩ := h9.out.form; clear h9 g9))
        go_roundw
        case rel => exact ⟨j + 1, A9, c9, by omega, by go_num, by rw [← HU.out]; simp, hid (by rw [← HU.out]; exact HO9.out), HF9⟩
        case measure => simp [intOf]; omega
      | false =>
        have HU := hid (show L = setL ns x (j + 1) by rw [HSL.out]; simp)
        go_wp2_with fail
        go_roundw
        case rel => exact ⟨j + 1, A3, c3, by omega, by go_num, by rw [← HU.out], hid (by rw [← HU.out]; exact HO2.out), HF2⟩
        case measure => simp [intOf]; omega
    · obtain rfl : j = M := by omega
      have HX := hid (HF1.out.trans HF.out)
      go_wp2_with fail
      go_ret
      rw [HLL.out]
      exact ⟨A3, c3, rfl, HO.out.mono HF1.out.size, HX.out⟩
end Go.Proofs.YtkmgiodhaaajjaaDoor.DenG
