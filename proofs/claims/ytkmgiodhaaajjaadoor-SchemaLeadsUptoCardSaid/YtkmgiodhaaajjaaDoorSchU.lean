/- Layer schema: Leads; the law SchemaLeads. -/
import Derived.Test.YtkmgiodhaaajjaaDoorSchT
import Derived.Test.YtkmgiodhaaajjaaDoorDbl
set_option linter.unusedVariables false
set_option linter.unusedSimpArgs false
namespace Go.Proofs.YtkmgiodhaaajjaaDoor.SchU
open Go.IntWalk Go.RowKit Go.Proofs.YtkmgiodhaaajjaaDoor.Mem Go.Proofs.YtkmgiodhaaajjaaDoor.App Go.Proofs.YtkmgiodhaaajjaaDoor.FloatB Go.Proofs.YtkmgiodhaaajjaaDoor.ItemP Go.Proofs.YtkmgiodhaaajjaaDoor.ItemM Go.Proofs.YtkmgiodhaaajjaaDoor.ItemU Go.Proofs.YtkmgiodhaaajjaaDoor.ItemT Go.Proofs.YtkmgiodhaaajjaaDoor.SchP Go.Proofs.YtkmgiodhaaajjaaDoor.SchM Go.Proofs.YtkmgiodhaaajjaaDoor.SchA Go.Proofs.YtkmgiodhaaajjaaDoor.SchB Go.Proofs.YtkmgiodhaaajjaaDoor.SchC Go.Proofs.YtkmgiodhaaajjaaDoor.SchF Go.Proofs.YtkmgiodhaaajjaaDoor.SchG Go.Proofs.YtkmgiodhaaajjaaDoor.SchI Go.Proofs.YtkmgiodhaaajjaaDoor.SchJ Go.Proofs.YtkmgiodhaaajjaaDoor.SchK Go.Proofs.YtkmgiodhaaajjaaDoor.SchL Go.Proofs.YtkmgiodhaaajjaaDoor.SchN Go.Proofs.YtkmgiodhaaajjaaDoor.SchO Go.Proofs.YtkmgiodhaaajjaaDoor.SchQ Go.Proofs.YtkmgiodhaaajjaaDoor.SchR Go.Proofs.YtkmgiodhaaajjaaDoor.SchT

set_option maxRecDepth 20000 in
set_option maxHeartbeats 2000000 in
/-- The document's Ints. -/
theorem rints_calls (A B : Option Addr) (n m c d : Nat) (xs ys : List Int) (w : World) (hn : xs.length = n) (hm : ys.length = m) (hc : n ≤ c) (hd : m ≤ d) (hl : n ≤ 140737488355328) (hx : RdI .i64 w A xs) (hy : RdI .i64 w B ys) :
    Calls Tryd.prog 33 #[.slice A n c, .slice B m d] w fun e w' => e = .returned (.bool (decide (xs = ys))) ∧ Fr (fun _ => False) w w' := by
  have HN := hid hn
  have HM := hid hm
  have HX := hid hx
  have HY := hid hy
  clear hn hm hx hy
  by_cases hnm : n = m
  · subst hnm
    go_enter Tryd.func33, Tryd.ntmps33
    go_wp2_with fail
    go_loopw [5] (fun i wr => ∃ j : Nat, j ≤ n ∧ i = .int .i64 j ∧ Hid (∀ i, i < j → xs.getD i 0 = ys.getD i 0) ∧ Hid (Fr (fun _ => False) w wr)) (fun i _ => n - (intOf i).toNat)
    case atStart => exact ⟨0, Nat.zero_le _, rfl, hid (fun i hi => by omega), hid (Fr.refl _ _)⟩
    case round =>
      obtain ⟨j, hj, rfl, HA, HF⟩ := hrel
      by_cases hlt : j < n
      · obtain ⟨ax, rfl, _, cx⟩ := HX.out.fr0 HF.out j (by rw [HN.out]; exact hlt)
        obtain ⟨ay, rfl, _, cy⟩ := HY.out.fr0 HF.out j (by rw [HM.out]; exact hlt)
        obtain ⟨x, hx⟩ : ∃ x, xs.getD j 0 = x := ⟨_, rfl⟩
        obtain ⟨y, hy⟩ : ∃ y, ys.getD j 0 = y := ⟨_, rfl⟩
        rw [hx] at cx
        rw [hy] at cy
        have HXE := hid hx
        have HYE := hid hy
        have hj0 : (0 : Int) ≤ (j : Int) := by omega
        have hjm : (j : Int) < (n : Int) := by omega
        have hjc : (j : Int) < (c : Int) := by omega
        have hjd : (j : Int) < (d : Int) := by omega
        clear hx hy
        by_cases he : x = y
        · subst he
          go_wp2_with fail
          go_quiet (fail)
          go_wp2_with fail
          go_roundw
          case rel => exact ⟨j + 1, by omega, by go_num, hid (fun i hi => by
            by_cases h : i < j
            · exact HA.out i h
            · obtain rfl : i = j := by omega
              rw [HXE.out, HYE.out]), hid (HF.out.drewN _)⟩
          case measure => simp [intOf]; omega
        · have hb : (x != y) = true := bne_iff_ne.2 he
          have HE := hid he
          clear he
          go_wp2_with fail
          go_quiet (fail)
          go_wp2_with fail
          go_ret
          refine ⟨ret_bool ?_, HF.out.drewN _⟩
          rw [decide_eq_false]
          intro h
          rw [h] at HXE
          exact HE.out (HXE.out.symm.trans HYE.out)
      · obtain rfl : j = n := by omega
        go_wp2_with fail
        go_ret
        refine ⟨ret_bool ?_, HF.out⟩
        rw [decide_eq_true]
        exact agree_ext (by rw [HN.out, HM.out]) (fun i hi => HA.out i (by rw [HN.out] at hi; exact hi))
  · have hb : ((n : Int) != (m : Int)) = true := bne_iff_ne.2 (by omega)
    have HNM := hid hnm
    clear hnm
    go_enter Tryd.func33, Tryd.ntmps33
    go_wp2_with fail
    go_ret
    refine ⟨ret_bool ?_, Fr.refl _ _⟩
    rw [decide_eq_false]
    intro h
    exact HNM.out (by rw [← HN.out, ← HM.out, h])

/-- A block of truths. -/
def VecB (w : World) (g : Nat) (bs : List Bool) : Prop := Blk w g 4 (bs.map Value.bool).toArray
theorem VecB.at_ {w : World} {g : Nat} {bs : List Bool} (h : VecB w g bs) (i : Nat) (hi : i < bs.length) : w.cell? ⟨g, i, none⟩ = some (.bool (bs[i])) := by
  rw [Blk.cell h]
  simp [List.getElem?_eq_getElem hi]
theorem VecB.set_ {w : World} {g : Nat} {bs : List Bool} (h : VecB w g bs) (i : Nat) (u : Bool) : VecB (w.setCell ⟨g, i, none⟩ (.bool u)) g (bs.set i u) := by
  have := Blk.set_ h i (.bool u)
  unfold VecB
  simpa [List.map_set] using this
theorem VecB.fr {w w' : World} {g : Nat} {bs : List Bool} {S : Nat → Prop} (h : VecB w g bs) (hf : Fr S w w') (hg : ¬ S g) : VecB w' g bs := Blk.fr h hf hg
theorem infoBool : (Tryd.prog.info? 4).map (fun i => (i.zero, i.size, i.bytes)) = some (some (.bool false), 1, 1) := by kernel_rfl
theorem made_bools (w : World) (n : Nat) : VecB (w.alloc (.cells (madeCells (Value.bool false).cells n) 4)) w.heap.size (List.replicate n false) := by
  have h := Blk.new w 4 (madeCells (Value.bool false).cells n)
  unfold VecB
  have e : (madeCells (Value.bool false).cells n) = ((List.replicate n false).map Value.bool).toArray := by
    apply Array.ext'
    apply List.ext_getElem
    · simp [madeCells, Value.cells]
    · intro i h1 h2
      simp [madeCells, Value.cells, Nat.mod_one]
  rw [← e]
  exact h
/-- The nodes below i to which a node leads. -/
noncomputable def upL (ns : List Nod) (a i : Nat) : List Int := ((List.range i).filter (fun j => decide (Lead ns a j))).map fun j : Nat => (j : Int)
theorem upL_start {ns : List Nod} (hw : Wf ns) (a : Nat) : upL ns a a = [] := by
  unfold upL
  rw [List.map_eq_nil_iff, List.filter_eq_nil_iff]
  intro j hj
  rw [List.mem_range] at hj
  intro h
  have := (of_decide_eq_true h).le hw
  omega
theorem upL_yes {ns : List Nod} {a i : Nat} (h : Lead ns a i) : upL ns a (i + 1) = upL ns a i ++ [(i : Int)] := by
  unfold upL
  rw [List.range_succ, List.filter_append, List.map_append]
  simp [h]
theorem upL_no {ns : List Nod} {a i : Nat} (h : ¬ Lead ns a i) : upL ns a (i + 1) = upL ns a i := by
  unfold upL
  rw [List.range_succ, List.filter_append, List.map_append]
  simp [h]
theorem upL_len (ns : List Nod) (a i : Nat) : (upL ns a i).length ≤ i := by
  unfold upL
  rw [List.length_map]
  exact Nat.le_trans (List.length_filter_le _ _) (by simp)
/-- Which nodes are marked when those ahead of i are done. -/
def Mk (ns : List Nod) (a i k : Nat) : Prop := k = a ∨ ∃ j, ∃ hj : j < ns.length, j < i ∧ Lead ns a j ∧ (k : Int) ∈ ns[j].named
theorem mk_here {ns : List Nod} (hw : Wf ns) {a i : Nat} : Mk ns a i i ↔ Lead ns a i := by
  constructor
  · rintro (rfl | ⟨j, hj, _, h1, h2⟩)
    · exact .refl _
    · exact h1.snoc hj h2
  · intro h
    rcases h.last with rfl | ⟨j, hj, h1, h2⟩
    · exact .inl rfl
    · exact .inr ⟨j, hj, by have := (hw j hj _ h2).1; omega, h1, h2⟩

set_option maxRecDepth 100000 in
set_option maxHeartbeats 8000000 in
theorem leads_in (ns : List Nod) (hw : Wf ns) (A : Option Addr) (M c h : Nat) (hM : ns.length = M) (hc : M ≤ c) (hMm : M ≤ 256) (a : Nat) (ha : a < M) (w : World) (H : RdN w h A ns) :
    Calls Tryd.prog 37 #[.agg #[.slice A M c], .int .i64 a] w fun e w' => ∃ A' c', e = .returned (.slice A' (upL ns a M).length c') ∧ App.Own .i64 3 w' w.heap.size (.slice A' (upL ns a M).length c') (upL ns a M) ∧ Fr (fun _ => False) w w' := by
  have HM := hid hM
  have HR := hid H
  have HWF := hid hw
  clear hM H hw
  obtain ⟨w1, hw1⟩ : ∃ w1, w.alloc (.cells #[.slice A M c] 42) = w1 := ⟨_, rfl⟩
  have HF1 := hid (show Fr (fun _ => False) w w1 by rw [← hw1]; exact (Fr.refl _ w).alloc _)
  have HBS := hid (show Blk w1 w.heap.size 42 #[.slice A M c] by rw [← hw1]; exact Blk.new w _ _)
  have HW1 := hid hw1
  clear hw1
  have hmk := run_make_nc (P := Tryd.prog) 73 4 (.bool false) 1 Tryd.underlying73 infoBool M M (Nat.le_refl _) (by omega) (by omega) w1
  obtain ⟨w2, hw2⟩ : ∃ w2, w1.alloc (.cells (madeCells (Value.bool false).cells M) 4) = w2 := ⟨_, rfl⟩
  have HV2 := hid (show VecB w2 w1.heap.size (List.replicate M false) by rw [← hw2]; exact made_bools w1 M)
  have HF2 := hid (show Fr (fun _ => False) w1 w2 by rw [← hw2]; exact (Fr.refl _ w1).alloc _)
  have HZ2 := hid (show w2.heap.size = w1.heap.size + 1 by rw [← hw2]; simp)
  rw [hw2] at hmk
  have hz2 := HV2.out.at_ a (by simpa using ha)
  rw [List.getElem_replicate] at hz2
  have hf2 := Blk.frozen HV2.out a
  have ha0 : (0 : Int) ≤ (a : Int) := by omega
  have hna : ¬ (a : Int) < 0 := by omega
  have ham : (a : Int) < (M : Int) := by omega
  obtain ⟨g, hg⟩ : ∃ g, w1.heap.size = g := ⟨_, rfl⟩
  rw [hg] at hmk HV2 HZ2 hz2 hf2
  have HG := hid hg
  obtain ⟨s0, _⟩ := blk1 HBS.out
  clear hw2 hg
  go_enter Tryd.func37, Tryd.ntmps37
  go_upto_region 3 with fail
  rw [HW1.out]
  go_wp2_with fail
  have HV3 := hid (HV2.out.set_ a true)
  have HF3 := hid (show Fr (fun _ => False) w1 (w2.setCell ⟨g, a, none⟩ (.bool true)) from HF2.out.setCell (.inr (by rw [HG.out]; exact Nat.le_refl _)) _)
  clear hmk hz2 hf2 s0
  go_loopw [6, 7] (fun v6 v7 wr => ∃ (i : Nat) (A3 : Option Addr) (c3 : Nat) (bs : List Bool), a ≤ i ∧ i ≤ M ∧ v7 = .int .i64 i ∧ v6 = .slice A3 (upL ns a i).length c3 ∧ bs.length = M ∧ Hid (VecB wr g bs) ∧ Hid (∀ k (hk : k < bs.length), bs[k] = true ↔ Mk ns a i k) ∧ Hid (App.Own .i64 3 wr (g + 1) (.slice A3 (upL ns a i).length c3) (upL ns a i)) ∧ Hid (Fr (fun _ => False) w1 wr)) (fun _ v7 _ => M - (intOf v7).toNat)
  case atStart =>
    refine ⟨a, none, 0, (List.replicate M false).set a true, Nat.le_refl _, by omega, rfl, by rw [upL_start HWF.out]; rfl, by simp, HV3, hid (fun k hk => ?_), hid (by rw [upL_start HWF.out]; exact Own.nil _ _ _ _), HF3⟩
    rw [List.getElem_set]
    by_cases h1 : a = k
    · subst h1
      simp [Mk]
    · rw [if_neg h1]
      simp only [List.getElem_replicate, Bool.false_eq_true, false_iff]
      rintro (rfl | ⟨j, hj, hja, hl, _⟩)
      · exact h1 rfl
      · have := hl.le HWF.out; omega
  case round =>
    obtain ⟨i, A3, c3, bs, hai, hiM, rfl, rfl, hbs, HV, HK, HO, HF⟩ := hrel
    obtain ⟨s0, _⟩ := blk1 (HBS.out.fr HF.out (fun h => h))
    by_cases hlt : i < M
    · have hi0 : (0 : Int) ≤ (i : Int) := by omega
      have him : (i : Int) < (M : Int) := by omega
      have hic : (i : Int) < (c : Int) := by omega
      have hbi := HV.out.at_ i (by omega)
      obtain ⟨b, hb⟩ : ∃ b, bs[i]'(by omega) = b := ⟨_, rfl⟩
      have HBI := hid hb
      rw [hb] at hbi
      clear hb
      have HLI := hid (show b = true ↔ Lead ns a i by rw [← HBI.out]; exact (HK.out i (by omega)).trans (mk_here HWF.out))
      have HBL := hid hbs
      cases b with
      | false =>
        have HNL := hid (show ¬ Lead ns a i from fun h => by have := HLI.out.2 h; cases this)
        go_wp2_with fail
        go_roundw
        case rel => exact ⟨i + 1, A3, c3, bs, by omega, by omega, by go_num, by rw [upL_no HNL.out], HBL.out, HV, hid (fun k hk => (HK.out k hk).trans (by
          constructor
          · rintro (h1 | ⟨j, hj, h2, h3, h4⟩)
            · exact .inl h1
            · exact .inr ⟨j, hj, by omega, h3, h4⟩
          · rintro (h1 | ⟨j, hj, h2, h3, h4⟩)
            · exact .inl h1
            · have hne : j ≠ i := fun e => HNL.out (e ▸ h3)
              exact .inr ⟨j, hj, by omega, h3, h4⟩)), hid (by rw [upL_no HNL.out]; exact HO.out), HF⟩
        case measure => simp [intOf]; omega
      | true =>
        have HYL := hid (HLI.out.1 rfl)
        obtain ⟨ad, Av, cv, Al, cl, Af, cf, rfl, _, hnine, hr⟩ := RdN.at_ (HR.out.fr0 HF1.out) i (by rw [HM.out]; exact hlt)
        obtain ⟨n, hn⟩ : ∃ n, ns[i]'(by rw [HM.out]; exact hlt) = n := ⟨_, rfl⟩
        have HNA := hid hn
        rw [hn] at hnine hr
        have HRN := hid hr
        obtain ⟨x6, hx6⟩ : ∃ q, n.v.l.length = q := ⟨_, rfl⟩
        obtain ⟨x7, hx7⟩ : ∃ q, n.l.length = q := ⟨_, rfl⟩
        obtain ⟨x8, hx8⟩ : ∃ q, n.f.length = q := ⟨_, rfl⟩
        have HND := hid (ndC_eq n Av cv Al cl Af cf)
        unfold Nine at hnine
        rw [hx6, hx7, hx8] at hnine HND
        have HN9 := hid hnine
        have HNI := hid (fun w' (hf : Fr (fun _ => False) w1 w') => by
          have h := HN9.out
          have s1 := (blk1 HBS.out).1
          exact (⟨ItemB.cell_fr h.1 hf, ItemB.cell_fr h.2.1 hf, ItemB.cell_fr h.2.2.1 hf, ItemB.cell_fr h.2.2.2.1 hf, ItemB.cell_fr h.2.2.2.2.1 hf, ItemB.cell_fr h.2.2.2.2.2.1 hf, ItemB.cell_fr h.2.2.2.2.2.2.1 hf, ItemB.cell_fr h.2.2.2.2.2.2.2.1 hf, ItemB.cell_fr h.2.2.2.2.2.2.2.2 hf, ItemB.cell_fr s1 hf⟩ : _ ∧ _ ∧ _ ∧ _ ∧ _ ∧ _ ∧ _ ∧ _ ∧ _ ∧ _))
        have HGW := hid (show g < wr.heap.size from Blk.lt HV.out)
        have hul : (upL ns a i).length ≤ 256 := Nat.le_trans (upL_len _ _ _) (by omega)
        obtain ⟨L, hL⟩ : ∃ L, upL ns a i = L := ⟨_, rfl⟩
        have HLL := hid hL
        rw [hL] at HO hul ⊢
        have HBX := hid (Blk.new wr 3 #[.int .i64 i])
        have HOA := hid (HO.out.fr ((Fr.refl (fun _ => False) wr).alloc (.cells #[.int .i64 i] 3)) (fun _ _ h => h))
        clear hn hr s0 hnine hL hx6 hx7 hx8
        go_wp2_with (first
          | (refine wpList_app rfl (.tmp 38) (.tmp 40) 28 rfl 8 Tryd.underlying28 infoInt (.slice A3 L.length c3) L rfl HOA.out (some ⟨wr.heap.size, 0, none⟩) 1 1 rfl [(i : Int)] rfl (VecI.rd (show VecI .i64 3 _ wr.heap.size [(i : Int)] from HBX.out)) (by omega) (by have h1 := HGW.out; simp; omega) ?_; intro v6 w6 h6; have HO6 := hid h6.out.own; have HOL := hid (fun q (hq : (Value.slice A3 L.length c3).ownBlock = some q) => (HO.out.lt q hq).1); have HZ6 := hid h6.out.fr.size; have HF6 := hid (show Fr (fun _ => False) w1 w6 from (HF.out.alloc _).then_ h6.out.fr (fun q hq h => by have h1 := HOL.out q h; have h2 := HG.out; omega)); have HV6 := hid (VecB.fr (VecB.fr HV.out ((Fr.refl (fun _ => False) wr).alloc (.cells #[.int .i64 i] 3)) (fun h => h)) h6.out.fr (fun h => by have h1 := HOL.out g h; omega)); obtain ⟨A6, c6, rfl, _⟩ := h6.out.own.form; obtain ⟨n0, n1, n2, n3, n4, n5, n6, n7, n8, s0⟩ := HNI.out _ HF6.out; clear h6))
        rw [← HND.out]
        refine (named_calls n h Av cv Al cl Af cf w6 (HRN.out.fr0 HF6.out)).mono ?_
        rintro e w7 ⟨A7, c7', rfl, ho, hf⟩
        have HF7 := hid (HF6.out.then_ hf (fun _ _ h => h))
        have HV7 := hid (HV6.out.fr hf (fun h => h))
        have HO7 := hid (App.Own.fr HO6.out hf (fun _ _ h => h))
        have HNW := hid (show ∀ q, (Value.slice A6 (L ++ [(i : Int)]).length c6).ownBlock = some q → g + 1 ≤ q ∧ q < w7.heap.size from fun q hq => HO7.out.lt q hq)
        obtain ⟨nm, hnm⟩ : ∃ x, n.named = x := ⟨_, rfl⟩
        have HNM2 := hid hnm
        have HOS := hid ho
        rw [hnm] at HOS ⊢
        obtain ⟨p, hp⟩ : ∃ q, nm.length = q := ⟨_, rfl⟩
        have HP := hid hp
        rw [hp] at HOS ⊢
        have hp2 : p ≤ 2097152 := by
          have h1 := HP.out
          have h2 := HNM2.out
          have h3 := HRN.out.lm
          have h4 := HRN.out.fm
          rw [← h1, ← h2]
          simp only [Nod.named, List.length_append, List.length_map] at h3 h4 ⊢
          omega
        have hpc : p ≤ c7' := by
          obtain ⟨A', c', e1, e2, _⟩ := HOS.out.form
          injection e1 with _ e1 e3
          omega
        have HRD := hid HOS.out.rd.1
        have HGN := hid (show ∀ ad', A7 = some ad' → ad'.block ≠ g from fun ad' e => by
          have h1 := (HOS.out.lt ad'.block (by rw [e]; rfl)).1
          have h2 := HGW.out
          have h3 : wr.heap.size ≤ w6.heap.size := by
            have := (Blk.lt HV.out)
            exact Nat.le_trans (by simp) (show (wr.alloc (.cells #[.int .i64 (i : Int)] 3)).heap.size ≤ w6.heap.size from HZ6.out)
          omega)
        have HBS2 := hid hbs
        clear ho hf hnm hp n0 n1 n2 n3 n4 n5 n6 n7 n8 s0 hbi
        obtain ⟨wo, rfl⟩ : ∃ wo : World, wo = wr := ⟨_, rfl⟩
        go_wp2_with fail
        go_loopw [49] (fun v49 wr => ∃ (q : Nat) (bs2 : List Bool), q ≤ p ∧ v49 = .int .i64 q ∧ bs2.length = M ∧ Hid (VecB wr g bs2) ∧ Hid (∀ k (hk : k < bs2.length), bs2[k] = true ↔ (Mk ns a i k ∨ ∃ t, t < q ∧ nm.getD t 0 = (k : Int))) ∧ Hid (Fr (fun b => b = g) w7 wr)) (fun v49 _ => p - (intOf v49).toNat)
        case atStart => exact ⟨0, bs, Nat.zero_le _, rfl, HBS2.out, HV7, hid (fun k hk => by
          rw [HK.out k hk]
          constructor
          · exact fun h => .inl h
          · rintro (h | ⟨t, ht, _⟩)
            · exact h
            · omega), hid (Fr.refl _ _)⟩
        case round =>
          obtain ⟨q, bs2, hq, rfl, hb2, HVQ, HKQ, HFQ⟩ := hrel
          have HB2 := hid hb2
          by_cases hlq : q < p
          · obtain ⟨ax, rfl, hax, cx0⟩ := HRD.out q (by rw [HP.out]; exact hlq)
            have cx := (HFQ.out.cell (p := ax.add q) (by rw [block_of_add]; exact hax) (by rw [block_of_add]; exact HGN.out ax rfl)).trans cx0
            obtain ⟨x, hx⟩ : ∃ x, nm.getD q 0 = x := ⟨_, rfl⟩
            rw [hx] at cx
            have HXE := hid hx
            have hxb : (i : Int) < x ∧ x < (M : Int) := by
              have hxm : x ∈ nm := by
                rw [← hx]
                have hj' : q < nm.length := by rw [HP.out]; exact hlq
                simp [List.getD_eq_getElem?_getD, List.getElem?_eq_getElem hj']
              have := HWF.out i (by rw [HM.out]; exact hlt) x (by rw [HNA.out, HNM2.out]; exact hxm)
              rw [HM.out] at this
              exact this
            obtain ⟨k, hk⟩ : ∃ k : Nat, x = k := ⟨x.toNat, by omega⟩
            subst hk
            have hkm : k < M := by omega
            have hik : i < k := by omega
            have hk0 : (0 : Int) ≤ (k : Int) := by omega
            have hki : (k : Int) < (M : Int) := by omega
            have hikI : (i : Int) < (k : Int) := by omega
            have hq0 : (0 : Int) ≤ (q : Int) := by omega
            have hqm : (q : Int) < (p : Int) := by omega
            have hqc : (q : Int) < (c7' : Int) := by omega
            obtain ⟨bk, hbk⟩ : ∃ b, wr.cell? ⟨g, k, none⟩ = some (.bool b) := ⟨_, HVQ.out.at_ k (by omega)⟩
            have hfk := Blk.frozen HVQ.out k
            have HV9 := hid (HVQ.out.set_ k true)
            have HF9 := hid (HFQ.out.set1 k (.bool true))
            clear hx cx0 hxb
            go_wp2_with fail
            go_roundw
            case rel => exact ⟨q + 1, bs2.set k true, by omega, by go_num, by rw [List.length_set]; exact HB2.out, HV9, hid (fun k' hk' => by
              rw [List.length_set] at hk'
              rw [List.getElem_set]
              by_cases h1 : k = k'
              · subst h1
                rw [if_pos rfl]
                exact ⟨fun _ => .inr ⟨q, by omega, HXE.out⟩, fun _ => rfl⟩
              · rw [if_neg h1, HKQ.out k' hk']
                constructor
                · rintro (h | ⟨t, ht, he⟩)
                  · exact .inl h
                  · exact .inr ⟨t, by omega, he⟩
                · rintro (h | ⟨t, ht, he⟩)
                  · exact .inl h
                  · by_cases h2 : t = q
                    · subst h2
                      rw [HXE.out] at he
                      exact absurd (by omega) h1
                    · exact .inr ⟨t, by omega, he⟩), HF9⟩
            case measure => simp [intOf]; omega
          · obtain rfl : q = p := by omega
            have HFN := hid (show Fr (fun _ => False) w1 wr from HF7.out.then_ HFQ.out (fun b hb h => by have := HG.out; omega))
            have HON := hid (App.Own.fr HO7.out HFQ.out (fun b hb h => by have := (HNW.out b hb).1; omega))
            have HUL := hid (show L ++ [(i : Int)] = upL ns a (i + 1) by rw [upL_yes HYL.out, HLL.out])
            go_wp2_with fail
            go_roundw
            case rel => exact ⟨i + 1, A6, c6, bs2, by omega, by omega, by go_num, by rw [← HUL.out]; simp, HB2.out, HVQ, hid (fun k hk => (HKQ.out k hk).trans (by
              constructor
              · rintro ((h1 | ⟨j, hj, h2, h3, h4⟩) | ⟨t, ht, he⟩)
                · exact .inl h1
                · exact .inr ⟨j, hj, by omega, h3, h4⟩
                · refine .inr ⟨i, by rw [HM.out]; exact hlt, by omega, HYL.out, ?_⟩
                  rw [HNA.out, HNM2.out, ← he]
                  have hj' : t < nm.length := by rw [HP.out]; exact ht
                  simp [List.getD_eq_getElem?_getD, List.getElem?_eq_getElem hj']
              · rintro (h1 | ⟨j, hj, h2, h3, h4⟩)
                · exact .inl (.inl h1)
                · by_cases h5 : j = i
                  · subst h5
                    rw [HNA.out, HNM2.out] at h4
                    obtain ⟨t, ht, he⟩ := List.getElem_of_mem h4
                    exact .inr ⟨t, by rw [HP.out] at ht; exact ht, by simp [List.getD_eq_getElem?_getD, List.getElem?_eq_getElem ht, he]⟩
                  · exact .inl (.inr ⟨j, hj, by omega, h3, h4⟩))), hid (by rw [← HUL.out]; exact HON.out), HFN⟩
            case measure => simp [intOf]; omega
    · obtain rfl : i = M := by omega
      go_wp2_with fail
      go_ret
      exact ⟨A3, c3, rfl, App.Own.mono HO.out (by have h1 := HF1.out.size; have h2 := HG.out; omega), HF1.out.trans HF.out⟩

set_option maxRecDepth 20000 in
set_option maxHeartbeats 2000000 in
theorem leads_out (A : Option Addr) (M c : Nat) (a : Int) (ha : a < 0 ∨ (¬ a < 0 ∧ (M : Int) ≤ a)) (w : World) :
    Calls Tryd.prog 37 #[.agg #[.slice A M c], .int .i64 a] w fun e w' => e = .returned (.slice none 0 0) ∧ Fr (fun _ => False) w w' := by
  have HF := hid (fun o => show Fr (fun _ => False) w (w.alloc o) from (Fr.refl _ w).alloc o)
  rcases ha with h1 | ⟨h1, h2⟩
  all_goals
    go_enter Tryd.func37, Tryd.ntmps37
    go_wp2_with fail
    go_ret
    exact ⟨rfl, HF.out _⟩

set_option maxRecDepth 100000 in
set_option maxHeartbeats 8000000 in
theorem law_calls (ns : List Nod) (A : Option Addr) (M c h : Nat) (a : Int) (w : World) (hD : Dbl w) (hM : ns.length = M) (hc : M ≤ c) (hMm : M ≤ 1048576) (H : RdN w h A ns) :
    Calls Tryd.prog 6 #[.agg #[.slice A M c], .int .i64 a] w fun e w' => e = .returned (.bool true) ∧ Fr (fun _ => False) w w' := by
  have HM := hid hM
  have HR := hid H
  have HDD := hid hD
  clear hM H hD
  obtain ⟨w1, hw1⟩ : ∃ w1, w.alloc (.cells #[.slice A M c] 42) = w1 := ⟨_, rfl⟩
  have HF1 := hid (show Fr (fun _ => False) w w1 by rw [← hw1]; exact (Fr.refl _ w).alloc _)
  have HBS := hid (show Blk w1 w.heap.size 42 #[.slice A M c] by rw [← hw1]; exact Blk.new w _ _)
  have HW1 := hid hw1
  have HR1 := hid (HR.out.fr0 HF1.out)
  clear hw1
  go_enter Tryd.func6, Tryd.ntmps6
  go_wp2_with fail
  rw [HW1.out]
  refine (awake_calls w1 (HDD.out.fr0 HF1.out)).mono ?_
  rintro e w2 ⟨rfl, hf⟩
  have HF2 := hid hf
  clear hf
  obtain ⟨s0, _⟩ := blk1 (HBS.out.fr HF2.out (fun h => h))
  go_wp2_with fail
  refine (sgreat_calls ns A M c h w2 HM.out hc hMm (HR1.out.fr0 HF2.out)).mono ?_
  rintro e w3 ⟨⟨b, rfl⟩, hf⟩
  have HF3 := hid (HF2.out.then_ hf (fun _ _ h => h))
  clear hf s0
  obtain ⟨s0, _⟩ := blk1 (HBS.out.fr HF3.out (fun h => h))
  cases b with
  | true =>
    go_wp2_with fail
    go_ret
    exact ⟨rfl, HF1.out.trans HF3.out⟩
  | false =>
  go_wp2_with fail
  clear s0
  go_loopw [5] (fun v5 wr => ∃ i : Nat, i ≤ M ∧ v5 = .int .i64 i ∧ Hid (Fr (fun _ => False) w1 wr)) (fun v5 _ => M - (intOf v5).toNat)
  case atStart => exact ⟨0, Nat.zero_le _, rfl, HF3⟩
  case round =>
    obtain ⟨i, hi, rfl, HF⟩ := hrel
    obtain ⟨s0, _⟩ := blk1 (HBS.out.fr HF.out (fun h => h))
    by_cases hlt : i < M
    · obtain ⟨ad, Av, cv, Al, cl, Af, cf, rfl, _, hnine, hr⟩ := RdN.at_ HR1.out i (by rw [HM.out]; exact hlt)
      obtain ⟨n, hn⟩ : ∃ n, ns[i]'(by rw [HM.out]; exact hlt) = n := ⟨_, rfl⟩
      rw [hn] at hnine hr
      have HRN := hid hr
      obtain ⟨x6, hx6⟩ : ∃ q, n.v.l.length = q := ⟨_, rfl⟩
      obtain ⟨x7, hx7⟩ : ∃ q, n.l.length = q := ⟨_, rfl⟩
      obtain ⟨x8, hx8⟩ : ∃ q, n.f.length = q := ⟨_, rfl⟩
      have HND := hid (ndC_eq n Av cv Al cl Af cf)
      unfold Nine at hnine
      rw [hx6, hx7, hx8] at hnine HND
      have HN9 := hid hnine
      have HSS := hid (show ∀ w', Fr (fun _ => False) w1 w' → w'.cell? ⟨w.heap.size, 0, none⟩ = some (.slice (some ad) M c) ∧ w'.cell? (ad.add (i * 9)) = some (.int .i64 n.k) ∧ w'.cell? ⟨(ad.add (i * 9)).block, (ad.add (i * 9)).off + 1, none⟩ = some (.int .i64 n.lo) ∧ w'.cell? ⟨(ad.add (i * 9)).block, (ad.add (i * 9)).off + 2, none⟩ = some (.int .i64 n.hi) ∧ w'.cell? ⟨(ad.add (i * 9)).block, (ad.add (i * 9)).off + 3, none⟩ = some (.int .i64 n.v.k) ∧ w'.cell? ⟨(ad.add (i * 9)).block, (ad.add (i * 9)).off + 4, none⟩ = some (.int .u64 n.v.n) ∧ w'.cell? ⟨(ad.add (i * 9)).block, (ad.add (i * 9)).off + 5, none⟩ = some (.string n.v.s) ∧ w'.cell? ⟨(ad.add (i * 9)).block, (ad.add (i * 9)).off + 6, none⟩ = some (.slice Av x6 cv) ∧ w'.cell? ⟨(ad.add (i * 9)).block, (ad.add (i * 9)).off + 7, none⟩ = some (.slice Al x7 cl) ∧ w'.cell? ⟨(ad.add (i * 9)).block, (ad.add (i * 9)).off + 8, none⟩ = some (.slice Af x8 cf) ∧ Fr (fun _ => False) w1 w' from fun w' hf => by
        have h := HN9.out
        have s1 := (blk1 HBS.out).1
        exact ⟨ItemB.cell_fr s1 hf, ItemB.cell_fr h.1 hf, ItemB.cell_fr h.2.1 hf, ItemB.cell_fr h.2.2.1 hf, ItemB.cell_fr h.2.2.2.1 hf, ItemB.cell_fr h.2.2.2.2.1 hf, ItemB.cell_fr h.2.2.2.2.2.1 hf, ItemB.cell_fr h.2.2.2.2.2.2.1 hf, ItemB.cell_fr h.2.2.2.2.2.2.2.1 hf, ItemB.cell_fr h.2.2.2.2.2.2.2.2 hf, hf⟩)
      obtain ⟨nm, hnm⟩ : ∃ x, n.named = x := ⟨_, rfl⟩
      obtain ⟨p, hp⟩ : ∃ q, nm.length = q := ⟨_, rfl⟩
      have HNM := hid hnm
      have HP := hid hp
      have hp2 : p ≤ 2097152 := by
        have h3 := hr.lm
        have h4 := hr.fm
        rw [← hp, ← hnm]
        simp only [Nod.named, List.length_append, List.length_map] at h3 h4 ⊢
        omega
      have HP2 := hid hp2
      have H34 := hid (fun wx (hf : wx.cell? ⟨w.heap.size, 0, none⟩ = some (.slice (some ad) M c) ∧ wx.cell? (ad.add (i * 9)) = some (.int .i64 n.k) ∧ wx.cell? ⟨(ad.add (i * 9)).block, (ad.add (i * 9)).off + 1, none⟩ = some (.int .i64 n.lo) ∧ wx.cell? ⟨(ad.add (i * 9)).block, (ad.add (i * 9)).off + 2, none⟩ = some (.int .i64 n.hi) ∧ wx.cell? ⟨(ad.add (i * 9)).block, (ad.add (i * 9)).off + 3, none⟩ = some (.int .i64 n.v.k) ∧ wx.cell? ⟨(ad.add (i * 9)).block, (ad.add (i * 9)).off + 4, none⟩ = some (.int .u64 n.v.n) ∧ wx.cell? ⟨(ad.add (i * 9)).block, (ad.add (i * 9)).off + 5, none⟩ = some (.string n.v.s) ∧ wx.cell? ⟨(ad.add (i * 9)).block, (ad.add (i * 9)).off + 6, none⟩ = some (.slice Av x6 cv) ∧ wx.cell? ⟨(ad.add (i * 9)).block, (ad.add (i * 9)).off + 7, none⟩ = some (.slice Al x7 cl) ∧ wx.cell? ⟨(ad.add (i * 9)).block, (ad.add (i * 9)).off + 8, none⟩ = some (.slice Af x8 cf) ∧ Fr (fun _ => False) w1 wx) => (named_calls n h Av cv Al cl Af cf wx (HRN.out.fr0 hf.2.2.2.2.2.2.2.2.2.2)).mono (R' := fun e w' => (∃ A' c', e = .returned (.slice A' p c') ∧ RdI .i64 w' A' nm ∧ p ≤ c' ∧ Fr (fun _ => False) wx w') ∧ w'.cell? ⟨w.heap.size, 0, none⟩ = some (.slice (some ad) M c) ∧ w'.cell? (ad.add (i * 9)) = some (.int .i64 n.k) ∧ w'.cell? ⟨(ad.add (i * 9)).block, (ad.add (i * 9)).off + 1, none⟩ = some (.int .i64 n.lo) ∧ w'.cell? ⟨(ad.add (i * 9)).block, (ad.add (i * 9)).off + 2, none⟩ = some (.int .i64 n.hi) ∧ w'.cell? ⟨(ad.add (i * 9)).block, (ad.add (i * 9)).off + 3, none⟩ = some (.int .i64 n.v.k) ∧ w'.cell? ⟨(ad.add (i * 9)).block, (ad.add (i * 9)).off + 4, none⟩ = some (.int .u64 n.v.n) ∧ w'.cell? ⟨(ad.add (i * 9)).block, (ad.add (i * 9)).off + 5, none⟩ = some (.string n.v.s) ∧ w'.cell? ⟨(ad.add (i * 9)).block, (ad.add (i * 9)).off + 6, none⟩ = some (.slice Av x6 cv) ∧ w'.cell? ⟨(ad.add (i * 9)).block, (ad.add (i * 9)).off + 7, none⟩ = some (.slice Al x7 cl) ∧ w'.cell? ⟨(ad.add (i * 9)).block, (ad.add (i * 9)).off + 8, none⟩ = some (.slice Af x8 cf) ∧ Fr (fun _ => False) w1 w') (fun e w' g => by
        obtain ⟨A', c', h1, h2, h3⟩ := g
        rw [HNM.out, HP.out] at h1 h2
        have hpc : p ≤ c' := by
          obtain ⟨A2, c2, e1, e2, _⟩ := h2.form
          injection e1 with _ e1 e3
          omega
        exact ⟨⟨A', c', h1, h2.rd.1, hpc, h3⟩, HSS.out w' (hf.2.2.2.2.2.2.2.2.2.2.then_ h3 (fun _ _ h => h))⟩))
      have H35 := hid (fun wx (hf : wx.cell? ⟨w.heap.size, 0, none⟩ = some (.slice (some ad) M c) ∧ wx.cell? (ad.add (i * 9)) = some (.int .i64 n.k) ∧ wx.cell? ⟨(ad.add (i * 9)).block, (ad.add (i * 9)).off + 1, none⟩ = some (.int .i64 n.lo) ∧ wx.cell? ⟨(ad.add (i * 9)).block, (ad.add (i * 9)).off + 2, none⟩ = some (.int .i64 n.hi) ∧ wx.cell? ⟨(ad.add (i * 9)).block, (ad.add (i * 9)).off + 3, none⟩ = some (.int .i64 n.v.k) ∧ wx.cell? ⟨(ad.add (i * 9)).block, (ad.add (i * 9)).off + 4, none⟩ = some (.int .u64 n.v.n) ∧ wx.cell? ⟨(ad.add (i * 9)).block, (ad.add (i * 9)).off + 5, none⟩ = some (.string n.v.s) ∧ wx.cell? ⟨(ad.add (i * 9)).block, (ad.add (i * 9)).off + 6, none⟩ = some (.slice Av x6 cv) ∧ wx.cell? ⟨(ad.add (i * 9)).block, (ad.add (i * 9)).off + 7, none⟩ = some (.slice Al x7 cl) ∧ wx.cell? ⟨(ad.add (i * 9)).block, (ad.add (i * 9)).off + 8, none⟩ = some (.slice Af x8 cf) ∧ Fr (fun _ => False) w1 wx) => (rnamed_calls n h Av cv Al cl Af cf wx (HRN.out.fr0 hf.2.2.2.2.2.2.2.2.2.2)).mono (R' := fun e w' => (∃ A' c', e = .returned (.slice A' p c') ∧ RdI .i64 w' A' nm ∧ p ≤ c' ∧ Fr (fun _ => False) wx w') ∧ w'.cell? ⟨w.heap.size, 0, none⟩ = some (.slice (some ad) M c) ∧ w'.cell? (ad.add (i * 9)) = some (.int .i64 n.k) ∧ w'.cell? ⟨(ad.add (i * 9)).block, (ad.add (i * 9)).off + 1, none⟩ = some (.int .i64 n.lo) ∧ w'.cell? ⟨(ad.add (i * 9)).block, (ad.add (i * 9)).off + 2, none⟩ = some (.int .i64 n.hi) ∧ w'.cell? ⟨(ad.add (i * 9)).block, (ad.add (i * 9)).off + 3, none⟩ = some (.int .i64 n.v.k) ∧ w'.cell? ⟨(ad.add (i * 9)).block, (ad.add (i * 9)).off + 4, none⟩ = some (.int .u64 n.v.n) ∧ w'.cell? ⟨(ad.add (i * 9)).block, (ad.add (i * 9)).off + 5, none⟩ = some (.string n.v.s) ∧ w'.cell? ⟨(ad.add (i * 9)).block, (ad.add (i * 9)).off + 6, none⟩ = some (.slice Av x6 cv) ∧ w'.cell? ⟨(ad.add (i * 9)).block, (ad.add (i * 9)).off + 7, none⟩ = some (.slice Al x7 cl) ∧ w'.cell? ⟨(ad.add (i * 9)).block, (ad.add (i * 9)).off + 8, none⟩ = some (.slice Af x8 cf) ∧ Fr (fun _ => False) w1 w') (fun e w' g => by
        obtain ⟨A', c', h1, h2, h3⟩ := g
        rw [HNM.out, HP.out] at h1 h2
        have hpc : p ≤ c' := by
          obtain ⟨A2, c2, e1, e2, _⟩ := h2.form
          injection e1 with _ e1 e3
          omega
        exact ⟨⟨A', c', h1, h2.rd.1, hpc, h3⟩, HSS.out w' (hf.2.2.2.2.2.2.2.2.2.2.then_ h3 (fun _ _ h => h))⟩))
      have H33 := hid (fun wx (hf : wx.cell? ⟨w.heap.size, 0, none⟩ = some (.slice (some ad) M c) ∧ wx.cell? (ad.add (i * 9)) = some (.int .i64 n.k) ∧ wx.cell? ⟨(ad.add (i * 9)).block, (ad.add (i * 9)).off + 1, none⟩ = some (.int .i64 n.lo) ∧ wx.cell? ⟨(ad.add (i * 9)).block, (ad.add (i * 9)).off + 2, none⟩ = some (.int .i64 n.hi) ∧ wx.cell? ⟨(ad.add (i * 9)).block, (ad.add (i * 9)).off + 3, none⟩ = some (.int .i64 n.v.k) ∧ wx.cell? ⟨(ad.add (i * 9)).block, (ad.add (i * 9)).off + 4, none⟩ = some (.int .u64 n.v.n) ∧ wx.cell? ⟨(ad.add (i * 9)).block, (ad.add (i * 9)).off + 5, none⟩ = some (.string n.v.s) ∧ wx.cell? ⟨(ad.add (i * 9)).block, (ad.add (i * 9)).off + 6, none⟩ = some (.slice Av x6 cv) ∧ wx.cell? ⟨(ad.add (i * 9)).block, (ad.add (i * 9)).off + 7, none⟩ = some (.slice Al x7 cl) ∧ wx.cell? ⟨(ad.add (i * 9)).block, (ad.add (i * 9)).off + 8, none⟩ = some (.slice Af x8 cf) ∧ Fr (fun _ => False) w1 wx) (A' B' : Option Addr) (c' d' : Nat) (r1 : RdI .i64 wx A' nm) (r2 : RdI .i64 wx B' nm) (l1 : p ≤ c') (l2 : p ≤ d') => (rints_calls A' B' p p c' d' nm nm wx HP.out HP.out l1 l2 (by have := HP2.out; omega) r1 r2).mono (R' := fun e w' => e = .returned (.bool true) ∧ w'.cell? ⟨w.heap.size, 0, none⟩ = some (.slice (some ad) M c) ∧ w'.cell? (ad.add (i * 9)) = some (.int .i64 n.k) ∧ w'.cell? ⟨(ad.add (i * 9)).block, (ad.add (i * 9)).off + 1, none⟩ = some (.int .i64 n.lo) ∧ w'.cell? ⟨(ad.add (i * 9)).block, (ad.add (i * 9)).off + 2, none⟩ = some (.int .i64 n.hi) ∧ w'.cell? ⟨(ad.add (i * 9)).block, (ad.add (i * 9)).off + 3, none⟩ = some (.int .i64 n.v.k) ∧ w'.cell? ⟨(ad.add (i * 9)).block, (ad.add (i * 9)).off + 4, none⟩ = some (.int .u64 n.v.n) ∧ w'.cell? ⟨(ad.add (i * 9)).block, (ad.add (i * 9)).off + 5, none⟩ = some (.string n.v.s) ∧ w'.cell? ⟨(ad.add (i * 9)).block, (ad.add (i * 9)).off + 6, none⟩ = some (.slice Av x6 cv) ∧ w'.cell? ⟨(ad.add (i * 9)).block, (ad.add (i * 9)).off + 7, none⟩ = some (.slice Al x7 cl) ∧ w'.cell? ⟨(ad.add (i * 9)).block, (ad.add (i * 9)).off + 8, none⟩ = some (.slice Af x8 cf) ∧ Fr (fun _ => False) w1 w') (fun e w' g => ⟨by rw [g.1, decide_eq_true rfl], HSS.out w' (hf.2.2.2.2.2.2.2.2.2.2.then_ g.2 (fun _ _ h => h))⟩))
      have hi0 : (0 : Int) ≤ (i : Int) := by omega
      have him : (i : Int) < (M : Int) := by omega
      have hic : (i : Int) < (c : Int) := by omega
      clear hn hr hnine hx6 hx7 hx8 hnm hp
      go_wp2_with fail
      clear s0
      go_region_held3 (fun w' => w'.cell? ⟨w.heap.size, 0, none⟩ = some (.slice (some ad) M c) ∧ w'.cell? (ad.add (i * 9)) = some (.int .i64 n.k) ∧ w'.cell? ⟨(ad.add (i * 9)).block, (ad.add (i * 9)).off + 1, none⟩ = some (.int .i64 n.lo) ∧ w'.cell? ⟨(ad.add (i * 9)).block, (ad.add (i * 9)).off + 2, none⟩ = some (.int .i64 n.hi) ∧ w'.cell? ⟨(ad.add (i * 9)).block, (ad.add (i * 9)).off + 3, none⟩ = some (.int .i64 n.v.k) ∧ w'.cell? ⟨(ad.add (i * 9)).block, (ad.add (i * 9)).off + 4, none⟩ = some (.int .u64 n.v.n) ∧ w'.cell? ⟨(ad.add (i * 9)).block, (ad.add (i * 9)).off + 5, none⟩ = some (.string n.v.s) ∧ w'.cell? ⟨(ad.add (i * 9)).block, (ad.add (i * 9)).off + 6, none⟩ = some (.slice Av x6 cv) ∧ w'.cell? ⟨(ad.add (i * 9)).block, (ad.add (i * 9)).off + 7, none⟩ = some (.slice Al x7 cl) ∧ w'.cell? ⟨(ad.add (i * 9)).block, (ad.add (i * 9)).off + 8, none⟩ = some (.slice Af x8 cf) ∧ Fr (fun _ => False) w1 w')
        (first | exact HSS.out _ HF.out | exact HSS.out _ HF.out.drew | assumption)
        (first
          | ((go_at_call 34; (try rw [← HND.out]); with_reducible refine (H34.out _ (by assumption)).mono ?_; rintro e w34 ⟨⟨A34, c34, rfl, r34, l34, f34⟩, hS⟩; have R34 := hid r34; have F34 := hid f34; clear r34 f34))
          | ((go_at_call 35; (try rw [← HND.out]); with_reducible refine (H35.out _ (by assumption)).mono ?_; rintro e w35 ⟨⟨A35, c35, rfl, r35, l35, f35⟩, hS⟩; have R35 := hid r35; have F35 := hid f35; clear r35 f35))
          | ((go_at_call 33; with_reducible refine (H33.out _ (by assumption) _ _ _ _ (by first | exact R34.out | exact R34.out.fr0 F35.out) (by first | exact R35.out | exact R35.out.fr0 F34.out) l34 l35).mono ?_; rintro e w33 ⟨rfl, hS⟩)))
      all_goals
        have HF9 := hid hS.2.2.2.2.2.2.2.2.2.2
        go_wp2_with fail
        go_roundw
        case rel => exact ⟨i + 1, by omega, by go_num, HF9⟩
        case measure => simp [intOf]; omega
    · obtain rfl : i = M := by omega
      go_wp2_with fail
      refine (rcheck_calls ns A i c h wr HM.out hc hMm (HR1.out.fr0 HF.out)).mono ?_
      rintro e w5 ⟨rfl, hf⟩
      have HF5 := hid (HF.out.then_ hf (fun _ _ h => h))
      obtain ⟨ca, hca⟩ : ∃ x, (checkS ns).1 = x := ⟨_, rfl⟩
      obtain ⟨ce, hce⟩ : ∃ x, (checkS ns).2 = x := ⟨_, rfl⟩
      have HCE := hid hce
      rw [hca, hce]
      clear hf s0 hca hce
      obtain ⟨s0, _⟩ := blk1 (HBS.out.fr HF5.out (fun h => h))
      by_cases h0 : ce = 0
      · subst h0
        by_cases h12 : 12 < i
        · have h12' : (12 : Int) < (i : Int) := by omega
          go_wp2_with fail
          go_ret
          exact ⟨rfl, HF1.out.trans HF5.out⟩
        · have h12' : ¬ (12 : Int) < (i : Int) := by omega
          have HWF := hid (wf_of HCE.out)
          have hcase : (a < 0 ∨ (¬ a < 0 ∧ (i : Int) ≤ a)) ∨ (∃ a0 : Nat, a = (a0 : Int) ∧ a0 < i) := by
            by_cases h1 : a < 0 ∨ (i : Int) ≤ a
            · exact .inl (by omega)
            · exact .inr ⟨a.toNat, by omega, by omega⟩
          rcases hcase with hout | ⟨a0, rfl, ha0⟩
          · have HOUT := hid hout
            have hge : (a < 0) ∨ (0 ≤ a ∧ (i : Int) ≤ a) := by omega
            clear hout
            go_wp2_with fail
            clear s0
            obtain ⟨wo, rfl⟩ : ∃ wo : World, wo = wr := ⟨_, rfl⟩
            go_loopw [8, 9] (fun v8 v9 wr => v8 = .slice none 0 0 ∧ v9 = .int .i64 0 ∧ Hid (w5 = wr)) (fun _ _ _ => 0)
            case atStart => exact ⟨rfl, rfl, hid rfl⟩
            case round =>
              obtain ⟨rfl, rfl, HW⟩ := hrel
              obtain rfl := HW.out
              obtain ⟨s0, _⟩ := blk1 (HBS.out.fr HF5.out (fun h => h))
              have hg1 : (a < 0 ∧ ¬ 0 ≤ a) ∨ (0 ≤ a ∧ ¬ a < (i : Int)) := by omega
              clear hge
              rcases hg1 with ⟨g1, g2⟩ | ⟨g1, g2⟩
              all_goals
                go_wp2_with fail
                refine (leads_out A i c a (by have := HOUT.out; omega) w5).mono ?_
                rintro e w6 ⟨rfl, hf⟩
                have HF6 := hid (HF5.out.then_ hf (fun _ _ h => h))
                clear hf s0
                go_wp2_with fail
                refine (rints_calls none none 0 0 0 0 [] [] w6 rfl rfl (Nat.le_refl _) (Nat.le_refl _) (by omega) (rdI_nil _ _ _) (rdI_nil _ _ _)).mono ?_
                rintro e w7 ⟨rfl, hf⟩
                rw [decide_eq_true (p := ([] : List Int) = []) rfl]
                have HF7 := hid (HF6.out.then_ hf (fun _ _ h => h))
                clear hf
                go_wp2_with fail
                go_ret
                exact ⟨rfl, HF1.out.trans HF7.out⟩
          · have hz0 : (0 : Int) ≤ (a0 : Int) := by omega
            have hzm : (a0 : Int) < (i : Int) := by omega
            go_wp2_with fail
            clear s0
            obtain ⟨wo, rfl⟩ : ∃ wo : World, wo = wr := ⟨_, rfl⟩
            go_loopw [8, 9] (fun v8 v9 wr => ∃ (j : Nat) (A3 : Option Addr) (c3 : Nat), j ≤ i ∧ v9 = .int .i64 j ∧ v8 = .slice A3 (upL ns a0 j).length c3 ∧ Hid (App.Own .i64 3 wr w1.heap.size (.slice A3 (upL ns a0 j).length c3) (upL ns a0 j)) ∧ Hid (Fr (fun _ => False) w1 wr)) (fun _ v9 _ => i - (intOf v9).toNat)
            case atStart => exact ⟨0, none, 0, Nat.zero_le _, rfl, rfl, hid (Own.nil _ _ _ _), HF5⟩
            case round =>
              obtain ⟨j, A3, c3, hj, rfl, rfl, HO, HF7⟩ := hrel
              obtain ⟨s0, _⟩ := blk1 (HBS.out.fr HF7.out (fun h => h))
              obtain ⟨L, hL⟩ : ∃ L, upL ns a0 j = L := ⟨_, rfl⟩
              have HLL := hid hL
              have hul : L.length ≤ 300 := by rw [← hL]; exact Nat.le_trans (upL_len _ _ _) (by omega)
              rw [hL] at HO ⊢
              clear hL
              by_cases hlj : j < i
              · have hjm : (j : Int) < (i : Int) := by omega
                go_wp2_with fail
                refine (rleads_calls ns HWF.out A i c h HM.out hc hMm j hlj i a0 ha0 (by omega) wr (HR1.out.fr0 HF7.out)).mono ?_
                rintro e w8 ⟨rfl, hf⟩
                have HF8 := hid (HF7.out.then_ hf (fun _ _ h => h))
                have HO8 := hid (App.Own.fr HO.out hf (fun _ _ h => h))
                obtain ⟨b, hb⟩ : ∃ b, decide (Lead ns a0 j) = b := ⟨_, rfl⟩
                have HB := hid hb
                rw [hb]
                clear hf hb s0
                cases b with
                | true =>
                  have HU := hid (show L ++ [(j : Int)] = upL ns a0 (j + 1) by rw [upL_yes (of_decide_eq_true HB.out), HLL.out])
                  go_wp2_with (first
                    | (refine wpList_app1 rfl (.tmp 70) (.tmp 72) 28 rfl 8 Tryd.underlying28 infoInt w8 (j : Int) 3 (.slice A3 L.length c3) L rfl HO8.out rfl (by omega) HF8.out.size ?_; intro v9 w9 h9 g9; have HO9 := hid h9.out; have HF9 := hid (g9.out (fun _ => False) w1 HF8.out (Nat.le_refl _)); obtain ⟨A9, c9, rfl, _⟩ := h9.out.form; clear h9 g9))
                  go_roundw
                  case rel => exact ⟨j + 1, A9, c9, by omega, by go_num, by rw [← HU.out]; simp, hid (by rw [← HU.out]; exact HO9.out), HF9⟩
                  case measure => simp [intOf]; omega
                | false =>
                  have HU := hid (show L = upL ns a0 (j + 1) by rw [upL_no (of_decide_eq_false HB.out), HLL.out])
                  go_wp2_with fail
                  go_roundw
                  case rel => exact ⟨j + 1, A3, c3, by omega, by go_num, by rw [← HU.out], hid (by rw [← HU.out]; exact HO8.out), HF8⟩
                  case measure => simp [intOf]; omega
              · obtain rfl : j = i := by omega
                go_wp2_with fail
                refine (leads_in ns HWF.out A j c h HM.out hc (by omega) a0 ha0 wr (HR1.out.fr0 HF7.out)).mono ?_
                rintro e w8 ⟨A8, c8, rfl, ho, hf⟩
                have HF8 := hid (HF7.out.then_ hf (fun _ _ h => h))
                have HO8 := hid (App.Own.fr HO.out hf (fun _ _ h => h))
                rw [HLL.out] at ho ⊢
                have HG := hid ho
                obtain ⟨q, hq⟩ : ∃ q, L.length = q := ⟨_, rfl⟩
                have HQ := hid hq
                rw [hq] at HG HO8 hul ⊢
                have l1 : q ≤ c8 := by
                  obtain ⟨A2, c2, e1, e2, _⟩ := HG.out.form
                  injection e1 with _ e1 e3
                  omega
                have l2 : q ≤ c3 := by
                  obtain ⟨A2, c2, e1, e2, _⟩ := HO8.out.form
                  injection e1 with _ e1 e3
                  omega
                clear hf s0 ho hq
                go_wp2_with fail
                refine (rints_calls A8 A3 q q c8 c3 L L w8 HQ.out HQ.out l1 l2 (by omega) HG.out.rd.1 HO8.out.rd.1).mono ?_
                rintro e w9 ⟨rfl, hf⟩
                rw [decide_eq_true (p := L = L) rfl]
                have HF9 := hid (HF8.out.then_ hf (fun _ _ h => h))
                clear hf
                go_wp2_with fail
                go_ret
                exact ⟨rfl, HF1.out.trans HF9.out⟩
      · have hb : (ce != 0) = true := bne_iff_ne.2 h0
        clear h0
        go_wp2_with fail
        go_ret
        exact ⟨rfl, HF1.out.trans HF5.out⟩
end Go.Proofs.YtkmgiodhaaajjaaDoor.SchU
namespace Go.Proofs.YtkmgiodhaaajjaaDoor.SchV
open Go.ChangeShapes Go.RowKit Go.Proofs.YtkmgiodhaaajjaaDoor.Mem Go.Proofs.YtkmgiodhaaajjaaDoor.SchP Go.Proofs.YtkmgiodhaaajjaaDoor.SchM
theorem leads_law (A : Option Addr) (xs : List Nod) (c : Nat) (a : Int) (W : World) (hc : xs.length ≤ c) (hl : xs.length ≤ 1048576) (hx : RdN W W.heap.size A xs) (ha : (Lit.int .i64 a).wf = true) (hL : laidMetH Tryd.prog Rows.schemaLeadsUptoRow.laid W) :
    Calls Tryd.prog 6 #[.agg #[.slice A xs.length c], .int .i64 a] W fun e W' => e = .returned (.bool true) ∧ Below W.heap.size W W' :=
  (SchU.law_calls xs A _ c W.heap.size a W (Dbl.dbl hL) rfl hc hl hx).mono fun e w' h => ⟨h.1, h.2.toBelow (fun _ _ h => h)⟩
end Go.Proofs.YtkmgiodhaaajjaaDoor.SchV
