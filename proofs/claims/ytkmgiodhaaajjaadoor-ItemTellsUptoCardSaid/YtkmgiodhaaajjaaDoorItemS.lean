/- Layer item: whether an item may be. -/
import Derived.Test.YtkmgiodhaaajjaaDoorItemR
import Derived.Test.YtkmgiodhaaajjaaDoorItemCE
set_option linter.unusedVariables false
set_option linter.unusedSimpArgs false
namespace Go.Proofs.YtkmgiodhaaajjaaDoor.ItemS
open Go Go.IntWalk Go.RowKit Go.Shelf Go.Proofs.YtkmgiodhaaajjaaDoor.Mem Go.Proofs.YtkmgiodhaaajjaaDoor.UtfP Go.Proofs.YtkmgiodhaaajjaaDoor.FloatP Go.Proofs.YtkmgiodhaaajjaaDoor.FloatB Go.Proofs.YtkmgiodhaaajjaaDoor.ItemP Go.Proofs.YtkmgiodhaaajjaaDoor.ItemM Go.Proofs.YtkmgiodhaaajjaaDoor.Own Go.Proofs.YtkmgiodhaaajjaaDoor.ItemA Go.Proofs.YtkmgiodhaaajjaaDoor.ItemB Go.Proofs.YtkmgiodhaaajjaaDoor.ItemC Go.Proofs.YtkmgiodhaaajjaaDoor.ItemD Go.Proofs.YtkmgiodhaaajjaaDoor.ItemE Go.Proofs.YtkmgiodhaaajjaaDoor.Range Go.Proofs.YtkmgiodhaaajjaaDoor.ItemR
attribute [local go_sem] Oper.semAt_some

theorem firstW_append_zero (a b : List (It × Nat)) (h : ∀ y ∈ a, y.1.wrong = 0) : firstW (a ++ b) = firstW b := by
  induction a with
  | nil => rfl
  | cons y a ih =>
    rw [List.cons_append, firstW, if_neg (by rw [h y (by simp)]; simp)]
    exact ih (fun z hz => h z (by simp [hz]))

theorem fr_own {S : Nat → Prop} {w3 A B : World} {row : Option Nat} (h : Fr S w3 A) (hg : A.grownBy B row) (hr : ∀ r, row = some r → w3.heap.size ≤ r) : Fr S w3 B :=
  ⟨hg.os.trans h.os, hg.tape.trans h.tape, hg.output.trans h.output, Nat.le_trans h.size hg.size, fun k hk hs => (hg.block k (Nat.lt_of_lt_of_le hk h.size) (fun e => by have := hr k e.symm; omega)).trans (h.block k hk hs)⟩
theorem blk_own {A B : World} {row : Option Nat} {g : Nat} {t : TypeId} {cs : Array Value} (h : Blk A g t cs) (hg : A.grownBy B row) (hr : ∀ r, row = some r → ∃ o : Obj, A.heap[r]? = some o ∧ o.isCells = false) : Blk B g t cs :=
  (grownBy_keeps_cells hg hr h rfl).trans h
theorem blk_put {A : World} {D : Nat} {o o' : Obj} {g : Nat} {t : TypeId} {cs : Array Value} (h : Blk A g t cs) (ho : A.heap[D]? = some o) (hc : o.isCells = false) : Blk (A.putObj D o') g t cs :=
  blk_own h (grownBy_putObj' A D o') (fun r e => by cases e; exact ⟨_, ho, hc⟩)

set_option maxRecDepth 100000 in
set_option maxHeartbeats 4000000 in
theorem check_calls (x : It) (hx : x.size ≤ 2000000) (lo hi : Nat) (cs : List Value) (w : World) (hh : hi ≤ w.heap.size) (hD : Dbl w) (h : ItAt w lo hi x cs) :
    Calls Tryd.prog 21 #[.agg cs.toArray] w fun e w' => e = .returned (.int .i64 x.check) ∧ Fr (fun _ => False) w w' := by
  have HAT := hid h
  have HX := hid hx
  obtain ⟨xx, hxx⟩ : ∃ xx, xx = x := ⟨_, rfl⟩
  have HXX := hid hxx
  obtain ⟨k, n, s, l⟩ := x
  obtain ⟨A, c, rfl, hc, hk, hn, hs, hl, hL⟩ := h
  obtain ⟨m, hm⟩ : ∃ m, l.length = m := ⟨_, rfl⟩
  have HM := hid hm
  rw [hm] at HAT ⊢
  rw [← hxx] at HAT HX ⊢
  obtain ⟨r, hr⟩ : ∃ r, xx.check = r := ⟨_, rfl⟩
  have HR := hid hr
  rw [hr]
  obtain ⟨w1, hw1⟩ : ∃ w1, (w.alloc (.cells #[.int .i64 k, .int .u64 n, .string s, .slice A m c] 25)).alloc (.cells #[.int .i64 0] 35) = w1 := ⟨_, rfl⟩
  have HF1 := hid (show Fr (fun _ => False) w w1 by rw [← hw1]; exact ((Fr.refl _ w).alloc _).alloc _)
  have HB1 := hid (show Blk w1 w.heap.size 25 #[.int .i64 k, .int .u64 n, .string s, .slice A m c] by rw [← hw1]; exact (Blk.new w _ _).alloc _)
  have HB2 := hid (show Blk w1 (w.heap.size + 1) 35 #[.int .i64 0] by rw [← hw1]; have := Blk.new (w.alloc (.cells #[.int .i64 k, .int .u64 n, .string s, .slice A m c] 25)) 35 #[.int .i64 0]; rwa [World.size_alloc] at this)
  have HW1 := hid hw1
  have HSL := hid hh
  have HDD := hid hD
  have c0 := HB1.out.cell 0
  have c1 := HB1.out.cell 1
  have c2 := HB1.out.cell 2
  have c3 := HB1.out.cell 3
  simp at c0 c1 c2 c3
  clear hx hxx hk hn hs hl hL hm hr hw1 hh hD hc
  refine (callsIn_wide (n := 9)).1 ?_
  refine callsIn_of_wp_marks Tryd.func21 rfl trivial ?_ rfl
  simp only [Tryd.ntmps21, List.size_toArray, List.length_cons, List.length_nil, Nat.reduceAdd, Nat.reduceSub, Array.replicate_succ, Array.replicate_zero, List.push_toArray, List.append_toArray, List.nil_append, List.cons_append]
  gi_wp2_with fail
  rw [HW1.out]
  gi_wp2_with fail
  refine ⟨trivial, (callsIn_wide.2 (depth_calls 2000000 xx HX.out (Nat.le_refl _) lo hi _ w1 (Nat.le_trans HSL.out HF1.out.size) (HAT.out.fr0 HF1.out HSL.out))).mono ?_⟩
  rintro e w2 ⟨rfl, hf⟩
  have HF2 := hid (HF1.out.then_ hf (fun _ _ h => h))
  have d0 := cell_fr c0 hf
  have d1 := cell_fr c1 hf
  have d2 := cell_fr c2 hf
  have d3 := cell_fr c3 hf
  have HE2 := hid (HB2.out.fr hf (fun h => h))
  have f0 := HE2.out.cell 0
  have f1 := HE2.out.frozen 0
  simp at f0
  clear hf c0 c1 c2 c3
  obtain ⟨dp, hdp⟩ : ∃ dp, xx.depth = dp := ⟨_, rfl⟩
  have HDP := hid hdp
  rw [hdp]
  clear hdp
  by_cases hd : 64 < dp
  · have HRE := hid (show r = 3 by rw [← HR.out, It.check, if_pos (by rw [HDP.out]; exact hd)])
    have hd' : (64 : Int) < (dp : Int) := by omega
    gi_wp2_with fail
    have h5 := (HE2.out.set_ 0 (.int .i64 3)).cell 0
    simp at h5
    refine ⟨.int .i64 3, ?_, ?_⟩
    · simp [results, Tryd.f21, go_sem, h5]
    · rw [HRE.out]
      exact ⟨rfl, HF2.out.setCell (.inr (by simp)) _⟩
  · have hd' : ¬ (64 : Int) < (dp : Int) := by omega
    gi_wp2_with fail
    refine ⟨trivial, (callsIn_wide.2 (all_calls [] k n s A m c w2)).mono ?_⟩
    rintro e w3 ⟨rfl, hB3, hf3⟩
    have HB3 := hid hB3
    have HF3 := hid (HF2.out.then_ hf3 (fun _ _ h => h))
    have HE3 := hid (HE2.out.fr hf3 (fun h => h))
    have HFW := hid (show ∀ S : Nat → Prop, ∀ w', Fr S w3 w' → (∀ k, k < w.heap.size → ¬ S k) → Fr (fun _ => False) w w' from fun S w' h hS => by
      have h0 := HF3.out
      exact ⟨h.os.trans h0.os, h.tape.trans h0.tape, h.output.trans h0.output, Nat.le_trans h0.size h.size, fun i hi hn => (h.block i (Nat.lt_of_lt_of_le hi h0.size) (hS i hi)).trans (h0.block i hi hn)⟩)
    have hw3 : w.heap.size + 1 < w3.heap.size := HE3.out.lt
    clear d0 d1 d2 d3 f0 f1 hB3 hf3
    gi_wp2_with fail
    refine wpIn_rangeFunc_ownH rfl (by omega) (gf := 70) (lb := #[.pointer (some ⟨w2.heap.size, 0, none⟩)]) rfl trivial (enters_of Tryd.func70 (by kernel_rfl) rfl)
      (all_stops Fence.wide rfl _ trivial trivial rfl 0 w lo hi 2000000 (fun _ => False) (fun _ _ _ h => h) (fun _ h => h.elim) (Nat.le_refl _) xx _ HX.out HAT.out w3 (Nat.zero_le _) (Kc.fr HF3.out) _ HB3.out) (fun h k => h.trans k) (fun W l o o' _ hl ho _ => Kc.put o' hl ho) (Below.refl _ _) (fun _ => rfl)
      (fun pre W => Fr (fun _ => False) w3 W ∧ ∀ v ∈ pre, v.1.1.wrong = 0)
      (fun c pre W => c = .ret ∧ (∃ p v, pre = p ++ [v] ∧ (∀ u ∈ p, u.1.1.wrong = 0) ∧ v.1.1.wrong ≠ 0 ∧ Blk W (w.heap.size + 1) 35 #[.int .i64 v.1.1.wrong]) ∧ Fr (fun b => b = w.heap.size + 1) w3 W)
      (fun s A B row hs hg hr => ⟨fr_own hs.1 hg (fun r e => (hr r e).1), hs.2⟩)
      (fun c s A B row hs hg hr => ⟨hs.1, by
        obtain ⟨p, v, h1, h2, h3, h4⟩ := hs.2.1
        exact ⟨p, v, h1, h2, h3, blk_own h4 hg (fun r e => (hr r e).2)⟩, fr_own hs.2.2 hg (fun r e => (hr r e).1)⟩)
      ⟨Fr.refl _ _, fun v hv => by simp at hv⟩
      (fun v a' W => ∃ Bx, w3.heap.size ≤ Bx ∧ Blk W Bx 25 v.1.2.2.toArray ∧ a' = { tmps := #[.agg #[.int .i64 k, .int .u64 n, .string s, .slice A m c], .pointer (some ⟨w.heap.size, 0, none⟩), .pointer (some ⟨w.heap.size + 1, 0, none⟩), undef, .pointer (some ⟨Bx, 0, none⟩), undef, .agg #[.int .i64 k, .int .u64 n, .string s, .slice A m c], .int .i64 dp, .bool (decide (64 < (dp : Int))), .agg #[.int .i64 k, .int .u64 n, .string s, .slice A m c], .func (.func 70) #[] #[.pointer (some ⟨w2.heap.size, 0, none⟩)], .int .i64 v.1.2.1, .agg v.1.2.2.toArray, undef, undef, undef, undef, undef], defers := [] })
      (fun v a' s A B row hs hg hr => by
        obtain ⟨Bx, h1, h2, h3⟩ := hs
        exact ⟨Bx, h1, blk_own h2 hg (fun r e => (hr r e).2), h3⟩) ?assign ?body ?done ?stop
    case assign =>
      rintro l pre ⟨⟨y, dy, cs⟩, hy, hyz⟩ W K ⟨hf, hp⟩ hK
      obtain ⟨k', n', s', l'⟩ := y
      have hy' := hy
      obtain ⟨A', c', rfl, _⟩ := hy'
      simp only [visE]
      gi_wp2_with fail
      exact hK _ _ ((KeepsOthers.alloc _ _).from _) (Kc.alloc _ _) ⟨hf.alloc _, hp⟩ ⟨W.heap.size, hf.size, Blk.new W _ _, rfl⟩
    case body =>
      rintro l pre v a' W hl hrec ⟨hf, hp⟩ ⟨Bx, hBx, hb, rfl⟩ hlt
      have hy := v.2.1
      have hyz := v.2.2
      obtain ⟨y, hyv⟩ : ∃ y, v.1.1 = y := ⟨_, rfl⟩
      obtain ⟨dy, hdy⟩ : ∃ dy, v.1.2.1 = dy := ⟨_, rfl⟩
      obtain ⟨cs, hcs⟩ : ∃ cs, v.1.2.2 = cs := ⟨_, rfl⟩
      rw [hyv, hcs] at hy
      rw [hyv] at hyz
      rw [hcs] at hb ⊢
      rw [hdy]
      have HYV := hid hyv
      have HY := hid hy
      have HYZ := hid hyz
      obtain ⟨yy, hyy⟩ : ∃ yy, yy = y := ⟨_, rfl⟩
      rw [← hyy] at HYV HY HYZ
      obtain ⟨k', n', s', l'⟩ := y
      obtain ⟨A', c', rfl, _⟩ := hy
      clear hyv hdy hcs hyz hyy
      have HPW := hid hp
      have HF := hid hf
      have HFA := hid (HFW.out _ W hf (fun _ _ h => h))
      have HB := hid hb
      have c0 := hb.cell 0
      have c1 := hb.cell 1
      have c2 := hb.cell 2
      have c3 := hb.cell 3
      have HE4 := hid (HE3.out.fr hf (fun h => h))
      have f0 := HE4.out.cell 0
      have f1 := HE4.out.frozen 0
      simp at c0 c1 c2 c3 f0
      obtain ⟨e', he'⟩ : ∃ e', yy.wrong = e' := ⟨_, rfl⟩
      have HEW := hid he'
      clear hp hf hb hlt hrec he'
      gi_wp2_with fail
      refine ⟨trivial, (CallsIn.inRound l (callsIn_wide.2 (wrong_calls _ HYZ.out lo hi _ W (Nat.le_trans HSL.out HFA.out.size) (HDD.out.fr0 HFA.out) (HY.out.fr0 HFA.out HSL.out)))).mono ?_⟩
      rintro e w4 ⟨rfl, hf4⟩
      rw [HEW.out]
      have HF4 := hid hf4
      have HE5 := hid (HE4.out.fr hf4 (fun h => h))
      clear f0 f1 c0 c1 c2 c3 hf4
      have f0 := HE5.out.cell 0
      have f1 := HE5.out.frozen 0
      simp at f0
      by_cases he : e' = 0
      · have he1 : (e' != 0) = false := by rw [he]; rfl
        have HEE := hid he
        clear he
        gi_wp2_with fail
        refine ⟨⟨HF4.out.size, fun k o _ hk _ => (HF4.out.block k (lt_of_heap hk) (fun h => h)).trans hk⟩, Kc.fr HF4.out, HF.out.then_ HF4.out (fun _ _ h => h), fun u hu => ?_⟩
        rcases List.mem_append.1 hu with h | h
        · exact HPW.out u h
        · obtain rfl := List.mem_singleton.1 h
          rw [HYV.out, HEW.out, HEE.out]
      · have he1 : (e' != 0) = true := bne_iff_ne.2 he
        have HEE := hid he
        clear he
        gi_wp2_with fail
        refine ⟨(KeepsFrom.trans ⟨HF4.out.size, fun k o _ hk _ => (HF4.out.block k (lt_of_heap hk) (fun h => h)).trans hk⟩ ((KeepsOthers.setCell _ _ _).from _)), rfl, ⟨pre, v, rfl, HPW.out, by rw [HYV.out, HEW.out]; exact HEE.out, ?_⟩, ?_⟩
        · rw [HYV.out, HEW.out]
          exact HE5.out.set_ 0 (.int .i64 e')
        · exact ((HF.out.then_ HF4.out (fun _ _ h => h)).mono (fun _ _ h => h.elim)).setCell (S := fun b => b = w.heap.size + 1) (.inl rfl) _
    case done =>
      rintro D xs W hD hS ⟨hf, hz⟩ hK
      have HE4 := hid (HE3.out.fr hf (fun h => h))
      have f0 := HE4.out.cell 0
      have f1 := HE4.out.frozen 0
      simp at f0
      have HRE := hid (show r = 0 by
        rw [← HR.out, It.check, if_neg (by rw [HDP.out]; exact hd), ← hS]
        have := firstW_append_zero (prs xs) [] (fun y hy => by
          obtain ⟨v, hv, rfl⟩ := List.mem_map.1 hy
          exact hz v hv)
        rw [List.append_nil] at this
        rw [this]
        rfl)
      have HF := hid hf
      clear hf hz hS
      gi_wp2_with fail
      have hK' := (KeepsOthers.setCell W ⟨w.heap.size + 1, 0, none⟩ (.int .i64 0)).same D _ hK rfl
      have hB6 := blk_put (o' := .deferred none) (HE4.out.set_ 0 (.int .i64 0)) hK' rfl
      have h6 := hB6.cell 0
      simp at h6
      refine ⟨by simp, .inl ⟨_, _, rfl, run_takeDeferred hK', ?_⟩⟩
      refine ⟨.int .i64 0, ?_, ?_⟩
      · simp [results, Tryd.f21, go_sem, h6]
      · rw [HRE.out]
        refine ⟨rfl, HFW.out (fun k => w.heap.size ≤ k) _ ?_ (fun k hk h => by omega)⟩
        exact (Fr.grown (grownBy_putObj' _ D (.deferred none)) (by show w.heap.size ≤ D; omega)) |> fun h => ((HF.out.mono (fun _ _ h => h.elim)).setCell (S := fun k => w.heap.size ≤ k) (p := ⟨w.heap.size + 1, 0, none⟩) (.inl (by show w.heap.size ≤ w.heap.size + 1; omega)) (.int .i64 0)).trans h
    case stop =>
      rintro D c pre W hD hS ⟨rfl, ⟨p, v, rfl, hp, hv, hb⟩, hf⟩ hK
      have HRE := hid (show r = v.1.1.wrong by
        rw [← HR.out, It.check, if_neg (by rw [HDP.out]; exact hd)]
        obtain ⟨t, ht⟩ := hS
        rw [← ht, prs_append, List.append_assoc, firstW_append_zero (prs p) _ (fun y hy => by
          obtain ⟨u, hu, rfl⟩ := List.mem_map.1 hy
          exact hp u hu)]
        show firstW ((v.1.1, v.1.2.1) :: t) = _
        rw [firstW, if_pos hv])
      have HF := hid hf
      obtain ⟨e', he'⟩ : ∃ e', v.1.1.wrong = e' := ⟨_, rfl⟩
      rw [he'] at hb HRE
      have HB := hid hb
      clear hf hb hv hp hS he'
      gi_wp2_with fail
      have hB6 := blk_put (o' := .deferred none) HB.out hK rfl
      have h6 := hB6.cell 0
      simp at h6
      refine ⟨by simp, .inl ⟨_, _, rfl, run_takeDeferred hK, ?_⟩⟩
      refine ⟨.int .i64 e', ?_, ?_⟩
      · simp [results, Tryd.f21, go_sem, h6]
      · rw [HRE.out]
        refine ⟨rfl, HFW.out (fun k => w.heap.size ≤ k) _ ?_ (fun k hk h => by omega)⟩
        exact (HF.out.mono (fun k _ h => by rw [h]; show w.heap.size ≤ w.heap.size + 1; omega)).trans (Fr.grown (grownBy_putObj' _ D (.deferred none)) (by show w.heap.size ≤ D; omega))
end Go.Proofs.YtkmgiodhaaajjaaDoor.ItemS
