/- Layer item: the document's depth; is there more than is looked at? -/
import Derived.Test.YtkmgiodhaaajjaaDoorItemT
set_option linter.unusedVariables false
set_option linter.unusedSimpArgs false
namespace Go.Proofs.YtkmgiodhaaajjaaDoor.ItemU
open Go.IntWalk Go.RowKit Go.Proofs.YtkmgiodhaaajjaaDoor.Mem Go.Proofs.YtkmgiodhaaajjaaDoor.App Go.Proofs.YtkmgiodhaaajjaaDoor.ItemP Go.Proofs.YtkmgiodhaaajjaaDoor.ItemM Go.Proofs.YtkmgiodhaaajjaaDoor.Own Go.Proofs.YtkmgiodhaaajjaaDoor.ItemA Go.Proofs.YtkmgiodhaaajjaaDoor.ItemB Go.Proofs.YtkmgiodhaaajjaaDoor.Range Go.Proofs.YtkmgiodhaaajjaaDoor.ItemT

def IsB (e : Ending) : Prop := ∃ b, e = .returned (.bool b)
theorem most_ge (l : List (It × Nat)) : ∀ y ∈ l, y.2 ≤ most l := by
  induction l with
  | nil => intro y hy; simp at hy
  | cons x l ih =>
    intro y hy
    have h : most (x :: l) = max (max 0 x.2) (most l) := by
      rw [most, List.foldl_cons]
      exact most_from l _
    rw [h]
    rcases List.mem_cons.1 hy with rfl | hy
    · omega
    · have := ih y hy
      omega

set_option maxRecDepth 100000 in
set_option maxHeartbeats 4000000 in
theorem over_calls (N : Nat) : ∀ (x : It), x.size ≤ N → N ≤ 2000000 → ∀ (d : Nat), d ≤ 4000000 → ∀ (lo hi : Nat) (cs : List Value) (w : World), hi ≤ w.heap.size → ItAt w lo hi x cs →
    Calls Tryd.prog 69 #[.agg cs.toArray, .int .i64 d] w fun e w' => IsB e ∧ Fr (fun _ => False) w w' := by
  induction N with
  | zero => intro x hx; have := size_pos x; omega
  | succ N ih =>
    intro x hx hN d hd lo hi cs w hh hi_
    obtain ⟨k, n, s, l⟩ := x
    obtain ⟨A, c, rfl, hc, hk, hn, hs, hl, hL⟩ := hi_
    have HIH := hid ih
    have HSZ := hid hx
    obtain ⟨m, hm⟩ : ∃ m, l.length = m := ⟨_, rfl⟩
    have HM := hid hm
    have HL := hid hL
    rw [hm] at hc hl ⊢
    clear ih hx hL hm hk hn
    obtain ⟨w1, hw1⟩ : ∃ w1, w.alloc (.cells #[.int .i64 k, .int .u64 n, .string s, .slice A m c] 25) = w1 := ⟨_, rfl⟩
    have HF1 := hid (show Fr (fun _ => False) w w1 by rw [← hw1]; exact (Fr.refl _ w).alloc _)
    have HB1 := hid (show Blk w1 w.heap.size 25 #[.int .i64 k, .int .u64 n, .string s, .slice A m c] by rw [← hw1]; exact Blk.new w _ _)
    have HW1 := hid hw1
    have c0 := HB1.out.cell 0
    have c1 := HB1.out.cell 1
    have c2 := HB1.out.cell 2
    have c3 := HB1.out.cell 3
    simp at c0 c1 c2 c3
    clear hw1
    by_cases h0 : d = 0
    · subst h0
      go_enter Tryd.func69, Tryd.ntmps69
      go_wp2_with fail
      rw [HW1.out]
      go_wp2_with fail
      go_ret
      exact ⟨⟨_, rfl⟩, HF1.out⟩
    have e0 : ((d : Int) == 0) = false := beq_eq_false_iff_ne.2 (by omega)
    by_cases h1 : 200 < m
    · have h1' : (200 : Int) < (m : Int) := by omega
      clear h0
      go_enter Tryd.func69, Tryd.ntmps69
      go_wp2_with fail
      rw [HW1.out]
      go_wp2_with fail
      go_ret
      exact ⟨⟨_, rfl⟩, HF1.out⟩
    have h1' : ¬ (200 : Int) < (m : Int) := by omega
    by_cases h2 : 300 < s.size
    · have h2' : (300 : Int) < (s.size : Int) := by omega
      clear h0 h1
      go_enter Tryd.func69, Tryd.ntmps69
      go_wp2_with fail
      rw [HW1.out]
      go_wp2_with fail
      go_ret
      exact ⟨⟨_, rfl⟩, HF1.out⟩
    have h2' : ¬ (300 : Int) < (s.size : Int) := by omega
    have HD := hid h0
    clear h0
    go_enter Tryd.func69, Tryd.ntmps69
    go_wp2_with fail
    rw [HW1.out]
    go_wp2_with fail
    clear h1' h2' e0
    go_loopw [5] (fun i wr => ∃ j : Nat, j ≤ m ∧ i = .int .i64 j ∧ Hid (Fr (fun _ => False) w1 wr)) (fun i _ => m - (intOf i).toNat)
    case atStart => exact ⟨0, Nat.zero_le _, rfl, hid (Fr.refl _ _)⟩
    case round =>
      obtain ⟨j, hj, rfl, HF⟩ := hrel
      have e0 := cell_fr c0 HF.out
      have e1 := cell_fr c1 HF.out
      have e2 := cell_fr c2 HF.out
      have e3 := cell_fr c3 HF.out
      clear c0 c1 c2 c3
      by_cases hlt : j < m
      · obtain ⟨ad, k', n', s', l', A', c', rfl, _, hab, hx', b0, b1, b2, b3, hch⟩ := ItsAt.kid HL.out j (by rw [HM.out]; exact hlt)
        have HFA := hid (HF1.out.trans HF.out)
        have g0 := cell_fr b0 HFA.out
        have g1 := cell_fr b1 HFA.out
        have g2 := cell_fr b2 HFA.out
        have g3 := cell_fr b3 HFA.out
        have HCH := hid hch
        have HSL := hid (show hi ≤ wr.heap.size from Nat.le_trans hh HFA.out.size)
        have HCZ := hid (show (It.mk k' n' s' l').size ≤ N by have := size_get k n s l j (by rw [HM.out]; exact hlt); rw [hx'] at this; have := HSZ.out; omega)
        have hj0 : (0 : Int) ≤ (j : Int) := by omega
        have hjm : (j : Int) < (m : Int) := by omega
        have hjc : (j : Int) < (c : Int) := by omega
        have hd1 : 1 ≤ d := by have := HD.out; omega
        clear hch hx' b0 b1 b2 b3
        go_wp2_with fail
        rw [show (d : Int) - 1 = ((d - 1 : Nat) : Int) by omega]
        refine (HIH.out _ HCZ.out (by omega) (d - 1) (by omega) lo hi _ wr HSL.out (HCH.out.fr0 HFA.out hh)).mono ?_
        rintro e w4 ⟨⟨b, rfl⟩, hf⟩
        have HF4 := hid (HF.out.then_ hf (fun _ _ h => h))
        clear hf g0 g1 g2 g3
        cases b with
        | true =>
          go_wp2_with fail
          go_ret
          exact ⟨⟨_, rfl⟩, HF1.out.then_ HF4.out (fun _ _ h => h)⟩
        | false =>
          go_wp2_with fail
          go_roundw
          case rel => exact ⟨j + 1, by omega, by go_num, HF4⟩
          case measure => simp [intOf]; omega
      · go_wp2_with fail
        go_ret
        exact ⟨⟨_, rfl⟩, HF1.out.then_ HF.out (fun _ _ h => h)⟩

set_option maxRecDepth 100000 in
set_option maxHeartbeats 4000000 in
theorem great_calls (x : It) (hx : x.size ≤ 2000000) (lo hi : Nat) (cs : List Value) (w : World) (hh : hi ≤ w.heap.size) (hi_ : ItAt w lo hi x cs) :
    Calls Tryd.prog 15 #[.agg cs.toArray] w fun e w' => IsB e ∧ Fr (fun _ => False) w w' := by
  have HAT := hid hi_
  have HXZ := hid hx
  obtain ⟨xx, hxx⟩ : ∃ xx, xx = x := ⟨_, rfl⟩
  rw [← hxx] at HAT HXZ
  obtain ⟨k, n, s, l⟩ := x
  obtain ⟨A, c, rfl, hc, hk, hn, hs, hl, hL⟩ := hi_
  obtain ⟨m, hm⟩ : ∃ m, l.length = m := ⟨_, rfl⟩
  rw [hm] at HAT ⊢
  obtain ⟨w1, hw1⟩ : ∃ w1, w.alloc (.cells #[.int .i64 k, .int .u64 n, .string s, .slice A m c] 25) = w1 := ⟨_, rfl⟩
  have HF1 := hid (show Fr (fun _ => False) w w1 by rw [← hw1]; exact (Fr.refl _ w).alloc _)
  have HB1 := hid (show Blk w1 w.heap.size 25 #[.int .i64 k, .int .u64 n, .string s, .slice A m c] by rw [← hw1]; exact Blk.new w _ _)
  have HW1 := hid hw1
  have HSL := hid hh
  have c0 := HB1.out.cell 0
  have c1 := HB1.out.cell 1
  have c2 := HB1.out.cell 2
  have c3 := HB1.out.cell 3
  simp at c0 c1 c2 c3
  clear hw1 hh hx hxx hk hn hs hl hL hm hc
  go_enter Tryd.func15, Tryd.ntmps15
  go_wp2_with fail
  rw [HW1.out]
  go_wp2_with fail
  refine (over_calls 2000000 xx HXZ.out (Nat.le_refl _) 80 (by omega) lo hi _ w1 (Nat.le_trans HSL.out HF1.out.size) (HAT.out.fr0 HF1.out HSL.out)).mono ?_
  rintro e w4 ⟨⟨b, rfl⟩, hf⟩
  have HF4 := hid (HF1.out.then_ hf (fun _ _ h => h))
  have e0 := cell_fr c0 hf
  have e1 := cell_fr c1 hf
  have e2 := cell_fr c2 hf
  have e3 := cell_fr c3 hf
  clear hf c0 c1 c2 c3
  cases b with
  | true =>
    go_wp2_with fail
    go_ret
    exact ⟨⟨_, rfl⟩, HF4.out⟩
  | false =>
    go_wp2_with fail
    refine (items_calls w lo hi 2000000 (Nat.le_refl _) 2000000 xx HXZ.out HXZ.out 1 (by have := HXZ.out; omega) _ w4 HF4.out HSL.out HAT.out).mono ?_
    rintro e w5 ⟨ys, A3, c3', A4, c4', rfl, _, _, _, hf⟩
    have HF5 := hid (HF4.out.then_ hf (fun _ _ h => h))
    obtain ⟨q, hq⟩ : ∃ q, ys.length = q := ⟨_, rfl⟩
    rw [hq]
    clear hf e0 e1 e2 e3 hq
    go_wp2_with fail
    go_ret
    exact ⟨⟨_, rfl⟩, HF5.out⟩

/-- The greatest of depths. -/
theorem vds_prs {w0 : World} {lo hi M : Nat} (ys : List (Vis w0 lo hi M)) : vds ys = (prs ys).map fun y => (y.2 : Int) := by simp [vds, prs]

set_option maxRecDepth 100000 in
set_option maxHeartbeats 4000000 in
theorem refdepth_calls (x : It) (hx : x.size ≤ 2000000) (lo hi : Nat) (cs : List Value) (w : World) (hh : hi ≤ w.heap.size) (hi_ : ItAt w lo hi x cs) :
    Calls Tryd.prog 19 #[.agg cs.toArray] w fun e w' => e = .returned (.int .i64 x.depth) ∧ Fr (fun _ => False) w w' := by
  have HAT := hid hi_
  have HXZ := hid hx
  obtain ⟨xx, hxx⟩ : ∃ xx, xx = x := ⟨_, rfl⟩
  rw [← hxx] at HAT HXZ ⊢
  obtain ⟨k, n, s, l⟩ := x
  obtain ⟨A, c, rfl, hc, hk, hn, hs, hl, hL⟩ := hi_
  obtain ⟨m, hm⟩ : ∃ m, l.length = m := ⟨_, rfl⟩
  rw [hm] at HAT ⊢
  obtain ⟨w1, hw1⟩ : ∃ w1, w.alloc (.cells #[.int .i64 k, .int .u64 n, .string s, .slice A m c] 25) = w1 := ⟨_, rfl⟩
  have HF1 := hid (show Fr (fun _ => False) w w1 by rw [← hw1]; exact (Fr.refl _ w).alloc _)
  have HB1 := hid (show Blk w1 w.heap.size 25 #[.int .i64 k, .int .u64 n, .string s, .slice A m c] by rw [← hw1]; exact Blk.new w _ _)
  have HW1 := hid hw1
  have HSL := hid hh
  have c0 := HB1.out.cell 0
  have c1 := HB1.out.cell 1
  have c2 := HB1.out.cell 2
  have c3 := HB1.out.cell 3
  simp at c0 c1 c2 c3
  clear hw1 hh hx hxx hk hn hs hl hL hm hc
  go_enter Tryd.func19, Tryd.ntmps19
  go_wp2_with fail
  rw [HW1.out]
  go_wp2_with fail
  refine (items_calls w lo hi 2000000 (Nat.le_refl _) 2000000 xx HXZ.out HXZ.out 1 (by have := HXZ.out; omega) _ w1 HF1.out HSL.out HAT.out).mono ?_
  rintro e w5 ⟨ys, A3, c3', A4, c4', rfl, hp, _, hD, hf⟩
  have HF5 := hid (HF1.out.then_ hf (fun _ _ h => h))
  obtain ⟨q, hq⟩ : ∃ q, ys.length = q := ⟨_, rfl⟩
  rw [hq] at hD ⊢
  have HQ := hid hq
  have HP := hid hp
  have HRD := hid hD.rd.1
  have HCP := hid (show q ≤ c4' by
    obtain ⟨A', c', h1, h2, _⟩ := hD.form
    injection h1 with _ h1 h3
    subst h3
    omega)
  have hcp := HCP.out
  have hqz : q ≤ 2000000 := by
    have h1 := congrArg List.length hp
    rw [prs_length, It.all_length, hq] at h1
    rw [h1]
    exact HXZ.out
  have HDL := hid (It.depth_le xx)
  clear hf c0 c1 c2 c3 hq hp hD
  go_wp2_with fail
  go_loop [5, 6] (fun n i => ∃ (j : Nat) (b : Nat), j ≤ q ∧ i = .int .i64 j ∧ n = .int .i64 b ∧ Hid (b = most ((xx.all 1).take j)) ∧ b ≤ 4000000) (fun _ i => q - (intOf i).toNat)
  case atStart => exact ⟨0, 0, Nat.zero_le _, rfl, rfl, hid rfl, by omega⟩
  case round =>
    obtain ⟨j, b, hj, rfl, rfl, HB, hb⟩ := hrel
    by_cases hlt : j < q
    · have hlt2 : j < (vds ys).length := by rw [vds_length, HQ.out]; exact hlt
      obtain ⟨ad, rfl, hab, hcj⟩ := HRD.out j hlt2
      have hlt3 : j < (xx.all 1).length := by rw [← HP.out, prs_length, HQ.out]; exact hlt
      obtain ⟨dj, hdj⟩ : ∃ dj : Nat, ((xx.all 1)[j]).2 = dj := ⟨_, rfl⟩
      have hv : (vds ys).getD j 0 = (dj : Int) := by
        rw [vds_prs, HP.out, List.getD_eq_getElem?_getD, List.getElem?_map, List.getElem?_eq_getElem hlt3, ← hdj]
        rfl
      rw [hv] at hcj
      have HM := hid (show most ((xx.all 1).take (j + 1)) = max b dj by
        rw [List.take_succ_eq_append_getElem hlt3, most, List.foldl_append, HB.out, ← hdj]
        rfl)
      have hdj2 : dj ≤ 4000000 := by
        have h1 := most_ge (xx.all 1) _ (List.getElem_mem hlt3)
        rw [depth_most, hdj] at h1
        have h2 := HDL.out
        have h3 := HXZ.out
        omega
      have hj0 : (0 : Int) ≤ (j : Int) := by omega
      have hjq : (j : Int) < (q : Int) := by omega
      have hjc : (j : Int) < (c4' : Int) := by omega
      clear hv hdj
      go_wp2_with fail
      go_round
      case rel => exact ⟨j + 1, max b dj, by omega, by go_num, congrArg (Value.int .i64) (by split <;> omega), hid HM.out.symm, by omega⟩
      case measure => simp [intOf]; omega
    · go_wp2_with fail
      go_ret
      refine ⟨?_, HF5.out⟩
      have h1 : (xx.all 1).length = q := by rw [← HP.out, prs_length, HQ.out]
      have h2 := HB.out
      rw [List.take_of_length_le (by omega), depth_most] at h2
      rw [← h2]
      rfl
end Go.Proofs.YtkmgiodhaaajjaaDoor.ItemU
