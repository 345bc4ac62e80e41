/- Layer item: what is wrong with an item by itself. -/
import Derived.Test.YtkmgiodhaaajjaaDoorItemD
import Derived.Test.YtkmgiodhaaajjaaDoorFloatB
import Derived.Test.YtkmgiodhaaajjaaDoorUtfB
set_option linter.unusedVariables false
set_option linter.unusedSimpArgs false
namespace Go.Proofs.YtkmgiodhaaajjaaDoor.ItemE
open Go.IntWalk Go.RowKit Go.Proofs.YtkmgiodhaaajjaaDoor.Mem Go.Proofs.YtkmgiodhaaajjaaDoor.UtfP Go.Proofs.YtkmgiodhaaajjaaDoor.FloatP Go.Proofs.YtkmgiodhaaajjaaDoor.FloatB Go.Proofs.YtkmgiodhaaajjaaDoor.ItemP Go.Proofs.YtkmgiodhaaajjaaDoor.ItemM Go.Proofs.YtkmgiodhaaajjaaDoor.Own Go.Proofs.YtkmgiodhaaajjaaDoor.ItemA Go.Proofs.YtkmgiodhaaajjaaDoor.ItemB Go.Proofs.YtkmgiodhaaajjaaDoor.ItemC Go.Proofs.YtkmgiodhaaajjaaDoor.ItemD

theorem wrong_form {x : It} (h : x.form = false) : x.wrong = 11 := by rw [It.wrong, if_pos h]
theorem wrong_7 {n : Nat} {s : ByteArray} {l : List It} (h : (It.mk 7 n s l).form = true) : (It.mk 7 n s l).wrong = if 255 < n ∨ (24 ≤ n ∧ n < 32) then 15 else 0 := by
  rw [It.wrong, if_neg (by rw [h]; simp)]
  simp [It.k, It.n]
theorem wrong_8 {n : Nat} {s : ByteArray} {l : List It} (h : (It.mk 8 n s l).form = true) : (It.mk 8 n s l).wrong = if nanB n = true ∧ n ≠ 9221120237041090560 then 15 else 0 := by
  rw [It.wrong, if_neg (by rw [h]; simp)]
  simp [It.k, It.n]
theorem wrong_3 {n : Nat} {s : ByteArray} {l : List It} (h : (It.mk 3 n s l).form = true) : (It.mk 3 n s l).wrong = if validS s = false then 6 else 0 := by
  rw [It.wrong, if_neg (by rw [h]; simp)]
  simp [It.k, It.s]
theorem wrong_5 {n : Nat} {s : ByteArray} {l : List It} (h : (It.mk 5 n s l).form = true) : (It.mk 5 n s l).wrong = if dup l then 14 else 0 := by
  rw [It.wrong, if_neg (by rw [h]; simp)]
  simp [It.k, It.l]
theorem wrong_no {k : Int} {n : Nat} {s : ByteArray} {l : List It} (h : (It.mk k n s l).form = true) (h7 : k ≠ 7) (h8 : k ≠ 8) (h3 : k ≠ 3) (h5 : k ≠ 5) : (It.mk k n s l).wrong = 0 := by
  rw [It.wrong, if_neg (by rw [h]; simp), if_neg (by simp [It.k, h7, h8]), if_neg (by simp [It.k, h3]), if_neg (by simp [It.k, h5])]

set_option maxRecDepth 20000 in
set_option maxHeartbeats 4000000 in
theorem wrong_calls (x : It) (hx : x.size ≤ 2000000) (lo hi : Nat) (cs : List Value) (w : World) (hh : hi ≤ w.heap.size) (hD : Dbl w) (h : ItAt w lo hi x cs) :
    Calls Tryd.prog 72 #[.agg cs.toArray] w fun e w' => e = .returned (.int .i64 x.wrong) ∧ Fr (fun _ => False) w w' := by
  have hAt := h
  obtain ⟨k, n, s, l⟩ := x
  obtain ⟨A, c, rfl, hc, hk, hn, hs, hl, hL⟩ := h
  obtain ⟨r, hr⟩ : ∃ r, (It.mk k n s l).wrong = r := ⟨_, rfl⟩
  rw [hr]
  have HR := hid hr
  obtain ⟨m, hm⟩ : ∃ m, l.length = m := ⟨_, rfl⟩
  have HM := hid hm
  have HAT := hid hAt
  rw [hm] at hc hl HAT ⊢
  obtain ⟨w1, hw1⟩ : ∃ w1, w.alloc (.cells #[.int .i64 k, .int .u64 n, .string s, .slice A m c] 25) = w1 := ⟨_, rfl⟩
  have HF1 := hid (show Fr (fun _ => False) w w1 by rw [← hw1]; exact (Fr.refl _ w).alloc _)
  have HB1 := hid (show Blk w1 w.heap.size 25 #[.int .i64 k, .int .u64 n, .string s, .slice A m c] by rw [← hw1]; exact Blk.new w _ _)
  have HW1 := hid hw1
  have HSL := hid hh
  have HDD := hid hD
  have HNN := hid hn
  have HSS := hid hs
  have HL := hid hL
  have HSZ := hid hx
  have c0 := HB1.out.cell 0
  have c1 := HB1.out.cell 1
  have c2 := HB1.out.cell 2
  have c3 := HB1.out.cell 3
  simp at c0 c1 c2 c3
  clear hAt hr hm hw1 hh hD hn hs hL hx hk
  cases hform : (It.mk k n s l).form with
  | false =>
    have HFM := hid hform
    have HE := hid (show r = 11 by rw [← HR.out]; exact wrong_form hform)
    go_enter Tryd.func72, Tryd.ntmps72
    go_wp2_with fail
    rw [HW1.out]
    refine (form_calls _ lo hi _ w1 (HAT.out.fr0 HF1.out HSL.out)).mono ?_
    rintro e w2 ⟨rfl, hf⟩
    have HF2 := hid (HF1.out.then_ hf (fun _ _ h => h))
    rw [HFM.out]
    clear hf hform
    go_wp2_with fail
    go_ret
    rw [HE.out]
    exact ⟨rfl, HF2.out⟩
  | true =>
    have HFM := hid hform
    clear hform
    by_cases h7 : k = 7
    · subst h7
      have HE := hid (wrong_7 HFM.out)
      go_enter Tryd.func72, Tryd.ntmps72
      go_wp2_with fail
      rw [HW1.out]
      refine (form_calls _ lo hi _ w1 (HAT.out.fr0 HF1.out HSL.out)).mono ?_
      rintro e w2 ⟨rfl, hf⟩
      have HF2 := hid (HF1.out.then_ hf (fun _ _ h => h))
      have d0 := cell_fr c0 hf
      have d1 := cell_fr c1 hf
      have d2 := cell_fr c2 hf
      have d3 := cell_fr c3 hf
      rw [HFM.out]
      clear hf c0 c1 c2 c3
      go_wp2_with fail
      all_goals
        go_ret
        refine ⟨?_, HF2.out⟩
        rw [← HR.out, HE.out]
        first
          | (rw [if_pos (by omega)]; rfl)
          | (rw [if_neg (by omega)]; rfl)
    by_cases h8 : k = 8
    · subst h8
      clear h7
      have HE := hid (wrong_8 HFM.out)
      go_enter Tryd.func72, Tryd.ntmps72
      go_wp2_with fail
      rw [HW1.out]
      refine (form_calls _ lo hi _ w1 (HAT.out.fr0 HF1.out HSL.out)).mono ?_
      rintro e w2 ⟨rfl, hf⟩
      have HF2 := hid (HF1.out.then_ hf (fun _ _ h => h))
      have d0 := cell_fr c0 hf
      have d1 := cell_fr c1 hf
      have d2 := cell_fr c2 hf
      have d3 := cell_fr c3 hf
      rw [HFM.out]
      clear hf c0 c1 c2 c3
      go_wp2_with fail
      refine (nan_calls w2 n HNN.out (HDD.out.fr0 HF2.out)).mono ?_
      rintro e w3 ⟨rfl, hf⟩
      have HF3 := hid (HF2.out.then_ hf (fun _ _ h => h))
      have g0 := cell_fr d0 hf
      have g1 := cell_fr d1 hf
      have g2 := cell_fr d2 hf
      have g3 := cell_fr d3 hf
      obtain ⟨b, hb⟩ : ∃ b, nanB n = b := ⟨_, rfl⟩
      have HNB := hid hb
      rw [hb]
      clear hf d0 d1 d2 d3 hb
      cases b with
      | true =>
        by_cases hq : n = 9221120237041090560
        · have e1 : ((n : Int) != 9221120237041090560) = false := by rw [hq]; rfl
          have HQ := hid hq
          clear hq
          go_wp2_with fail
          go_ret
          refine ⟨?_, HF3.out⟩
          rw [← HR.out, HE.out, if_neg (fun h => h.2 HQ.out)]
          rfl
        · have e1 : ((n : Int) != 9221120237041090560) = true := bne_iff_ne.2 (by omega)
          have HQ := hid hq
          clear hq
          go_wp2_with fail
          go_ret
          refine ⟨?_, HF3.out⟩
          rw [← HR.out, HE.out, if_pos ⟨HNB.out, HQ.out⟩]
          rfl
      | false =>
        go_wp2_with fail
        go_ret
        refine ⟨?_, HF3.out⟩
        rw [← HR.out, HE.out, if_neg (fun h => by rw [HNB.out] at h; exact absurd h.1 (by simp))]
        rfl
    by_cases h3 : k = 3
    · subst h3
      clear h7 h8
      have HE := hid (wrong_3 HFM.out)
      go_enter Tryd.func72, Tryd.ntmps72
      go_wp2_with fail
      rw [HW1.out]
      refine (form_calls _ lo hi _ w1 (HAT.out.fr0 HF1.out HSL.out)).mono ?_
      rintro e w2 ⟨rfl, hf⟩
      have HF2 := hid (HF1.out.then_ hf (fun _ _ h => h))
      have d0 := cell_fr c0 hf
      have d1 := cell_fr c1 hf
      have d2 := cell_fr c2 hf
      have d3 := cell_fr c3 hf
      rw [HFM.out]
      clear hf c0 c1 c2 c3
      go_wp2_with fail
      refine (UtfB.valid_calls s w2 HSS.out).mono ?_
      rintro e w3 ⟨rfl, hf⟩
      have HF3 := hid (HF2.out.then_ hf (fun _ _ h => h))
      have g0 := cell_fr d0 hf
      obtain ⟨b, hb⟩ : ∃ b, validS s = b := ⟨_, rfl⟩
      have HNB := hid hb
      rw [hb]
      clear hf d0 d1 d2 d3 hb
      cases b with
      | false =>
        go_wp2_with fail
        go_ret
        refine ⟨?_, HF3.out⟩
        rw [← HR.out, HE.out, if_pos HNB.out]
        rfl
      | true =>
        go_wp2_with fail
        go_ret
        refine ⟨?_, HF3.out⟩
        rw [← HR.out, HE.out, if_neg (by rw [HNB.out]; simp)]
        rfl
    by_cases h5 : k = 5
    · subst h5
      clear h7 h8 h3
      have HE := hid (wrong_5 HFM.out)
      go_enter Tryd.func72, Tryd.ntmps72
      go_wp2_with fail
      rw [HW1.out]
      refine (form_calls _ lo hi _ w1 (HAT.out.fr0 HF1.out HSL.out)).mono ?_
      rintro e w2 ⟨rfl, hf⟩
      have HF2 := hid (HF1.out.then_ hf (fun _ _ h => h))
      have d0 := cell_fr c0 hf
      have d1 := cell_fr c1 hf
      have d2 := cell_fr c2 hf
      have d3 := cell_fr c3 hf
      rw [HFM.out]
      clear hf c0 c1 c2 c3
      go_wp2_with fail
      refine (twice_calls l A m c lo hi w2 (Nat.le_trans HSL.out HF2.out.size) HM.out hc (by have := HSZ.out; simp only [It.size] at this; omega) (ItsAt.fr0 HL.out HF2.out HSL.out)).mono ?_
      rintro e w3 ⟨rfl, hf⟩
      have HF3 := hid (HF2.out.then_ hf (fun _ _ h => h))
      obtain ⟨b, hb⟩ : ∃ b, decide (dup l) = b := ⟨_, rfl⟩
      have HNB := hid hb
      rw [hb]
      clear hf d0 d1 d2 d3 hb
      cases b with
      | false =>
        go_wp2_with fail
        go_ret
        refine ⟨?_, HF3.out⟩
        rw [← HR.out, HE.out, if_neg (of_decide_eq_false HNB.out)]
        rfl
      | true =>
        go_wp2_with fail
        go_ret
        refine ⟨?_, HF3.out⟩
        rw [← HR.out, HE.out, if_pos (of_decide_eq_true HNB.out)]
        rfl
    have HE := hid (wrong_no HFM.out h7 h8 h3 h5)
    have e7 : (k == 7) = false := beq_eq_false_iff_ne.2 h7
    have e8 : (k == 8) = false := beq_eq_false_iff_ne.2 h8
    have e3 : (k == 3) = false := beq_eq_false_iff_ne.2 h3
    have e5 : (k == 5) = false := beq_eq_false_iff_ne.2 h5
    clear h7 h8 h3 h5
    go_enter Tryd.func72, Tryd.ntmps72
    go_wp2_with fail
    rw [HW1.out]
    refine (form_calls _ lo hi _ w1 (HAT.out.fr0 HF1.out HSL.out)).mono ?_
    rintro e w2 ⟨rfl, hf⟩
    have HF2 := hid (HF1.out.then_ hf (fun _ _ h => h))
    have d0 := cell_fr c0 hf
    have d1 := cell_fr c1 hf
    have d2 := cell_fr c2 hf
    have d3 := cell_fr c3 hf
    rw [HFM.out]
    clear hf c0 c1 c2 c3
    go_wp2_with fail
    go_ret
    refine ⟨?_, HF2.out⟩
    rw [← HR.out, HE.out]
    rfl
end Go.Proofs.YtkmgiodhaaajjaaDoor.ItemE
