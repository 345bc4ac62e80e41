/- Layer float: both laws. -/
import Derived.Test.YtcbogkpgkdijaaaDoorFloatI
set_option linter.unusedVariables false
set_option linter.unusedSimpArgs false
namespace Go.Proofs.YtcbogkpgkdijaaaDoor.FloatJ
open Go.IntWalk Go.RowKit Go.Proofs.YtcbogkpgkdijaaaDoor.Mem Go.Proofs.YtcbogkpgkdijaaaDoor.Num Go.Proofs.YtcbogkpgkdijaaaDoor.FloatP Go.Proofs.YtcbogkpgkdijaaaDoor.FloatA Go.Proofs.YtcbogkpgkdijaaaDoor.FloatB Go.Proofs.YtcbogkpgkdijaaaDoor.FloatC Go.Proofs.YtcbogkpgkdijaaaDoor.FloatD Go.Proofs.YtcbogkpgkdijaaaDoor.FloatE Go.Proofs.YtcbogkpgkdijaaaDoor.FloatF Go.Proofs.YtcbogkpgkdijaaaDoor.FloatG Go.Proofs.YtcbogkpgkdijaaaDoor.FloatH Go.Proofs.YtcbogkpgkdijaaaDoor.FloatI

theorem awake_calls (w : World) (hd : Dbl w) : Calls Tryd.prog 9 #[] w (fun e w' => e = .returned (.bool true) ∧ Fr (fun _ => False) w w') := by
  have s1 : shortestF 4607182418800017408 = (15360, 2) := by decide
  have s2 : shortestF 4591870180066957722 = (4591870180066957722, 8) := by decide
  have HD := hid hd
  clear hd
  go_enter Tryd.func9, Tryd.ntmps9
  go_wp2_with fail
  refine (shortest_calls _ 4607182418800017408 _ (by rfl) (by decide) HD.out).mono ?_
  rintro e' w1 ⟨rfl, hf⟩
  have HF1 := hid hf
  have HD1 := hid (HD.out.fr0 hf)
  rw [s1]
  clear hf s1
  go_wp2_with fail
  refine (shortest_calls _ 4591870180066957722 _ (by rfl) (by decide) HD1.out).mono ?_
  rintro e' w2 ⟨rfl, hf⟩
  have HF2 := hid (HF1.out.then_ hf (fun _ _ h => h))
  rw [s2]
  clear hf s2
  go_wp2_with fail
  go_ret
  exact ⟨rfl, HF2.out⟩

/-- What the shortest form of a double is widened to. -/
theorem back_wide (x : Nat) (hx : x < 2 ^ 64) : wideR (shortestF x).1 (shortestF x).2 = (if nanB x = true then 9221120237041090560 else x, true) ∧ (shortestF x).1 < 2 ^ 64 ∧ shortR (shortestF x).1 (shortestF x).2 = true := by
  by_cases hn : nanB x = true
  · have h1 : shortestF x = (32256, 2) := by unfold shortestF; rw [if_pos hn]
    rw [h1, if_pos hn]
    exact ⟨by decide, by decide, by decide⟩
  · have hb := back x hx (by simpa using hn)
    rw [if_neg hn]
    have h2 : (shortestF x).2 = 2 ∨ (shortestF x).2 = 4 ∨ (shortestF x).2 = 8 := by
      unfold shortestF
      rw [if_neg hn]
      split
      · exact Or.inl rfl
      · split
        · exact Or.inr (Or.inl rfl)
        · exact Or.inr (Or.inr rfl)
    have hw : wideR (shortestF x).1 (shortestF x).2 = (x, true) := by
      generalize shortestF x = r at hb h2 ⊢
      obtain ⟨y, v⟩ := r
      simp only at hb h2 ⊢
      unfold wide at hb
      unfold wideR
      obtain rfl | rfl | rfl := h2
      · rw [if_pos rfl] at hb
        rw [if_pos (by decide), if_pos (by simpa using hb.2), hb.1]
      · rw [if_neg (by decide), if_pos rfl] at hb
        rw [if_neg (by decide), if_pos (by decide), if_pos (by simpa using hb.2), hb.1]
      · rw [if_neg (by decide), if_neg (by decide)] at hb
        rw [if_neg (by decide), if_neg (by decide), if_pos (by decide), hb.1]
    have hlt : (shortestF x).1 < 2 ^ 64 := by
      refine Nat.lt_of_lt_of_le hb.2 (Nat.pow_le_pow_right (by decide) ?_)
      obtain h | h | h := h2 <;> rw [h] <;> decide
    refine ⟨hw, hlt, ?_⟩
    unfold shortR
    rw [hw]
    simp

theorem widens_calls (w : World) (x : Nat) (n : Int) (hx : x < 2 ^ 64) (hd : Dbl w) : Calls Tryd.prog 4 #[.int .u64 x, .int .i64 n] w
    (fun e w' => e = .returned (.bool true) ∧ Fr (fun _ => False) w w') := by
  have HX := hid hx
  have HD := hid hd
  clear hx hd
  go_enter Tryd.func4, Tryd.ntmps4
  go_wp2_with fail
  refine (awake_calls _ HD.out).mono ?_
  rintro e' w1 ⟨rfl, hf⟩
  have HF1 := hid hf
  have HD1 := hid (HD.out.fr0 hf)
  clear hf
  go_wp2_with fail
  refine (widen_calls _ x n HX.out HD1.out).mono ?_
  rintro e' w2 ⟨rfl, hf⟩
  have HF2 := hid (HF1.out.then_ hf (fun _ _ h => h))
  have HD2 := hid (HD1.out.fr0 hf)
  clear hf
  go_wp2_with fail
  refine (rwiden_calls _ x n HX.out).mono ?_
  rintro e' w3 ⟨rfl, hf⟩
  have HF3 := hid (HF2.out.then_ hf (fun _ _ h => h))
  have HD3 := hid (HD2.out.fr0 hf)
  clear hf
  obtain ⟨v, hv⟩ : ∃ v, wideR x n = v := ⟨_, rfl⟩
  rw [hv]
  clear hv
  obtain ⟨y, ok⟩ := v
  go_wp2_with fail
  refine (short_calls _ x n HX.out HD3.out).mono ?_
  rintro e' w4 ⟨rfl, hf⟩
  have HF4 := hid (HF3.out.then_ hf (fun _ _ h => h))
  clear hf
  go_wp2_with fail
  refine (rshort_calls _ x n HX.out).mono ?_
  rintro e' w5 ⟨rfl, hf⟩
  have HF5 := hid (HF4.out.then_ hf (fun _ _ h => h))
  clear hf
  obtain ⟨b, hb⟩ : ∃ b, shortR x n = b := ⟨_, rfl⟩
  rw [hb]
  clear hb
  go_wp2_with fail
  go_ret
  exact ⟨by simp, HF5.out⟩
theorem law_shortest_calls (w : World) (x : Nat) (hx : x < 2 ^ 64) (hd : Dbl w) : Calls Tryd.prog 3 #[.int .u64 x] w
    (fun e w' => e = .returned (.bool true) ∧ Fr (fun _ => False) w w') := by
  obtain ⟨hw, hlt, hsh⟩ := back_wide x hx
  have HX := hid hx
  have HD := hid hd
  have HW := hid hw
  have HLT := hid hlt
  have HSH := hid hsh
  obtain ⟨e, he⟩ : ∃ e, x / 2 ^ 52 % 2 ^ 11 = e := ⟨_, rfl⟩
  obtain ⟨m, hm⟩ : ∃ m, x % 2 ^ 52 = m := ⟨_, rfl⟩
  have hnb := hid (nanB_iff x)
  rw [he, hm] at hnb
  have ha : Go.bits .and .u64 ((x : Int) / 4503599627370496) 2047 = e := by
    rw [mask_nat 11 _ (x / 2 ^ 52) _ (by decide) (by omega) (by omega) (by decide), he]
  have hw0 : (m = 0 → (IntKind.u64.wrap ((x : Int) * 4096) != 0) = false) ∧ (m ≠ 0 → (IntKind.u64.wrap ((x : Int) * 4096) != 0) = true) := by
    rw [wrap_u64]
    refine ⟨fun h => ?_, fun h => ?_⟩
    · rw [show (x : Int) * 4096 % 18446744073709551616 = 0 from by omega]; rfl
    · exact bne_iff_ne.2 (by omega)
  have HA := hid ha
  have HW0 := hid hw0
  clear hd hw hlt hsh he hm hx ha hw0
  go_enter Tryd.func3, Tryd.ntmps3
  go_wp2_with fail
  refine (awake_calls _ HD.out).mono ?_
  rintro e' w1 ⟨rfl, hf⟩
  have HF1 := hid hf
  have HD1 := hid (HD.out.fr0 hf)
  clear hf
  go_wp2_with fail
  refine (shortest_calls _ x _ rfl HX.out HD1.out).mono ?_
  rintro e' w2 ⟨rfl, hf⟩
  have HF2 := hid (HF1.out.then_ hf (fun _ _ h => h))
  have HD2 := hid (HD1.out.fr0 hf)
  clear hf
  go_wp2_with fail
  refine (rshortest_calls _ x HX.out).mono ?_
  rintro e' w3 ⟨rfl, hf⟩
  have HF3 := hid (HF2.out.then_ hf (fun _ _ h => h))
  have HD3 := hid (HD2.out.fr0 hf)
  clear hf
  obtain ⟨r, hr⟩ : ∃ r, shortestF x = r := ⟨_, rfl⟩
  rw [hr] at HW HLT HSH ⊢
  clear hr
  obtain ⟨y, v⟩ := r
  simp only at HW HLT HSH
  go_wp2_with fail
  refine (widen_calls _ y _ HLT.out HD3.out).mono ?_
  rintro e' w4 ⟨rfl, hf⟩
  have HF4 := hid (HF3.out.then_ hf (fun _ _ h => h))
  have HD4 := hid (HD3.out.fr0 hf)
  clear hf
  rw [HW.out]
  by_cases q1 : nanB x = true
  · rw [if_pos q1]
    have E1 : (e : Int) = 2047 := by have := (hnb.out.1 q1).1; omega
    have E2 := HW0.out.2 (hnb.out.1 q1).2
    have a1 := HA.out
    rw [E1] at a1
    have HQ := hid q1
    clear q1 E1
    go_wp2_with fail
    refine (nan_calls _ x HX.out HD4.out).mono ?_
    rintro e' w5 ⟨rfl, hf⟩
    have HF5 := hid (HF4.out.then_ hf (fun _ _ h => h))
    have HD5 := hid (HD4.out.fr0 hf)
    clear hf
    rw [HQ.out]
    go_wp2_with fail
    refine (short_calls _ y _ HLT.out HD5.out).mono ?_
    rintro e' w6 ⟨rfl, hf⟩
    have HF6 := hid (HF5.out.then_ hf (fun _ _ h => h))
    clear hf
    rw [HSH.out]
    go_wp2_with fail
    go_ret
    exact ⟨rfl, HF6.out⟩
  · rw [if_neg q1]
    have hnan : ¬ (e = 2047 ∧ m ≠ 0) := fun h => q1 (hnb.out.2 h)
    have q1' : nanB x = false := by simpa using q1
    have HQ := hid q1'
    have a1 := HA.out
    clear q1 q1'
    by_cases q2 : e = 2047
    · have E2 := HW0.out.1 (by omega)
      have E1 : (e : Int) = 2047 := by omega
      rw [E1] at a1
      clear E1 q2 hnan
      go_wp2_with fail
      refine (nan_calls _ x HX.out HD4.out).mono ?_
      rintro e' w5 ⟨rfl, hf⟩
      have HF5 := hid (HF4.out.then_ hf (fun _ _ h => h))
      have HD5 := hid (HD4.out.fr0 hf)
      clear hf
      rw [HQ.out]
      go_wp2_with fail
      refine (short_calls _ y _ HLT.out HD5.out).mono ?_
      rintro e' w6 ⟨rfl, hf⟩
      have HF6 := hid (HF5.out.then_ hf (fun _ _ h => h))
      clear hf
      rw [HSH.out]
      go_wp2_with fail
      go_ret
      exact ⟨rfl, HF6.out⟩
    · have E1 : ((e : Int) == 2047) = false := beq_eq_false_iff_ne.2 (by omega)
      clear q2 hnan
      go_wp2_with fail
      refine (nan_calls _ x HX.out HD4.out).mono ?_
      rintro e' w5 ⟨rfl, hf⟩
      have HF5 := hid (HF4.out.then_ hf (fun _ _ h => h))
      have HD5 := hid (HD4.out.fr0 hf)
      clear hf
      rw [HQ.out]
      go_wp2_with fail
      refine (short_calls _ y _ HLT.out HD5.out).mono ?_
      rintro e' w6 ⟨rfl, hf⟩
      have HF6 := hid (HF5.out.then_ hf (fun _ _ h => h))
      clear hf
      rw [HSH.out]
      go_wp2_with fail
      go_ret
      exact ⟨rfl, HF6.out⟩
end Go.Proofs.YtcbogkpgkdijaaaDoor.FloatJ
