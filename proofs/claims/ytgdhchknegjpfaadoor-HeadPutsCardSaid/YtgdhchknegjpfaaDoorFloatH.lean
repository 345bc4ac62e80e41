/- Layer float: the document's doubles (printed by gen/float_top.py). -/
import Derived.Test.YtgdhchknegjpfaaDoorFloatG
set_option linter.unusedVariables false
set_option linter.unusedSimpArgs false
namespace Go.Proofs.YtgdhchknegjpfaaDoor.FloatH
open Go.IntWalk Go.RowKit Go.Proofs.YtgdhchknegjpfaaDoor.Mem Go.Proofs.YtgdhchknegjpfaaDoor.Num Go.Proofs.YtgdhchknegjpfaaDoor.FloatP Go.Proofs.YtgdhchknegjpfaaDoor.FloatA Go.Proofs.YtgdhchknegjpfaaDoor.FloatB Go.Proofs.YtgdhchknegjpfaaDoor.FloatC Go.Proofs.YtgdhchknegjpfaaDoor.FloatD Go.Proofs.YtgdhchknegjpfaaDoor.FloatE Go.Proofs.YtgdhchknegjpfaaDoor.FloatF Go.Proofs.YtgdhchknegjpfaaDoor.FloatG
-- PRINTED

theorem valR2_nan (x : Nat) (h1 : x / 2 ^ 10 % 2 ^ 5 = 31) (h2 : x % 2 ^ 10 ≠ 0) : valR 5 10 x = (0, 0, 0, 2) := by
  unfold valR; rw [if_pos h1, if_pos h2]
theorem valR2_inf (x : Nat) (hx : x < 65536) (h1 : x / 2 ^ 10 % 2 ^ 5 = 31) (h2 : x % 2 ^ 10 = 0) : valR 5 10 x = (x / 2 ^ (5 + 10), 0, 0, 1) := by
  unfold valR; rw [if_pos h1, if_neg (by simp [h2])]
  have : x / 2 ^ (5 + 10) % 2 = x / 2 ^ (5 + 10) := by omega
  rw [this]
theorem valR2_fin (x : Nat) (hx : x < 65536) (h1 : x / 2 ^ 10 % 2 ^ 5 ≠ 31) : valR 5 10 x = (x / 2 ^ (5 + 10), (valF 5 10 x).1, (valF 5 10 x).2, 0) := by
  unfold valR; rw [if_neg h1]
  have : x / 2 ^ (5 + 10) % 2 = x / 2 ^ (5 + 10) := by omega
  rw [this]
theorem rwiden2_calls (w : World) (x : Nat) (hx : x < 65536) : Calls Tryd.prog 57 #[.int .u64 x, .int .i64 2] w
    (fun e w' => e = .returned (.tuple #[.int .u64 (widenF 5 10 false x : Nat), .bool true]) ∧ Fr (fun _ => False) w w') := by
  have x0 : ¬ (x : Int) ≥ 65536 := by omega
  have hx64 : x < 2 ^ 64 := by omega
  have hs2 : x / 2 ^ (5 + 10) < 2 := by omega
  have HX64 := hid hx64
  have HS2 := hid hs2
  obtain ⟨r, hr⟩ : ∃ r, widenF 5 10 false x = r := ⟨_, rfl⟩
  rw [hr]
  have HR := hid hr
  have HX := hid hx
  clear hr hx hx64 hs2
  go_enter Tryd.func57, Tryd.ntmps57
  go_wp2_with fail
  refine (value5_calls _ x HX64.out).mono ?_
  rintro e' w1 ⟨rfl, hf⟩
  have HF1 := hid hf
  clear hf
  by_cases q1 : x / 2 ^ 10 % 2 ^ 5 = 31
  · by_cases q2 : x % 2 ^ 10 ≠ 0
    · rw [valR2_nan x q1 q2]
      have HQ1 := hid q1
      have HQ2 := hid q2
      clear q1 q2
      go_wp2_with fail
      go_ret2
      refine ⟨?_, HF1.out⟩
      rw [← HR.out]
      unfold widenF
      rw [if_pos HQ1.out, if_pos HQ2.out]
      exact ret_ib rfl rfl
    · have q2' : x % 2 ^ 10 = 0 := by omega
      rw [valR2_inf x HX.out q1 q2']
      have HQ1 := hid q1
      have HQ2 := hid q2'
      clear q1 q2 q2'
      obtain ⟨s, hs⟩ : ∃ s, x / 2 ^ (5 + 10) = s := ⟨_, rfl⟩
      have HS := hid hs
      rw [hs]
      rw [hs] at HS2
      clear hs
      go_wp2_with fail
      refine (bitsinf11_calls _ s 0 0 HS2.out).mono ?_
      rintro e' w2 ⟨rfl, hf⟩
      have HF2 := hid (HF1.out.then_ hf (fun _ _ h => h))
      clear hf
      go_wp2_with fail
      go_ret2
      refine ⟨?_, HF2.out⟩
      rw [← HR.out]
      unfold widenF
      rw [if_pos HQ1.out, if_neg (by rw [HQ2.out]; decide), HS.out]
      exact ret_ib (by omega) rfl
  · rw [valR2_fin x HX.out q1]
    have hbw := bits_widen 5 10 x false (by intro h; cases h) (by decide) (by decide) (by intro; decide) (by decide) q1
    rw [HR.out] at hbw
    obtain ⟨v0, v1⟩ := valF_bd 5 10 x (by decide) (by decide) (by decide)
    obtain ⟨v, hv⟩ : ∃ v, valF 5 10 x = v := ⟨_, rfl⟩
    rw [hv] at hbw v0 v1
    rw [hv]
    obtain ⟨s, hs⟩ : ∃ s, x / 2 ^ (5 + 10) = s := ⟨_, rfl⟩
    rw [hs] at HS2 hbw
    rw [hs]
    clear hs hv q1
    obtain ⟨vm, vp⟩ := v
    simp only at hbw v0 v1
    obtain ⟨v10, v11⟩ := v1
    have HBW := hid hbw
    clear hbw
    go_wp2_with fail
    refine (bits11_calls _ s vm vp HS2.out v0 ⟨v10, v11⟩).mono ?_
    rintro e' w2 ⟨rfl, hf⟩
    have HF2 := hid (HF1.out.then_ hf (fun _ _ h => h))
    clear hf
    rw [HBW.out]
    go_wp2_with fail
    go_ret2
    exact ⟨rfl, HF2.out⟩


theorem valR4_nan (x : Nat) (h1 : x / 2 ^ 23 % 2 ^ 8 = 255) (h2 : x % 2 ^ 23 ≠ 0) : valR 8 23 x = (0, 0, 0, 2) := by
  unfold valR; rw [if_pos h1, if_pos h2]
theorem valR4_inf (x : Nat) (hx : x < 4294967296) (h1 : x / 2 ^ 23 % 2 ^ 8 = 255) (h2 : x % 2 ^ 23 = 0) : valR 8 23 x = (x / 2 ^ (8 + 23), 0, 0, 1) := by
  unfold valR; rw [if_pos h1, if_neg (by simp [h2])]
  have : x / 2 ^ (8 + 23) % 2 = x / 2 ^ (8 + 23) := by omega
  rw [this]
theorem valR4_fin (x : Nat) (hx : x < 4294967296) (h1 : x / 2 ^ 23 % 2 ^ 8 ≠ 255) : valR 8 23 x = (x / 2 ^ (8 + 23), (valF 8 23 x).1, (valF 8 23 x).2, 0) := by
  unfold valR; rw [if_neg h1]
  have : x / 2 ^ (8 + 23) % 2 = x / 2 ^ (8 + 23) := by omega
  rw [this]
theorem rwiden4_calls (w : World) (x : Nat) (hx : x < 4294967296) : Calls Tryd.prog 57 #[.int .u64 x, .int .i64 4] w
    (fun e w' => e = .returned (.tuple #[.int .u64 (widenF 8 23 false x : Nat), .bool true]) ∧ Fr (fun _ => False) w w') := by
  have x0 : ¬ (x : Int) ≥ 4294967296 := by omega
  have hx64 : x < 2 ^ 64 := by omega
  have hs2 : x / 2 ^ (8 + 23) < 2 := by omega
  have HX64 := hid hx64
  have HS2 := hid hs2
  obtain ⟨r, hr⟩ : ∃ r, widenF 8 23 false x = r := ⟨_, rfl⟩
  rw [hr]
  have HR := hid hr
  have HX := hid hx
  clear hr hx hx64 hs2
  go_enter Tryd.func57, Tryd.ntmps57
  go_wp2_with fail
  refine (value8_calls _ x HX64.out).mono ?_
  rintro e' w1 ⟨rfl, hf⟩
  have HF1 := hid hf
  clear hf
  by_cases q1 : x / 2 ^ 23 % 2 ^ 8 = 255
  · by_cases q2 : x % 2 ^ 23 ≠ 0
    · rw [valR4_nan x q1 q2]
      have HQ1 := hid q1
      have HQ2 := hid q2
      clear q1 q2
      go_wp2_with fail
      go_ret2
      refine ⟨?_, HF1.out⟩
      rw [← HR.out]
      unfold widenF
      rw [if_pos HQ1.out, if_pos HQ2.out]
      exact ret_ib rfl rfl
    · have q2' : x % 2 ^ 23 = 0 := by omega
      rw [valR4_inf x HX.out q1 q2']
      have HQ1 := hid q1
      have HQ2 := hid q2'
      clear q1 q2 q2'
      obtain ⟨s, hs⟩ : ∃ s, x / 2 ^ (8 + 23) = s := ⟨_, rfl⟩
      have HS := hid hs
      rw [hs]
      rw [hs] at HS2
      clear hs
      go_wp2_with fail
      refine (bitsinf11_calls _ s 0 0 HS2.out).mono ?_
      rintro e' w2 ⟨rfl, hf⟩
      have HF2 := hid (HF1.out.then_ hf (fun _ _ h => h))
      clear hf
      go_wp2_with fail
      go_ret2
      refine ⟨?_, HF2.out⟩
      rw [← HR.out]
      unfold widenF
      rw [if_pos HQ1.out, if_neg (by rw [HQ2.out]; decide), HS.out]
      exact ret_ib (by omega) rfl
  · rw [valR4_fin x HX.out q1]
    have hbw := bits_widen 8 23 x false (by intro h; cases h) (by decide) (by decide) (by intro; decide) (by decide) q1
    rw [HR.out] at hbw
    obtain ⟨v0, v1⟩ := valF_bd 8 23 x (by decide) (by decide) (by decide)
    obtain ⟨v, hv⟩ : ∃ v, valF 8 23 x = v := ⟨_, rfl⟩
    rw [hv] at hbw v0 v1
    rw [hv]
    obtain ⟨s, hs⟩ : ∃ s, x / 2 ^ (8 + 23) = s := ⟨_, rfl⟩
    rw [hs] at HS2 hbw
    rw [hs]
    clear hs hv q1
    obtain ⟨vm, vp⟩ := v
    simp only at hbw v0 v1
    obtain ⟨v10, v11⟩ := v1
    have HBW := hid hbw
    clear hbw
    go_wp2_with fail
    refine (bits11_calls _ s vm vp HS2.out v0 ⟨v10, v11⟩).mono ?_
    rintro e' w2 ⟨rfl, hf⟩
    have HF2 := hid (HF1.out.then_ hf (fun _ _ h => h))
    clear hf
    rw [HBW.out]
    go_wp2_with fail
    go_ret2
    exact ⟨rfl, HF2.out⟩


theorem valR8_nan (x : Nat) (h1 : x / 2 ^ 52 % 2 ^ 11 = 2047) (h2 : x % 2 ^ 52 ≠ 0) : valR 11 52 x = (0, 0, 0, 2) := by
  unfold valR; rw [if_pos h1, if_pos h2]
theorem valR8_inf (x : Nat) (hx : x < 18446744073709551616) (h1 : x / 2 ^ 52 % 2 ^ 11 = 2047) (h2 : x % 2 ^ 52 = 0) : valR 11 52 x = (x / 2 ^ (11 + 52), 0, 0, 1) := by
  unfold valR; rw [if_pos h1, if_neg (by simp [h2])]
  have : x / 2 ^ (11 + 52) % 2 = x / 2 ^ (11 + 52) := by omega
  rw [this]
theorem valR8_fin (x : Nat) (hx : x < 18446744073709551616) (h1 : x / 2 ^ 52 % 2 ^ 11 ≠ 2047) : valR 11 52 x = (x / 2 ^ (11 + 52), (valF 11 52 x).1, (valF 11 52 x).2, 0) := by
  unfold valR; rw [if_neg h1]
  have : x / 2 ^ (11 + 52) % 2 = x / 2 ^ (11 + 52) := by omega
  rw [this]
theorem rwiden8_calls (w : World) (x : Nat) (hx : x < 18446744073709551616) : Calls Tryd.prog 57 #[.int .u64 x, .int .i64 8] w
    (fun e w' => e = .returned (.tuple #[.int .u64 (widenF 11 52 true x : Nat), .bool true]) ∧ Fr (fun _ => False) w w') := by
  have hx64 : x < 2 ^ 64 := by omega
  have hs2 : x / 2 ^ (11 + 52) < 2 := by omega
  have HX64 := hid hx64
  have HS2 := hid hs2
  obtain ⟨r, hr⟩ : ∃ r, widenF 11 52 true x = r := ⟨_, rfl⟩
  rw [hr]
  have HR := hid hr
  have HX := hid hx
  clear hr hx hx64 hs2
  go_enter Tryd.func57, Tryd.ntmps57
  go_wp2_with fail
  refine (value11_calls _ x HX64.out).mono ?_
  rintro e' w1 ⟨rfl, hf⟩
  have HF1 := hid hf
  clear hf
  by_cases q1 : x / 2 ^ 52 % 2 ^ 11 = 2047
  · by_cases q2 : x % 2 ^ 52 ≠ 0
    · rw [valR8_nan x q1 q2]
      have HQ1 := hid q1
      have HQ2 := hid q2
      clear q1 q2
      go_wp2_with fail
      go_ret2
      refine ⟨?_, HF1.out⟩
      rw [← HR.out]
      unfold widenF
      rw [if_pos HQ1.out, if_pos HQ2.out]
      exact ret_ib rfl rfl
    · have q2' : x % 2 ^ 52 = 0 := by omega
      rw [valR8_inf x HX.out q1 q2']
      have HQ1 := hid q1
      have HQ2 := hid q2'
      clear q1 q2 q2'
      obtain ⟨s, hs⟩ : ∃ s, x / 2 ^ (11 + 52) = s := ⟨_, rfl⟩
      have HS := hid hs
      rw [hs]
      rw [hs] at HS2
      clear hs
      go_wp2_with fail
      refine (bitsinf11_calls _ s 0 0 HS2.out).mono ?_
      rintro e' w2 ⟨rfl, hf⟩
      have HF2 := hid (HF1.out.then_ hf (fun _ _ h => h))
      clear hf
      go_wp2_with fail
      go_ret2
      refine ⟨?_, HF2.out⟩
      rw [← HR.out]
      unfold widenF
      rw [if_pos HQ1.out, if_neg (by rw [HQ2.out]; decide), HS.out]
      exact ret_ib (by omega) rfl
  · rw [valR8_fin x HX.out q1]
    have hbw := bits_widen 11 52 x true (by intro; exact ⟨rfl, rfl⟩) (by decide) (by decide) (by intro h; cases h) (by decide) q1
    rw [HR.out] at hbw
    obtain ⟨v0, v1⟩ := valF_bd 11 52 x (by decide) (by decide) (by decide)
    obtain ⟨v, hv⟩ : ∃ v, valF 11 52 x = v := ⟨_, rfl⟩
    rw [hv] at hbw v0 v1
    rw [hv]
    obtain ⟨s, hs⟩ : ∃ s, x / 2 ^ (11 + 52) = s := ⟨_, rfl⟩
    rw [hs] at HS2 hbw
    rw [hs]
    clear hs hv q1
    obtain ⟨vm, vp⟩ := v
    simp only at hbw v0 v1
    obtain ⟨v10, v11⟩ := v1
    have HBW := hid hbw
    clear hbw
    go_wp2_with fail
    refine (bits11_calls _ s vm vp HS2.out v0 ⟨v10, v11⟩).mono ?_
    rintro e' w2 ⟨rfl, hf⟩
    have HF2 := hid (HF1.out.then_ hf (fun _ _ h => h))
    clear hf
    rw [HBW.out]
    go_wp2_with fail
    go_ret2
    exact ⟨rfl, HF2.out⟩


theorem rwiden2_long (w : World) (x : Nat) (hx : ¬ x < 65536) : Calls Tryd.prog 57 #[.int .u64 x, .int .i64 2] w
    (fun e w' => e = .returned (.tuple #[.int .u64 0, .bool false]) ∧ Fr (fun _ => False) w w') := by
  have x0 : (x : Int) ≥ 65536 := by omega
  clear hx
  go_enter Tryd.func57, Tryd.ntmps57
  go_wp2_with fail
  go_ret2
  exact ⟨rfl, Fr.refl _ _⟩


theorem rwiden4_long (w : World) (x : Nat) (hx : ¬ x < 4294967296) : Calls Tryd.prog 57 #[.int .u64 x, .int .i64 4] w
    (fun e w' => e = .returned (.tuple #[.int .u64 0, .bool false]) ∧ Fr (fun _ => False) w w') := by
  have x0 : (x : Int) ≥ 4294967296 := by omega
  clear hx
  go_enter Tryd.func57, Tryd.ntmps57
  go_wp2_with fail
  go_ret2
  exact ⟨rfl, Fr.refl _ _⟩


theorem rwiden_none (w : World) (x : Nat) (n : Int) (h2 : n ≠ 2) (h4 : n ≠ 4) (h8 : n ≠ 8) : Calls Tryd.prog 57 #[.int .u64 x, .int .i64 n] w
    (fun e w' => e = .returned (.tuple #[.int .u64 0, .bool false]) ∧ Fr (fun _ => False) w w') := by
  have e2 : (n == 2) = false := beq_eq_false_iff_ne.2 h2
  have e4 : (n == 4) = false := beq_eq_false_iff_ne.2 h4
  have e8 : (n == 8) = false := beq_eq_false_iff_ne.2 h8
  clear h2 h4 h8
  go_enter Tryd.func57, Tryd.ntmps57
  go_wp2_with fail
  go_ret2
  exact ⟨rfl, Fr.refl _ _⟩
end Go.Proofs.YtgdhchknegjpfaaDoor.FloatH
