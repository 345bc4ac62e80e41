/- Walks of layer float: the document's bits (printed by gen/float_ref.py bits). -/
import Derived.Test.YtgdhchknegjpfaaDoorFloatE
set_option linter.unusedVariables false
set_option linter.unusedSimpArgs false
namespace Go.Proofs.YtgdhchknegjpfaaDoor.FloatF
open Go.IntWalk Go.RowKit Go.Proofs.YtgdhchknegjpfaaDoor.Mem Go.Proofs.YtgdhchknegjpfaaDoor.Num Go.Proofs.YtgdhchknegjpfaaDoor.FloatP Go.Proofs.YtgdhchknegjpfaaDoor.FloatA Go.Proofs.YtgdhchknegjpfaaDoor.FloatB Go.Proofs.YtgdhchknegjpfaaDoor.FloatC Go.Proofs.YtgdhchknegjpfaaDoor.FloatD Go.Proofs.YtgdhchknegjpfaaDoor.FloatE

-- PRINTED

set_option maxRecDepth 100000 in
set_option maxHeartbeats 4000000 in
theorem bitsinf5_calls (w : World) (s : Nat) (m : Nat) (p : Int) (hs : s < 2) : Calls Tryd.prog 62 #[.int .u64 s, .int .u64 m, .int .i64 p, .int .i64 1, .int .i64 5, .int .i64 10] w
    (fun e w' => e = .returned (.tuple #[.int .u64 ((s * 2 ^ (5 + 10) + (2 ^ 5 - 1) * 2 ^ 10 : Nat) : Int), .bool true]) ∧ Fr (fun _ => False) w w') := by
  go_enter Tryd.func62, Tryd.ntmps62
  go_wp2_with fail
  go_ret2
  exact ⟨ret_ib (by omega) rfl, Fr.refl _ _⟩

set_option maxRecDepth 100000 in
set_option maxHeartbeats 4000000 in
theorem bits5_calls (w : World) (s : Nat) (m : Nat) (p : Int) (hs : s < 2) (hm : m < 9007199254740992) (hp : -3000 ≤ p ∧ p ≤ 3000) : Calls Tryd.prog 62 #[.int .u64 s, .int .u64 m, .int .i64 p, .int .i64 0, .int .i64 5, .int .i64 10] w
    (fun e w' => e = .returned (.tuple #[.int .u64 ((bitsF 5 10 s m p).1 : Nat), .bool (bitsF 5 10 s m p).2]) ∧ Fr (fun _ => False) w w') := by
  obtain ⟨p0, p1⟩ := hp
  obtain ⟨r, hr⟩ : ∃ r, bitsF 5 10 s m p = r := ⟨_, rfl⟩
  rw [hr]
  unfold bitsF at hr
  rw [bias5, show 1 - ((15 : Nat) : Int) - ((10 : Nat) : Int) = -24 from rfl] at hr
  have HR := hid hr
  clear hr
  go_enter Tryd.func62, Tryd.ntmps62
  by_cases q1 : m = 0
  · have E1 : (m : Int) = 0 := by omega
    go_wp2_with fail
    go_ret2
    refine ⟨?_, Fr.refl _ _⟩
    rw [← HR.out, if_pos q1]
    exact ret_ib (by omega) rfl
  · have E1 : ¬ (m : Int) = 0 := by omega
    by_cases q2 : p < -24
    · go_wp2_with fail
      go_ret2
      refine ⟨?_, Fr.refl _ _⟩
      rw [← HR.out, if_neg q1, if_pos q2]
      exact ret_ib rfl rfl
    · have HQ1 := hid q1
      have HQ2 := hid q2
      go_wp2_with fail
      have hpow : 2 ^ 10 ≤ m * 2 ^ 64 := Nat.le_trans (Nat.pow_le_pow_right (by decide) (by decide)) (Nat.le_mul_of_pos_left _ (by omega))
      go_loop [1, 2] (fun a b => ∃ (c k : Nat) (q : Int), up (2 ^ 10) (-24) k c q = up (2 ^ 10) (-24) 64 m p ∧ 1024 ≤ c * 2 ^ k ∧ c < 9007199254740992 ∧ -24 ≤ q ∧ q ≤ 3000 ∧ a = .int .u64 c ∧ b = .int .i64 q) (fun _ b => (intOf b + 3000).toNat)
      case atStart => exact ⟨m, 64, p, rfl, hpow, hm, by omega, p1, rfl, rfl⟩
      case round =>
        obtain ⟨c, k, q, hu, hk, hc, hq0, hq1, rfl, rfl⟩ := hrel
        have HU := hid hu
        have HK := hid hk
        clear hu hk hpow
        by_cases q3 : c < 1024 ∧ -24 < q
        · obtain ⟨q3a, q3b⟩ := q3
          obtain ⟨k, rfl⟩ : ∃ k', k = k' + 1 := ⟨k - 1, by
            have := HK.out
            rcases Nat.eq_zero_or_pos k with h | h
            · subst h; rw [Nat.pow_zero] at this; omega
            · omega⟩
          have q3b' : q > -24 := q3b
          have q3a' : (c : Int) < 1024 := by omega
          have HQA := hid q3a
          clear q3a
          go_wp2_with fail
          go_round
          case rel => exact ⟨c * 2, k, q - 1, by rw [← HU.out]; simp only [up]; rw [if_pos ⟨HQA.out, q3b⟩], by rw [Nat.mul_assoc, ← Nat.pow_succ']; exact HK.out, by omega, by omega, by omega, by go_num, by go_num⟩
          case measure => simp [intOf]; omega
        · have hst : up (2 ^ 10) (-24) 64 m p = (c, q) := by rw [← HU.out]; exact up_stop _ _ _ _ _ q3
          have HST := hid hst
          clear hst
          have hout : ((s : Int) * 32768) = s * 32768 := rfl
          have key : (if 2 ^ (10 + 1) ≤ c then ((0 : Nat), false)
            else if c < 2 ^ 10 then (s * 2 ^ (5 + 10) + c, true)
            else if 31 ≤ q + 15 + 10 then (0, false)
            else (s * 2 ^ (5 + 10) + (q + 15 + 10).toNat * 2 ^ 10 + (c - 2 ^ 10), true)) = r := by
            have h := HR.out
            rw [if_neg HQ1.out, if_neg (by omega), HST.out] at h
            simpa using h
          have HKEY := hid key
          clear key HR
          by_cases q4 : 2048 ≤ c
          · have q4' : (c : Int) ≥ 2048 := by omega
            have q4'' : ¬ (c : Int) < 1024 := by omega
            go_wp2_with fail
            go_ret2
            refine ⟨?_, Fr.refl _ _⟩
            rw [← HKEY.out, if_pos q4]
            exact ret_ib rfl rfl
          · have q4' : ¬ (c : Int) ≥ 2048 := by omega
            by_cases q5 : c < 1024
            · have q6 : ¬ (q > -24) := fun h => q3 ⟨q5, h⟩
              have HQ3 := hid q3
              clear q3
              have q5' : (c : Int) < 1024 := by omega
              go_wp2_with fail
              go_ret2
              refine ⟨?_, Fr.refl _ _⟩
              rw [← HKEY.out, if_neg q4, if_pos q5]
              exact ret_ib (by omega) rfl
            · have HQ3 := hid q3
              clear q3
              have q5' : ¬ (c : Int) < 1024 := by omega
              by_cases q6 : 31 ≤ q + 15 + 10
              · have q6' : q + 15 + 10 ≥ 31 := q6
                go_wp2_with fail
                go_ret2
                refine ⟨?_, Fr.refl _ _⟩
                rw [← HKEY.out, if_neg q4, if_neg q5, if_pos q6]
                exact ret_ib rfl rfl
              · have q6' : ¬ (q + 15 + 10 ≥ 31) := q6
                go_wp2_with fail
                go_quiet (fail)
                go_wp2_with fail
                go_ret2
                refine ⟨?_, (Fr.refl _ _).drewN _⟩
                rw [← HKEY.out, if_neg q4, if_neg q5, if_neg (by omega)]
                refine ret_ib ?_ rfl
                clear HKEY
                first | omega | (simp only [wrap_u64]; omega)


set_option maxRecDepth 100000 in
set_option maxHeartbeats 4000000 in
theorem bitsinf8_calls (w : World) (s : Nat) (m : Nat) (p : Int) (hs : s < 2) : Calls Tryd.prog 62 #[.int .u64 s, .int .u64 m, .int .i64 p, .int .i64 1, .int .i64 8, .int .i64 23] w
    (fun e w' => e = .returned (.tuple #[.int .u64 ((s * 2 ^ (8 + 23) + (2 ^ 8 - 1) * 2 ^ 23 : Nat) : Int), .bool true]) ∧ Fr (fun _ => False) w w') := by
  go_enter Tryd.func62, Tryd.ntmps62
  go_wp2_with fail
  go_ret2
  exact ⟨ret_ib (by omega) rfl, Fr.refl _ _⟩

set_option maxRecDepth 100000 in
set_option maxHeartbeats 4000000 in
theorem bits8_calls (w : World) (s : Nat) (m : Nat) (p : Int) (hs : s < 2) (hm : m < 9007199254740992) (hp : -3000 ≤ p ∧ p ≤ 3000) : Calls Tryd.prog 62 #[.int .u64 s, .int .u64 m, .int .i64 p, .int .i64 0, .int .i64 8, .int .i64 23] w
    (fun e w' => e = .returned (.tuple #[.int .u64 ((bitsF 8 23 s m p).1 : Nat), .bool (bitsF 8 23 s m p).2]) ∧ Fr (fun _ => False) w w') := by
  obtain ⟨p0, p1⟩ := hp
  obtain ⟨r, hr⟩ : ∃ r, bitsF 8 23 s m p = r := ⟨_, rfl⟩
  rw [hr]
  unfold bitsF at hr
  rw [bias8, show 1 - ((127 : Nat) : Int) - ((23 : Nat) : Int) = -149 from rfl] at hr
  have HR := hid hr
  clear hr
  go_enter Tryd.func62, Tryd.ntmps62
  by_cases q1 : m = 0
  · have E1 : (m : Int) = 0 := by omega
    go_wp2_with fail
    go_ret2
    refine ⟨?_, Fr.refl _ _⟩
    rw [← HR.out, if_pos q1]
    exact ret_ib (by omega) rfl
  · have E1 : ¬ (m : Int) = 0 := by omega
    by_cases q2 : p < -149
    · go_wp2_with fail
      go_ret2
      refine ⟨?_, Fr.refl _ _⟩
      rw [← HR.out, if_neg q1, if_pos q2]
      exact ret_ib rfl rfl
    · have HQ1 := hid q1
      have HQ2 := hid q2
      go_wp2_with fail
      have hpow : 2 ^ 23 ≤ m * 2 ^ 64 := Nat.le_trans (Nat.pow_le_pow_right (by decide) (by decide)) (Nat.le_mul_of_pos_left _ (by omega))
      go_loop [1, 2] (fun a b => ∃ (c k : Nat) (q : Int), up (2 ^ 23) (-149) k c q = up (2 ^ 23) (-149) 64 m p ∧ 8388608 ≤ c * 2 ^ k ∧ c < 9007199254740992 ∧ -149 ≤ q ∧ q ≤ 3000 ∧ a = .int .u64 c ∧ b = .int .i64 q) (fun _ b => (intOf b + 3000).toNat)
      case atStart => exact ⟨m, 64, p, rfl, hpow, hm, by omega, p1, rfl, rfl⟩
      case round =>
        obtain ⟨c, k, q, hu, hk, hc, hq0, hq1, rfl, rfl⟩ := hrel
        have HU := hid hu
        have HK := hid hk
        clear hu hk hpow
        by_cases q3 : c < 8388608 ∧ -149 < q
        · obtain ⟨q3a, q3b⟩ := q3
          obtain ⟨k, rfl⟩ : ∃ k', k = k' + 1 := ⟨k - 1, by
            have := HK.out
            rcases Nat.eq_zero_or_pos k with h | h
            · subst h; rw [Nat.pow_zero] at this; omega
            · omega⟩
          have q3b' : q > -149 := q3b
          have q3a' : (c : Int) < 8388608 := by omega
          have HQA := hid q3a
          clear q3a
          go_wp2_with fail
          go_round
          case rel => exact ⟨c * 2, k, q - 1, by rw [← HU.out]; simp only [up]; rw [if_pos ⟨HQA.out, q3b⟩], by rw [Nat.mul_assoc, ← Nat.pow_succ']; exact HK.out, by omega, by omega, by omega, by go_num, by go_num⟩
          case measure => simp [intOf]; omega
        · have hst : up (2 ^ 23) (-149) 64 m p = (c, q) := by rw [← HU.out]; exact up_stop _ _ _ _ _ q3
          have HST := hid hst
          clear hst
          have hout : ((s : Int) * 2147483648) = s * 2147483648 := rfl
          have key : (if 2 ^ (23 + 1) ≤ c then ((0 : Nat), false)
            else if c < 2 ^ 23 then (s * 2 ^ (8 + 23) + c, true)
            else if 255 ≤ q + 127 + 23 then (0, false)
            else (s * 2 ^ (8 + 23) + (q + 127 + 23).toNat * 2 ^ 23 + (c - 2 ^ 23), true)) = r := by
            have h := HR.out
            rw [if_neg HQ1.out, if_neg (by omega), HST.out] at h
            simpa using h
          have HKEY := hid key
          clear key HR
          by_cases q4 : 16777216 ≤ c
          · have q4' : (c : Int) ≥ 16777216 := by omega
            have q4'' : ¬ (c : Int) < 8388608 := by omega
            go_wp2_with fail
            go_ret2
            refine ⟨?_, Fr.refl _ _⟩
            rw [← HKEY.out, if_pos q4]
            exact ret_ib rfl rfl
          · have q4' : ¬ (c : Int) ≥ 16777216 := by omega
            by_cases q5 : c < 8388608
            · have q6 : ¬ (q > -149) := fun h => q3 ⟨q5, h⟩
              have HQ3 := hid q3
              clear q3
              have q5' : (c : Int) < 8388608 := by omega
              go_wp2_with fail
              go_ret2
              refine ⟨?_, Fr.refl _ _⟩
              rw [← HKEY.out, if_neg q4, if_pos q5]
              exact ret_ib (by omega) rfl
            · have HQ3 := hid q3
              clear q3
              have q5' : ¬ (c : Int) < 8388608 := by omega
              by_cases q6 : 255 ≤ q + 127 + 23
              · have q6' : q + 127 + 23 ≥ 255 := q6
                go_wp2_with fail
                go_ret2
                refine ⟨?_, Fr.refl _ _⟩
                rw [← HKEY.out, if_neg q4, if_neg q5, if_pos q6]
                exact ret_ib rfl rfl
              · have q6' : ¬ (q + 127 + 23 ≥ 255) := q6
                go_wp2_with fail
                go_quiet (fail)
                go_wp2_with fail
                go_ret2
                refine ⟨?_, (Fr.refl _ _).drewN _⟩
                rw [← HKEY.out, if_neg q4, if_neg q5, if_neg (by omega)]
                refine ret_ib ?_ rfl
                clear HKEY
                first | omega | (simp only [wrap_u64]; omega)


set_option maxRecDepth 100000 in
set_option maxHeartbeats 4000000 in
theorem bitsinf11_calls (w : World) (s : Nat) (m : Nat) (p : Int) (hs : s < 2) : Calls Tryd.prog 62 #[.int .u64 s, .int .u64 m, .int .i64 p, .int .i64 1, .int .i64 11, .int .i64 52] w
    (fun e w' => e = .returned (.tuple #[.int .u64 ((s * 2 ^ (11 + 52) + (2 ^ 11 - 1) * 2 ^ 52 : Nat) : Int), .bool true]) ∧ Fr (fun _ => False) w w') := by
  go_enter Tryd.func62, Tryd.ntmps62
  go_wp2_with fail
  go_ret2
  exact ⟨ret_ib (by omega) rfl, Fr.refl _ _⟩

set_option maxRecDepth 100000 in
set_option maxHeartbeats 4000000 in
theorem bits11_calls (w : World) (s : Nat) (m : Nat) (p : Int) (hs : s < 2) (hm : m < 9007199254740992) (hp : -3000 ≤ p ∧ p ≤ 3000) : Calls Tryd.prog 62 #[.int .u64 s, .int .u64 m, .int .i64 p, .int .i64 0, .int .i64 11, .int .i64 52] w
    (fun e w' => e = .returned (.tuple #[.int .u64 ((bitsF 11 52 s m p).1 : Nat), .bool (bitsF 11 52 s m p).2]) ∧ Fr (fun _ => False) w w') := by
  obtain ⟨p0, p1⟩ := hp
  obtain ⟨r, hr⟩ : ∃ r, bitsF 11 52 s m p = r := ⟨_, rfl⟩
  rw [hr]
  unfold bitsF at hr
  rw [bias11, show 1 - ((1023 : Nat) : Int) - ((52 : Nat) : Int) = -1074 from rfl] at hr
  have HR := hid hr
  clear hr
  go_enter Tryd.func62, Tryd.ntmps62
  by_cases q1 : m = 0
  · have E1 : (m : Int) = 0 := by omega
    go_wp2_with fail
    go_ret2
    refine ⟨?_, Fr.refl _ _⟩
    rw [← HR.out, if_pos q1]
    exact ret_ib (by omega) rfl
  · have E1 : ¬ (m : Int) = 0 := by omega
    by_cases q2 : p < -1074
    · go_wp2_with fail
      go_ret2
      refine ⟨?_, Fr.refl _ _⟩
      rw [← HR.out, if_neg q1, if_pos q2]
      exact ret_ib rfl rfl
    · have HQ1 := hid q1
      have HQ2 := hid q2
      go_wp2_with fail
      have hpow : 2 ^ 52 ≤ m * 2 ^ 64 := Nat.le_trans (Nat.pow_le_pow_right (by decide) (by decide)) (Nat.le_mul_of_pos_left _ (by omega))
      go_loop [1, 2] (fun a b => ∃ (c k : Nat) (q : Int), up (2 ^ 52) (-1074) k c q = up (2 ^ 52) (-1074) 64 m p ∧ 4503599627370496 ≤ c * 2 ^ k ∧ c < 9007199254740992 ∧ -1074 ≤ q ∧ q ≤ 3000 ∧ a = .int .u64 c ∧ b = .int .i64 q) (fun _ b => (intOf b + 3000).toNat)
      case atStart => exact ⟨m, 64, p, rfl, hpow, hm, by omega, p1, rfl, rfl⟩
      case round =>
        obtain ⟨c, k, q, hu, hk, hc, hq0, hq1, rfl, rfl⟩ := hrel
        have HU := hid hu
        have HK := hid hk
        clear hu hk hpow
        by_cases q3 : c < 4503599627370496 ∧ -1074 < q
        · obtain ⟨q3a, q3b⟩ := q3
          obtain ⟨k, rfl⟩ : ∃ k', k = k' + 1 := ⟨k - 1, by
            have := HK.out
            rcases Nat.eq_zero_or_pos k with h | h
            · subst h; rw [Nat.pow_zero] at this; omega
            · omega⟩
          have q3b' : q > -1074 := q3b
          have q3a' : (c : Int) < 4503599627370496 := by omega
          have HQA := hid q3a
          clear q3a
          go_wp2_with fail
          go_round
          case rel => exact ⟨c * 2, k, q - 1, by rw [← HU.out]; simp only [up]; rw [if_pos ⟨HQA.out, q3b⟩], by rw [Nat.mul_assoc, ← Nat.pow_succ']; exact HK.out, by omega, by omega, by omega, by go_num, by go_num⟩
          case measure => simp [intOf]; omega
        · have hst : up (2 ^ 52) (-1074) 64 m p = (c, q) := by rw [← HU.out]; exact up_stop _ _ _ _ _ q3
          have HST := hid hst
          clear hst
          have hout : ((s : Int) * 9223372036854775808) = s * 9223372036854775808 := rfl
          have key : (if 2 ^ (52 + 1) ≤ c then ((0 : Nat), false)
            else if c < 2 ^ 52 then (s * 2 ^ (11 + 52) + c, true)
            else if 2047 ≤ q + 1023 + 52 then (0, false)
            else (s * 2 ^ (11 + 52) + (q + 1023 + 52).toNat * 2 ^ 52 + (c - 2 ^ 52), true)) = r := by
            have h := HR.out
            rw [if_neg HQ1.out, if_neg (by omega), HST.out] at h
            simpa using h
          have HKEY := hid key
          clear key HR
          by_cases q4 : 9007199254740992 ≤ c
          · have q4' : (c : Int) ≥ 9007199254740992 := by omega
            have q4'' : ¬ (c : Int) < 4503599627370496 := by omega
            go_wp2_with fail
            go_ret2
            refine ⟨?_, Fr.refl _ _⟩
            rw [← HKEY.out, if_pos q4]
            exact ret_ib rfl rfl
          · have q4' : ¬ (c : Int) ≥ 9007199254740992 := by omega
            by_cases q5 : c < 4503599627370496
            · have q6 : ¬ (q > -1074) := fun h => q3 ⟨q5, h⟩
              have HQ3 := hid q3
              clear q3
              have q5' : (c : Int) < 4503599627370496 := by omega
              go_wp2_with fail
              go_ret2
              refine ⟨?_, Fr.refl _ _⟩
              rw [← HKEY.out, if_neg q4, if_pos q5]
              exact ret_ib (by omega) rfl
            · have HQ3 := hid q3
              clear q3
              have q5' : ¬ (c : Int) < 4503599627370496 := by omega
              by_cases q6 : 2047 ≤ q + 1023 + 52
              · have q6' : q + 1023 + 52 ≥ 2047 := q6
                go_wp2_with fail
                go_ret2
                refine ⟨?_, Fr.refl _ _⟩
                rw [← HKEY.out, if_neg q4, if_neg q5, if_pos q6]
                exact ret_ib rfl rfl
              · have q6' : ¬ (q + 1023 + 52 ≥ 2047) := q6
                go_wp2_with fail
                go_quiet (fail)
                go_wp2_with fail
                go_ret2
                refine ⟨?_, (Fr.refl _ _).drewN _⟩
                rw [← HKEY.out, if_neg q4, if_neg q5, if_neg (by omega)]
                refine ret_ib ?_ rfl
                clear HKEY
                first | omega | (simp only [wrap_u64]; omega)
end Go.Proofs.YtgdhchknegjpfaaDoor.FloatF
