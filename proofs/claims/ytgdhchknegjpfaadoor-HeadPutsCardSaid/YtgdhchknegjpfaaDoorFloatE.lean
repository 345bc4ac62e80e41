/- Walks of layer float: the document's values (printed by gen/float_ref.py). -/
import Derived.Test.YtgdhchknegjpfaaDoorFloatD
set_option linter.unusedVariables false
set_option linter.unusedSimpArgs false
namespace Go.Proofs.YtgdhchknegjpfaaDoor.FloatE
open Go.IntWalk Go.RowKit Go.Proofs.YtgdhchknegjpfaaDoor.Mem Go.Proofs.YtgdhchknegjpfaaDoor.Num Go.Proofs.YtgdhchknegjpfaaDoor.FloatP Go.Proofs.YtgdhchknegjpfaaDoor.FloatA Go.Proofs.YtgdhchknegjpfaaDoor.FloatB Go.Proofs.YtgdhchknegjpfaaDoor.FloatC Go.Proofs.YtgdhchknegjpfaaDoor.FloatD

theorem results_tmp4 {fn : Func} {t u v x : Tmp} (h : fn.results = #[.tmp t, .tmp u, .tmp v, .tmp x]) (tmps : Array Value) (P : Program) (w : World) :
    (results fn tmps).run P w = .ok (.tuple #[tmps.getD t undef, tmps.getD u undef, tmps.getD v undef, tmps.getD x undef]) w := by
  simp [results, h]
theorem ret_iiii {k1 k2 k3 k4 : IntKind} {a b c d a' b' c' d' : Int} (h1 : a = a') (h2 : b = b') (h3 : c = c') (h4 : d = d') :
    Ending.returned (.tuple #[.int k1 a, .int k2 b, .int k3 c, .int k4 d]) = Ending.returned (.tuple #[.int k1 a', .int k2 b', .int k3 c', .int k4 d']) := by subst h1 h2 h3 h4; rfl

/-- The document's value of a form's bits: sign, number, power, kind. -/
def valR (eb fb x : Nat) : Nat × Nat × Int × Int :=
  if x / 2 ^ fb % 2 ^ eb = 2 ^ eb - 1 then (if x % 2 ^ fb ≠ 0 then (0, 0, 0, 2) else (x / 2 ^ (eb + fb) % 2, 0, 0, 1))
  else (x / 2 ^ (eb + fb) % 2, (valF eb fb x).1, (valF eb fb x).2, 0)
-- PRINTED

set_option maxRecDepth 100000 in
set_option maxHeartbeats 4000000 in
theorem value5_calls (w : World) (x : Nat) (hx : x < 2 ^ 64) : Calls Tryd.prog 61 #[.int .u64 x, .int .i64 5, .int .i64 10] w
    (fun e w' => e = .returned (.tuple #[.int .u64 (valR 5 10 x).1, .int .u64 (valR 5 10 x).2.1, .int .i64 (valR 5 10 x).2.2.1, .int .i64 (valR 5 10 x).2.2.2]) ∧ Fr (fun _ => False) w w') := by
  have HX := hid hx
  obtain ⟨r, hr⟩ : ∃ r, valR 5 10 x = r := ⟨_, rfl⟩
  rw [hr]
  unfold valR valF at hr
  obtain ⟨s, hs⟩ : ∃ s, x / 2 ^ (5 + 10) % 2 = s := ⟨_, rfl⟩
  obtain ⟨e, he⟩ : ∃ e, x / 2 ^ 10 % 2 ^ 5 = e := ⟨_, rfl⟩
  obtain ⟨m, hm⟩ : ∃ m, x % 2 ^ 10 = m := ⟨_, rfl⟩
  have s1 : s < 2 := by omega
  have e1 : e < 32 := by rw [← he]; exact Nat.mod_lt _ (by decide)
  have m1 : m < 1024 := by rw [← hm]; exact Nat.mod_lt _ (by decide)
  have hs' : (x : Int) / 32768 % 2 = s := by omega
  have he' : (x : Int) / 1024 % 32 = e := by omega
  have hm' : (x : Int) % 1024 = m := by omega
  rw [hs, he, hm, bias5] at hr
  have HR := hid hr
  clear he hm hs hr
  go_enter Tryd.func61, Tryd.ntmps61
  go_wp2_with fail
  go_quiet (fail)
  by_cases q1 : e = 31
  · have E1 : ((e : Int) == 31) = true := beq_iff_eq.2 (by omega)
    have HQ := hid q1
    clear q1
    by_cases q2 : m = 0
    · have E2 : (m : Int) = 0 := by omega
      go_wp2_with fail
      (try simp only [Exit.inBlock, Exit.then]); refine bodyPost_ret (results_tmp4 rfl _ _ _) rfl ?_
      refine ⟨?_, (Fr.refl _ _).drewN _⟩
      rw [← HR.out, if_pos HQ.out, if_neg (by simp [q2])]
      exact ret_iiii hs' rfl rfl rfl
    · have E2 : ¬ (m : Int) = 0 := by omega
      go_wp2_with fail
      (try simp only [Exit.inBlock, Exit.then]); refine bodyPost_ret (results_tmp4 rfl _ _ _) rfl ?_
      refine ⟨?_, (Fr.refl _ _).drewN _⟩
      rw [← HR.out, if_pos HQ.out, if_pos q2]
      exact ret_iiii rfl rfl rfl rfl
  · have E1 : ((e : Int) == 31) = false := beq_eq_false_iff_ne.2 (by omega)
    have HQ := hid q1
    clear q1
    by_cases q2 : e = 0
    · have E2 : ((e : Int) == 0) = true := beq_iff_eq.2 (by omega)
      have HQ2 := hid q2
      clear q2
      by_cases q3 : m = 0
      · have E3 : (m : Int) = 0 := by omega
        go_wp2_with fail
        (try simp only [Exit.inBlock, Exit.then]); refine bodyPost_ret (results_tmp4 rfl _ _ _) rfl ?_
        refine ⟨?_, (Fr.refl _ _).drewN _⟩
        rw [← HR.out, if_neg HQ.out, if_pos HQ2.out, if_pos q3]
        exact ret_iiii hs' rfl rfl rfl
      · have E3 : ¬ (m : Int) = 0 := by omega
        have hp0 : 1 - ((15 : Nat) : Int) - ((10 : Nat) : Int) = (e : Int) - 15 - 10 + 1 := by have := HQ2.out; omega
        have HP := hid hp0
        have HQ3 := hid q3
        clear hp0
        go_wp2_with fail
        go_loop [12, 13] (fun a p => ∃ (c k : Nat), c * 2 ^ k = m ∧ od c ((e : Int) - 15 - 10 + 1 + k) = od m ((e : Int) - 15 - 10 + 1) ∧ a = .int .u64 c ∧ p = .int .i64 ((e : Int) - 15 - 10 + 1 + k)) (fun a _ => (intOf a).toNat)
        case atStart => exact ⟨m, 0, by simp, by simp, by go_num, by go_num⟩
        case round =>
          obtain ⟨c, k, hc, ho, rfl, rfl⟩ := hrel
          have hk : k < 53 := pow_le_of hc (by rintro rfl; simp at hc; omega) (by omega)
          have hc0 : c ≠ 0 := by rintro rfl; simp at hc; omega
          have hcl : c ≤ m := by rw [← hc]; exact Nat.le_mul_of_pos_right _ (Nat.two_pow_pos k)
          have HC := hid hc
          have HO := hid ho
          clear hc ho
          by_cases q4 : c % 2 = 0
          · have q5 : (c : Int) % 2 = 0 := by omega
            go_wp2_with fail
            go_round
            case rel => exact ⟨c / 2, k + 1, by rw [Nat.pow_succ', ← Nat.mul_assoc, show c / 2 * 2 = c from by omega]; exact HC.out, by rw [← HO.out, od_even c _ hc0 q4]; congr 1; omega, by go_num, by go_num⟩
            case measure => simp [intOf]; omega
          · have q5 : ¬ (c : Int) % 2 = 0 := by omega
            have h1 := HO.out
            rw [od_odd c _ (by omega)] at h1
            have HO1 := hid h1
            clear h1
            go_wp2_with fail
            (try simp only [Exit.inBlock, Exit.then]); refine bodyPost_ret (results_tmp4 rfl _ _ _) rfl ?_
            refine ⟨?_, Fr.refl _ _ |>.drewN _⟩
            rw [← HR.out, if_neg HQ.out, if_pos HQ2.out, if_neg HQ3.out, HP.out, ← HO1.out]
            exact ret_iiii rfl rfl rfl rfl
    · have E2 : ((e : Int) == 0) = false := beq_eq_false_iff_ne.2 (by omega)
      have HQ2 := hid q2
      clear q2
      obtain ⟨M, hM⟩ : ∃ M, m + 1024 = M := ⟨_, rfl⟩
      have hM' : (m : Int) + 1024 = M := by omega
      have M0 : 0 < M := by omega
      have M1 : M < 2048 := by omega
      have E3 : ¬ (M : Int) = 0 := by omega
      have hp0 : (e : Int) - ((15 : Nat) : Int) - ((10 : Nat) : Int) = (e : Int) - 15 - 10 := rfl
      have HP := hid hp0
      have HM := hid (show m + 2 ^ 10 = M from hM)
      clear hp0 hM
      go_wp2_with fail
      go_loop [12, 13] (fun a p => ∃ (c k : Nat), c * 2 ^ k = M ∧ od c ((e : Int) - 15 - 10 + k) = od M ((e : Int) - 15 - 10) ∧ a = .int .u64 c ∧ p = .int .i64 ((e : Int) - 15 - 10 + k)) (fun a _ => (intOf a).toNat)
      case atStart => exact ⟨M, 0, by simp, by simp, by go_num, by go_num⟩
      case round =>
        obtain ⟨c, k, hc, ho, rfl, rfl⟩ := hrel
        have hk : k < 53 := pow_le_of hc (by rintro rfl; simp at hc; omega) (by omega)
        have hc0 : c ≠ 0 := by rintro rfl; simp at hc; omega
        have hcl : c ≤ M := by rw [← hc]; exact Nat.le_mul_of_pos_right _ (Nat.two_pow_pos k)
        have HC := hid hc
        have HO := hid ho
        clear hc ho
        by_cases q4 : c % 2 = 0
        · have q5 : (c : Int) % 2 = 0 := by omega
          go_wp2_with fail
          go_round
          case rel => exact ⟨c / 2, k + 1, by rw [Nat.pow_succ', ← Nat.mul_assoc, show c / 2 * 2 = c from by omega]; exact HC.out, by rw [← HO.out, od_even c _ hc0 q4]; congr 1; omega, by go_num, by go_num⟩
          case measure => simp [intOf]; omega
        · have q5 : ¬ (c : Int) % 2 = 0 := by omega
          have h1 := HO.out
          rw [od_odd c _ (by omega)] at h1
          have HO1 := hid h1
          clear h1
          go_wp2_with fail
          (try simp only [Exit.inBlock, Exit.then]); refine bodyPost_ret (results_tmp4 rfl _ _ _) rfl ?_
          refine ⟨?_, Fr.refl _ _ |>.drewN _⟩
          rw [← HR.out, if_neg HQ.out, if_neg HQ2.out, HP.out, HM.out, ← HO1.out]
          exact ret_iiii rfl rfl rfl rfl


set_option maxRecDepth 100000 in
set_option maxHeartbeats 4000000 in
theorem value8_calls (w : World) (x : Nat) (hx : x < 2 ^ 64) : Calls Tryd.prog 61 #[.int .u64 x, .int .i64 8, .int .i64 23] w
    (fun e w' => e = .returned (.tuple #[.int .u64 (valR 8 23 x).1, .int .u64 (valR 8 23 x).2.1, .int .i64 (valR 8 23 x).2.2.1, .int .i64 (valR 8 23 x).2.2.2]) ∧ Fr (fun _ => False) w w') := by
  have HX := hid hx
  obtain ⟨r, hr⟩ : ∃ r, valR 8 23 x = r := ⟨_, rfl⟩
  rw [hr]
  unfold valR valF at hr
  obtain ⟨s, hs⟩ : ∃ s, x / 2 ^ (8 + 23) % 2 = s := ⟨_, rfl⟩
  obtain ⟨e, he⟩ : ∃ e, x / 2 ^ 23 % 2 ^ 8 = e := ⟨_, rfl⟩
  obtain ⟨m, hm⟩ : ∃ m, x % 2 ^ 23 = m := ⟨_, rfl⟩
  have s1 : s < 2 := by omega
  have e1 : e < 256 := by rw [← he]; exact Nat.mod_lt _ (by decide)
  have m1 : m < 8388608 := by rw [← hm]; exact Nat.mod_lt _ (by decide)
  have hs' : (x : Int) / 2147483648 % 2 = s := by omega
  have he' : (x : Int) / 8388608 % 256 = e := by omega
  have hm' : (x : Int) % 8388608 = m := by omega
  rw [hs, he, hm, bias8] at hr
  have HR := hid hr
  clear he hm hs hr
  go_enter Tryd.func61, Tryd.ntmps61
  go_wp2_with fail
  go_quiet (fail)
  by_cases q1 : e = 255
  · have E1 : ((e : Int) == 255) = true := beq_iff_eq.2 (by omega)
    have HQ := hid q1
    clear q1
    by_cases q2 : m = 0
    · have E2 : (m : Int) = 0 := by omega
      go_wp2_with fail
      (try simp only [Exit.inBlock, Exit.then]); refine bodyPost_ret (results_tmp4 rfl _ _ _) rfl ?_
      refine ⟨?_, (Fr.refl _ _).drewN _⟩
      rw [← HR.out, if_pos HQ.out, if_neg (by simp [q2])]
      exact ret_iiii hs' rfl rfl rfl
    · have E2 : ¬ (m : Int) = 0 := by omega
      go_wp2_with fail
      (try simp only [Exit.inBlock, Exit.then]); refine bodyPost_ret (results_tmp4 rfl _ _ _) rfl ?_
      refine ⟨?_, (Fr.refl _ _).drewN _⟩
      rw [← HR.out, if_pos HQ.out, if_pos q2]
      exact ret_iiii rfl rfl rfl rfl
  · have E1 : ((e : Int) == 255) = false := beq_eq_false_iff_ne.2 (by omega)
    have HQ := hid q1
    clear q1
    by_cases q2 : e = 0
    · have E2 : ((e : Int) == 0) = true := beq_iff_eq.2 (by omega)
      have HQ2 := hid q2
      clear q2
      by_cases q3 : m = 0
      · have E3 : (m : Int) = 0 := by omega
        go_wp2_with fail
        (try simp only [Exit.inBlock, Exit.then]); refine bodyPost_ret (results_tmp4 rfl _ _ _) rfl ?_
        refine ⟨?_, (Fr.refl _ _).drewN _⟩
        rw [← HR.out, if_neg HQ.out, if_pos HQ2.out, if_pos q3]
        exact ret_iiii hs' rfl rfl rfl
      · have E3 : ¬ (m : Int) = 0 := by omega
        have hp0 : 1 - ((127 : Nat) : Int) - ((23 : Nat) : Int) = (e : Int) - 127 - 23 + 1 := by have := HQ2.out; omega
        have HP := hid hp0
        have HQ3 := hid q3
        clear hp0
        go_wp2_with fail
        go_loop [12, 13] (fun a p => ∃ (c k : Nat), c * 2 ^ k = m ∧ od c ((e : Int) - 127 - 23 + 1 + k) = od m ((e : Int) - 127 - 23 + 1) ∧ a = .int .u64 c ∧ p = .int .i64 ((e : Int) - 127 - 23 + 1 + k)) (fun a _ => (intOf a).toNat)
        case atStart => exact ⟨m, 0, by simp, by simp, by go_num, by go_num⟩
        case round =>
          obtain ⟨c, k, hc, ho, rfl, rfl⟩ := hrel
          have hk : k < 53 := pow_le_of hc (by rintro rfl; simp at hc; omega) (by omega)
          have hc0 : c ≠ 0 := by rintro rfl; simp at hc; omega
          have hcl : c ≤ m := by rw [← hc]; exact Nat.le_mul_of_pos_right _ (Nat.two_pow_pos k)
          have HC := hid hc
          have HO := hid ho
          clear hc ho
          by_cases q4 : c % 2 = 0
          · have q5 : (c : Int) % 2 = 0 := by omega
            go_wp2_with fail
            go_round
            case rel => exact ⟨c / 2, k + 1, by rw [Nat.pow_succ', ← Nat.mul_assoc, show c / 2 * 2 = c from by omega]; exact HC.out, by rw [← HO.out, od_even c _ hc0 q4]; congr 1; omega, by go_num, by go_num⟩
            case measure => simp [intOf]; omega
          · have q5 : ¬ (c : Int) % 2 = 0 := by omega
            have h1 := HO.out
            rw [od_odd c _ (by omega)] at h1
            have HO1 := hid h1
            clear h1
            go_wp2_with fail
            (try simp only [Exit.inBlock, Exit.then]); refine bodyPost_ret (results_tmp4 rfl _ _ _) rfl ?_
            refine ⟨?_, Fr.refl _ _ |>.drewN _⟩
            rw [← HR.out, if_neg HQ.out, if_pos HQ2.out, if_neg HQ3.out, HP.out, ← HO1.out]
            exact ret_iiii rfl rfl rfl rfl
    · have E2 : ((e : Int) == 0) = false := beq_eq_false_iff_ne.2 (by omega)
      have HQ2 := hid q2
      clear q2
      obtain ⟨M, hM⟩ : ∃ M, m + 8388608 = M := ⟨_, rfl⟩
      have hM' : (m : Int) + 8388608 = M := by omega
      have M0 : 0 < M := by omega
      have M1 : M < 16777216 := by omega
      have E3 : ¬ (M : Int) = 0 := by omega
      have hp0 : (e : Int) - ((127 : Nat) : Int) - ((23 : Nat) : Int) = (e : Int) - 127 - 23 := rfl
      have HP := hid hp0
      have HM := hid (show m + 2 ^ 23 = M from hM)
      clear hp0 hM
      go_wp2_with fail
      go_loop [12, 13] (fun a p => ∃ (c k : Nat), c * 2 ^ k = M ∧ od c ((e : Int) - 127 - 23 + k) = od M ((e : Int) - 127 - 23) ∧ a = .int .u64 c ∧ p = .int .i64 ((e : Int) - 127 - 23 + k)) (fun a _ => (intOf a).toNat)
      case atStart => exact ⟨M, 0, by simp, by simp, by go_num, by go_num⟩
      case round =>
        obtain ⟨c, k, hc, ho, rfl, rfl⟩ := hrel
        have hk : k < 53 := pow_le_of hc (by rintro rfl; simp at hc; omega) (by omega)
        have hc0 : c ≠ 0 := by rintro rfl; simp at hc; omega
        have hcl : c ≤ M := by rw [← hc]; exact Nat.le_mul_of_pos_right _ (Nat.two_pow_pos k)
        have HC := hid hc
        have HO := hid ho
        clear hc ho
        by_cases q4 : c % 2 = 0
        · have q5 : (c : Int) % 2 = 0 := by omega
          go_wp2_with fail
          go_round
          case rel => exact ⟨c / 2, k + 1, by rw [Nat.pow_succ', ← Nat.mul_assoc, show c / 2 * 2 = c from by omega]; exact HC.out, by rw [← HO.out, od_even c _ hc0 q4]; congr 1; omega, by go_num, by go_num⟩
          case measure => simp [intOf]; omega
        · have q5 : ¬ (c : Int) % 2 = 0 := by omega
          have h1 := HO.out
          rw [od_odd c _ (by omega)] at h1
          have HO1 := hid h1
          clear h1
          go_wp2_with fail
          (try simp only [Exit.inBlock, Exit.then]); refine bodyPost_ret (results_tmp4 rfl _ _ _) rfl ?_
          refine ⟨?_, Fr.refl _ _ |>.drewN _⟩
          rw [← HR.out, if_neg HQ.out, if_neg HQ2.out, HP.out, HM.out, ← HO1.out]
          exact ret_iiii rfl rfl rfl rfl


set_option maxRecDepth 100000 in
set_option maxHeartbeats 4000000 in
theorem value11_calls (w : World) (x : Nat) (hx : x < 2 ^ 64) : Calls Tryd.prog 61 #[.int .u64 x, .int .i64 11, .int .i64 52] w
    (fun e w' => e = .returned (.tuple #[.int .u64 (valR 11 52 x).1, .int .u64 (valR 11 52 x).2.1, .int .i64 (valR 11 52 x).2.2.1, .int .i64 (valR 11 52 x).2.2.2]) ∧ Fr (fun _ => False) w w') := by
  have HX := hid hx
  obtain ⟨r, hr⟩ : ∃ r, valR 11 52 x = r := ⟨_, rfl⟩
  rw [hr]
  unfold valR valF at hr
  obtain ⟨s, hs⟩ : ∃ s, x / 2 ^ (11 + 52) % 2 = s := ⟨_, rfl⟩
  obtain ⟨e, he⟩ : ∃ e, x / 2 ^ 52 % 2 ^ 11 = e := ⟨_, rfl⟩
  obtain ⟨m, hm⟩ : ∃ m, x % 2 ^ 52 = m := ⟨_, rfl⟩
  have s1 : s < 2 := by omega
  have e1 : e < 2048 := by rw [← he]; exact Nat.mod_lt _ (by decide)
  have m1 : m < 4503599627370496 := by rw [← hm]; exact Nat.mod_lt _ (by decide)
  have hs' : (x : Int) / 9223372036854775808 % 2 = s := by omega
  have he' : (x : Int) / 4503599627370496 % 2048 = e := by omega
  have hm' : (x : Int) % 4503599627370496 = m := by omega
  rw [hs, he, hm, bias11] at hr
  have HR := hid hr
  clear he hm hs hr
  go_enter Tryd.func61, Tryd.ntmps61
  go_wp2_with fail
  go_quiet (fail)
  by_cases q1 : e = 2047
  · have E1 : ((e : Int) == 2047) = true := beq_iff_eq.2 (by omega)
    have HQ := hid q1
    clear q1
    by_cases q2 : m = 0
    · have E2 : (m : Int) = 0 := by omega
      go_wp2_with fail
      (try simp only [Exit.inBlock, Exit.then]); refine bodyPost_ret (results_tmp4 rfl _ _ _) rfl ?_
      refine ⟨?_, (Fr.refl _ _).drewN _⟩
      rw [← HR.out, if_pos HQ.out, if_neg (by simp [q2])]
      exact ret_iiii hs' rfl rfl rfl
    · have E2 : ¬ (m : Int) = 0 := by omega
      go_wp2_with fail
      (try simp only [Exit.inBlock, Exit.then]); refine bodyPost_ret (results_tmp4 rfl _ _ _) rfl ?_
      refine ⟨?_, (Fr.refl _ _).drewN _⟩
      rw [← HR.out, if_pos HQ.out, if_pos q2]
      exact ret_iiii rfl rfl rfl rfl
  · have E1 : ((e : Int) == 2047) = false := beq_eq_false_iff_ne.2 (by omega)
    have HQ := hid q1
    clear q1
    by_cases q2 : e = 0
    · have E2 : ((e : Int) == 0) = true := beq_iff_eq.2 (by omega)
      have HQ2 := hid q2
      clear q2
      by_cases q3 : m = 0
      · have E3 : (m : Int) = 0 := by omega
        go_wp2_with fail
        (try simp only [Exit.inBlock, Exit.then]); refine bodyPost_ret (results_tmp4 rfl _ _ _) rfl ?_
        refine ⟨?_, (Fr.refl _ _).drewN _⟩
        rw [← HR.out, if_neg HQ.out, if_pos HQ2.out, if_pos q3]
        exact ret_iiii hs' rfl rfl rfl
      · have E3 : ¬ (m : Int) = 0 := by omega
        have hp0 : 1 - ((1023 : Nat) : Int) - ((52 : Nat) : Int) = (e : Int) - 1023 - 52 + 1 := by have := HQ2.out; omega
        have HP := hid hp0
        have HQ3 := hid q3
        clear hp0
        go_wp2_with fail
        go_loop [12, 13] (fun a p => ∃ (c k : Nat), c * 2 ^ k = m ∧ od c ((e : Int) - 1023 - 52 + 1 + k) = od m ((e : Int) - 1023 - 52 + 1) ∧ a = .int .u64 c ∧ p = .int .i64 ((e : Int) - 1023 - 52 + 1 + k)) (fun a _ => (intOf a).toNat)
        case atStart => exact ⟨m, 0, by simp, by simp, by go_num, by go_num⟩
        case round =>
          obtain ⟨c, k, hc, ho, rfl, rfl⟩ := hrel
          have hk : k < 53 := pow_le_of hc (by rintro rfl; simp at hc; omega) (by omega)
          have hc0 : c ≠ 0 := by rintro rfl; simp at hc; omega
          have hcl : c ≤ m := by rw [← hc]; exact Nat.le_mul_of_pos_right _ (Nat.two_pow_pos k)
          have HC := hid hc
          have HO := hid ho
          clear hc ho
          by_cases q4 : c % 2 = 0
          · have q5 : (c : Int) % 2 = 0 := by omega
            go_wp2_with fail
            go_round
            case rel => exact ⟨c / 2, k + 1, by rw [Nat.pow_succ', ← Nat.mul_assoc, show c / 2 * 2 = c from by omega]; exact HC.out, by rw [← HO.out, od_even c _ hc0 q4]; congr 1; omega, by go_num, by go_num⟩
            case measure => simp [intOf]; omega
          · have q5 : ¬ (c : Int) % 2 = 0 := by omega
            have h1 := HO.out
            rw [od_odd c _ (by omega)] at h1
            have HO1 := hid h1
            clear h1
            go_wp2_with fail
            (try simp only [Exit.inBlock, Exit.then]); refine bodyPost_ret (results_tmp4 rfl _ _ _) rfl ?_
            refine ⟨?_, Fr.refl _ _ |>.drewN _⟩
            rw [← HR.out, if_neg HQ.out, if_pos HQ2.out, if_neg HQ3.out, HP.out, ← HO1.out]
            exact ret_iiii rfl rfl rfl rfl
    · have E2 : ((e : Int) == 0) = false := beq_eq_false_iff_ne.2 (by omega)
      have HQ2 := hid q2
      clear q2
      obtain ⟨M, hM⟩ : ∃ M, m + 4503599627370496 = M := ⟨_, rfl⟩
      have hM' : (m : Int) + 4503599627370496 = M := by omega
      have M0 : 0 < M := by omega
      have M1 : M < 9007199254740992 := by omega
      have E3 : ¬ (M : Int) = 0 := by omega
      have hp0 : (e : Int) - ((1023 : Nat) : Int) - ((52 : Nat) : Int) = (e : Int) - 1023 - 52 := rfl
      have HP := hid hp0
      have HM := hid (show m + 2 ^ 52 = M from hM)
      clear hp0 hM
      go_wp2_with fail
      go_loop [12, 13] (fun a p => ∃ (c k : Nat), c * 2 ^ k = M ∧ od c ((e : Int) - 1023 - 52 + k) = od M ((e : Int) - 1023 - 52) ∧ a = .int .u64 c ∧ p = .int .i64 ((e : Int) - 1023 - 52 + k)) (fun a _ => (intOf a).toNat)
      case atStart => exact ⟨M, 0, by simp, by simp, by go_num, by go_num⟩
      case round =>
        obtain ⟨c, k, hc, ho, rfl, rfl⟩ := hrel
        have hk : k < 53 := pow_le_of hc (by rintro rfl; simp at hc; omega) (by omega)
        have hc0 : c ≠ 0 := by rintro rfl; simp at hc; omega
        have hcl : c ≤ M := by rw [← hc]; exact Nat.le_mul_of_pos_right _ (Nat.two_pow_pos k)
        have HC := hid hc
        have HO := hid ho
        clear hc ho
        by_cases q4 : c % 2 = 0
        · have q5 : (c : Int) % 2 = 0 := by omega
          go_wp2_with fail
          go_round
          case rel => exact ⟨c / 2, k + 1, by rw [Nat.pow_succ', ← Nat.mul_assoc, show c / 2 * 2 = c from by omega]; exact HC.out, by rw [← HO.out, od_even c _ hc0 q4]; congr 1; omega, by go_num, by go_num⟩
          case measure => simp [intOf]; omega
        · have q5 : ¬ (c : Int) % 2 = 0 := by omega
          have h1 := HO.out
          rw [od_odd c _ (by omega)] at h1
          have HO1 := hid h1
          clear h1
          go_wp2_with fail
          (try simp only [Exit.inBlock, Exit.then]); refine bodyPost_ret (results_tmp4 rfl _ _ _) rfl ?_
          refine ⟨?_, Fr.refl _ _ |>.drewN _⟩
          rw [← HR.out, if_neg HQ.out, if_neg HQ2.out, HP.out, HM.out, ← HO1.out]
          exact ret_iiii rfl rfl rfl rfl
end Go.Proofs.YtgdhchknegjpfaaDoor.FloatE
