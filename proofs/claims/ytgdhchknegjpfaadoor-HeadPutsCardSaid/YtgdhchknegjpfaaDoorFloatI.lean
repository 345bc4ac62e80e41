/- Layer float: the laws' walks. -/
import Derived.Test.YtgdhchknegjpfaaDoorFloatH
set_option linter.unusedVariables false
set_option linter.unusedSimpArgs false
namespace Go.Proofs.YtgdhchknegjpfaaDoor.FloatI
open Go.IntWalk Go.RowKit Go.Proofs.YtgdhchknegjpfaaDoor.Mem Go.Proofs.YtgdhchknegjpfaaDoor.Num Go.Proofs.YtgdhchknegjpfaaDoor.FloatP Go.Proofs.YtgdhchknegjpfaaDoor.FloatA Go.Proofs.YtgdhchknegjpfaaDoor.FloatB Go.Proofs.YtgdhchknegjpfaaDoor.FloatC Go.Proofs.YtgdhchknegjpfaaDoor.FloatD Go.Proofs.YtgdhchknegjpfaaDoor.FloatE Go.Proofs.YtgdhchknegjpfaaDoor.FloatF Go.Proofs.YtgdhchknegjpfaaDoor.FloatG Go.Proofs.YtgdhchknegjpfaaDoor.FloatH

theorem rwiden_calls (w : World) (x : Nat) (n : Int) (hx : x < 2 ^ 64) : Calls Tryd.prog 57 #[.int .u64 x, .int .i64 n] w
    (fun e w' => e = .returned (.tuple #[.int .u64 ((wideR x n).1 : Nat), .bool (wideR x n).2]) ∧ Fr (fun _ => False) w w') := by
  unfold wideR
  by_cases h2 : n = 2
  · subst h2
    rw [if_pos rfl]
    by_cases h : x < 65536
    · rw [if_pos h]; exact rwiden2_calls w x h
    · rw [if_neg h]; exact rwiden2_long w x h
  · rw [if_neg h2]
    by_cases h4 : n = 4
    · subst h4
      rw [if_pos rfl]
      by_cases h : x < 4294967296
      · rw [if_pos h]; exact rwiden4_calls w x h
      · rw [if_neg h]; exact rwiden4_long w x h
    · rw [if_neg h4]
      by_cases h8 : n = 8
      · subst h8
        rw [if_pos rfl]; exact rwiden8_calls w x hx
      · rw [if_neg h8]; exact rwiden_none w x n h2 h4 h8

theorem nanB_iff (x : Nat) : nanB x = true ↔ x / 2 ^ 52 % 2 ^ 11 = 2047 ∧ x % 2 ^ 52 ≠ 0 := by
  unfold nanB; simp

theorem rshortest_calls (w : World) (x : Nat) (hx : x < 2 ^ 64) : Calls Tryd.prog 44 #[.int .u64 x] w
    (fun e w' => e = .returned (.tuple #[.int .u64 ((shortestF x).1 : Nat), .int .i64 ((shortestF x).2 : Nat)]) ∧ Fr (fun _ => False) w w') := by
  have hs2 : x / 2 ^ 63 < 2 := by omega
  have HS2 := hid hs2
  obtain ⟨r, hr⟩ : ∃ r, shortestF x = r := ⟨_, rfl⟩
  rw [hr]
  have HR := hid hr
  have HX := hid hx
  clear hr hx hs2
  go_enter Tryd.func44, Tryd.ntmps44
  go_wp2_with fail
  refine (value11_calls _ x HX.out).mono ?_
  rintro e' w1 ⟨rfl, hf⟩
  have HF1 := hid hf
  clear hf
  by_cases q1 : x / 2 ^ 52 % 2 ^ 11 = 2047
  · by_cases q2 : x % 2 ^ 52 ≠ 0
    · rw [valR8_nan x q1 q2]
      have HN := hid ((nanB_iff x).2 ⟨q1, q2⟩)
      clear q1 q2
      go_wp2_with fail
      go_ret2
      refine ⟨?_, HF1.out⟩
      rw [← HR.out]
      unfold shortestF
      rw [if_pos HN.out]
      exact ret_ii rfl rfl
    · have q2' : x % 2 ^ 52 = 0 := by omega
      rw [valR8_inf x HX.out q1 q2']
      have hn : narrowF 5 10 x = (x / 2 ^ 63 * 2 ^ (5 + 10) + (2 ^ 5 - 1) * 2 ^ 10, true) := by unfold narrowF; rw [if_pos q1]
      have HNF := hid hn
      have HN := hid (show ¬ nanB x = true from fun h => q2 ((nanB_iff x).1 h).2)
      clear q1 q2 q2' hn
      rw [show 11 + 52 = 63 from rfl]
      obtain ⟨s, hs⟩ : ∃ s, x / 2 ^ 63 = s := ⟨_, rfl⟩
      rw [hs] at HS2 HNF ⊢
      clear hs
      go_wp2_with fail
      refine (bitsinf5_calls _ s 0 0 HS2.out).mono ?_
      rintro e' w2 ⟨rfl, hf⟩
      have HF2 := hid (HF1.out.then_ hf (fun _ _ h => h))
      clear hf
      go_wp2_with fail
      go_ret2
      refine ⟨?_, HF2.out⟩
      rw [← HR.out]
      unfold shortestF
      rw [if_neg HN.out, HNF.out, if_pos rfl]
      exact ret_ii (by omega) rfl
  · rw [valR8_fin x HX.out q1, show 11 + 52 = 63 from rfl]
    have HN := hid (show ¬ nanB x = true from fun h => q1 ((nanB_iff x).1 h).1)
    obtain ⟨s, hs⟩ : ∃ s, x / 2 ^ 63 = s := ⟨_, rfl⟩
    have n5 := hid (bits_narrow 5 10 s x hs.symm q1 (by decide) (by decide) (by decide) (by decide))
    have n8 := hid (bits_narrow 8 23 s x hs.symm q1 (by decide) (by decide) (by decide) (by decide))
    obtain ⟨v0, v10, v11⟩ := valF_bd 11 52 x (by decide) (by decide) (by decide)
    obtain ⟨v, hv⟩ : ∃ v, valF 11 52 x = v := ⟨_, rfl⟩
    rw [hv] at v0 v10 v11 n5 n8 ⊢
    rw [hs] at HS2 ⊢
    clear hs hv q1
    obtain ⟨vm, vp⟩ := v
    simp only at v0 v10 v11 n5 n8
    have V0 := hid v0
    clear v0
    go_wp2_with fail
    refine (bits5_calls _ s vm vp HS2.out V0.out ⟨v10, v11⟩).mono ?_
    rintro e' w2 ⟨rfl, hf⟩
    have HF2 := hid (HF1.out.then_ hf (fun _ _ h => h))
    clear hf
    obtain ⟨b5, hb5⟩ : ∃ b, bitsF 5 10 s vm vp = b := ⟨_, rfl⟩
    rw [hb5] at n5 ⊢
    clear hb5
    obtain ⟨y, ok⟩ := b5
    cases ok
    · go_wp2_with fail
      refine (bits8_calls _ s vm vp HS2.out V0.out ⟨v10, v11⟩).mono ?_
      rintro e' w3 ⟨rfl, hf⟩
      have HF3 := hid (HF2.out.then_ hf (fun _ _ h => h))
      clear hf
      obtain ⟨b8, hb8⟩ : ∃ b, bitsF 8 23 s vm vp = b := ⟨_, rfl⟩
      rw [hb8] at n8 ⊢
      clear hb8
      obtain ⟨y8, ok8⟩ := b8
      cases ok8
      · go_wp2_with fail
        go_ret2
        refine ⟨?_, HF3.out⟩
        rw [← HR.out]
        unfold shortestF
        rw [if_neg HN.out, if_neg (by rw [← n5.out.1]; decide), if_neg (by rw [← n8.out.1]; decide)]
        exact ret_ii rfl rfl
      · go_wp2_with fail
        go_ret2
        refine ⟨?_, HF3.out⟩
        rw [← HR.out]
        unfold shortestF
        rw [if_neg HN.out, if_neg (by rw [← n5.out.1]; decide), if_pos n8.out.1.symm]
        exact ret_ii (congrArg Nat.cast (n8.out.2 n8.out.1.symm)) rfl
    · go_wp2_with fail
      go_ret2
      refine ⟨?_, HF2.out⟩
      rw [← HR.out]
      unfold shortestF
      rw [if_neg HN.out, if_pos n5.out.1.symm]
      exact ret_ii (congrArg Nat.cast (n5.out.2 n5.out.1.symm)) rfl

theorem short_calls (w : World) (x : Nat) (n : Int) (hx : x < 2 ^ 64) (hd : Dbl w) : Calls Tryd.prog 68 #[.int .u64 x, .int .i64 n] w
    (fun e w' => e = .returned (.bool (shortR x n)) ∧ Fr (fun _ => False) w w') := by
  obtain ⟨r, hr⟩ : ∃ r, shortR x n = r := ⟨_, rfl⟩
  rw [hr]
  unfold shortR at hr
  have hlt := hid (wideR_lt x n hx)
  have HR := hid hr
  have HX := hid hx
  have HD := hid hd
  clear hr hx hd
  go_enter Tryd.func68, Tryd.ntmps68
  go_wp2_with fail
  refine (widen_calls _ x n HX.out HD.out).mono ?_
  rintro e' w1 ⟨rfl, hf⟩
  have HF1 := hid hf
  have HD1 := hid (HD.out.fr0 hf)
  clear hf
  obtain ⟨v, hv⟩ : ∃ v, wideR x n = v := ⟨_, rfl⟩
  rw [hv] at HR hlt ⊢
  clear hv
  obtain ⟨y, ok⟩ := v
  cases ok
  · go_wp2_with fail
    go_ret
    refine ⟨?_, HF1.out⟩
    rw [← HR.out]
    simp
  · simp only at hlt
    go_wp2_with fail
    refine (shortest_calls _ y _ rfl hlt.out HD1.out).mono ?_
    rintro e' w2 ⟨rfl, hf⟩
    have HF2 := hid (HF1.out.then_ hf (fun _ _ h => h))
    clear hf
    obtain ⟨z, hz⟩ : ∃ v, shortestF y = v := ⟨_, rfl⟩
    have HR2 : Hid ((decide (z.1 = x) && decide ((z.2 : Int) = n)) = r) := hid (by rw [← HR.out, hz]; rfl)
    rw [hz]
    clear hz HR
    obtain ⟨z1, z2⟩ := z
    simp only at HR2 ⊢
    by_cases q1 : z1 = x
    · subst q1
      by_cases q2 : (z2 : Int) = n
      · go_wp2_with fail
        go_ret
        refine ⟨?_, HF2.out⟩
        rw [← HR2.out]
        simp [q2]
      · go_wp2_with fail
        go_ret
        refine ⟨?_, HF2.out⟩
        rw [← HR2.out]
        simp [q2]
    · have q1' : ((z1 : Int) == (x : Int)) = false := beq_eq_false_iff_ne.2 (by omega)
      have HQ := hid q1
      clear q1
      go_wp2_with fail
      go_ret
      refine ⟨?_, HF2.out⟩
      rw [← HR2.out]
      simp [HQ.out]
theorem rshort_calls (w : World) (x : Nat) (n : Int) (hx : x < 2 ^ 64) : Calls Tryd.prog 40 #[.int .u64 x, .int .i64 n] w
    (fun e w' => e = .returned (.bool (shortR x n)) ∧ Fr (fun _ => False) w w') := by
  obtain ⟨r, hr⟩ : ∃ r, shortR x n = r := ⟨_, rfl⟩
  rw [hr]
  unfold shortR at hr
  have hlt := hid (wideR_lt x n hx)
  have HR := hid hr
  have HX := hid hx
  clear hr hx
  go_enter Tryd.func40, Tryd.ntmps40
  go_wp2_with fail
  refine (rwiden_calls _ x n HX.out).mono ?_
  rintro e' w1 ⟨rfl, hf⟩
  have HF1 := hid hf
  clear hf
  obtain ⟨v, hv⟩ : ∃ v, wideR x n = v := ⟨_, rfl⟩
  rw [hv] at HR hlt ⊢
  clear hv
  obtain ⟨y, ok⟩ := v
  cases ok
  · go_wp2_with fail
    go_ret
    refine ⟨?_, HF1.out⟩
    rw [← HR.out]
    simp
  · simp only at hlt
    go_wp2_with fail
    refine (rshortest_calls _ y hlt.out).mono ?_
    rintro e' w2 ⟨rfl, hf⟩
    have HF2 := hid (HF1.out.then_ hf (fun _ _ h => h))
    clear hf
    obtain ⟨z, hz⟩ : ∃ v, shortestF y = v := ⟨_, rfl⟩
    have HR2 : Hid ((decide (z.1 = x) && decide ((z.2 : Int) = n)) = r) := hid (by rw [← HR.out, hz]; rfl)
    rw [hz]
    clear hz HR
    obtain ⟨z1, z2⟩ := z
    simp only at HR2 ⊢
    by_cases q1 : z1 = x
    · subst q1
      by_cases q2 : (z2 : Int) = n
      · go_wp2_with fail
        go_ret
        refine ⟨?_, HF2.out⟩
        rw [← HR2.out]
        simp [q2]
      · go_wp2_with fail
        go_ret
        refine ⟨?_, HF2.out⟩
        rw [← HR2.out]
        simp [q2]
    · have q1' : ((z1 : Int) == (x : Int)) = false := beq_eq_false_iff_ne.2 (by omega)
      have HQ := hid q1
      clear q1
      go_wp2_with fail
      go_ret
      refine ⟨?_, HF2.out⟩
      rw [← HR2.out]
      simp [HQ.out]
end Go.Proofs.YtgdhchknegjpfaaDoor.FloatI
