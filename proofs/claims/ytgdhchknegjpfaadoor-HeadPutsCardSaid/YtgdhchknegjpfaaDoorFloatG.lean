/- Layer float: the shortest form, widened by any width; the document's. -/
import Derived.Test.YtgdhchknegjpfaaDoorFloatF
set_option linter.unusedVariables false
set_option linter.unusedSimpArgs false
namespace Go.Proofs.YtgdhchknegjpfaaDoor.FloatG
open Go.IntWalk Go.RowKit Go.Proofs.YtgdhchknegjpfaaDoor.Mem Go.Proofs.YtgdhchknegjpfaaDoor.Num Go.Proofs.YtgdhchknegjpfaaDoor.FloatP Go.Proofs.YtgdhchknegjpfaaDoor.FloatA Go.Proofs.YtgdhchknegjpfaaDoor.FloatB Go.Proofs.YtgdhchknegjpfaaDoor.FloatC Go.Proofs.YtgdhchknegjpfaaDoor.FloatD Go.Proofs.YtgdhchknegjpfaaDoor.FloatE Go.Proofs.YtgdhchknegjpfaaDoor.FloatF

theorem valF_bd (eb fb x : Nat) (hf : fb ≤ 52) (hb : bias eb ≤ 1023) (he : 2 ^ eb ≤ 2048) : (valF eb fb x).1 < 9007199254740992 ∧ (-3000 ≤ (valF eb fb x).2 ∧ (valF eb fb x).2 ≤ 3000) := by
  have hm : x % 2 ^ fb < 2 ^ fb := Nat.mod_lt _ (Nat.two_pow_pos _)
  have hfp : 2 ^ fb ≤ 2 ^ 52 := Nat.pow_le_pow_right (by decide) hf
  have hel : x / 2 ^ fb % 2 ^ eb < 2 ^ eb := Nat.mod_lt _ (Nat.two_pow_pos _)
  have key : ∀ (M : Nat) (P : Int), M ≠ 0 → M < 2 ^ 53 → -2000 ≤ P → P ≤ 2100 → (od M P).1 < 9007199254740992 ∧ (-3000 ≤ (od M P).2 ∧ (od M P).2 ≤ 3000) := by
    intro M P h0 h1 h2 h3
    obtain ⟨t, a, b, c⟩ := od_spec M M P (Nat.le_refl _) h0
    have ht := pow_le_of a (by omega) h1
    have : (od M P).1 ≤ M := by
      conv => rhs; rw [← a]
      exact Nat.le_mul_of_pos_right _ (Nat.two_pow_pos t)
    exact ⟨by omega, by omega, by omega⟩
  unfold valF
  generalize x / 2 ^ fb % 2 ^ eb = e at *
  generalize x % 2 ^ fb = m at *
  by_cases h0 : e = 0
  · rw [if_pos h0]
    by_cases hm0 : m = 0
    · rw [if_pos hm0]; decide
    · rw [if_neg hm0]
      exact key m _ hm0 (by omega) (by omega) (by omega)
  · rw [if_neg h0]
    exact key _ _ (by omega) (by omega) (by omega) (by omega)

/-- The double of any bits by any width. -/
def wideR (x : Nat) (n : Int) : Nat × Bool :=
  if n = 2 then (if x < 65536 then (widenF 5 10 false x, true) else (0, false))
  else if n = 4 then (if x < 4294967296 then (widenF 8 23 false x, true) else (0, false))
  else if n = 8 then (widenF 11 52 true x, true) else (0, false)
def shortR (x : Nat) (n : Int) : Bool := (wideR x n).2 && (decide ((shortestF (wideR x n).1).1 = x) && decide (((shortestF (wideR x n).1).2 : Int) = n))

theorem join_lt (s P m : Nat) (hs : s < 2) (hP : P < 2048) (hm : m < 2 ^ 52) : s * 2 ^ 63 + P * 2 ^ 52 + m < 2 ^ 64 := by omega
theorem sub_lt_ (a : Nat) (h1 : 2 ^ 52 ≤ a) (h2 : a < 2 ^ 53) : a - 2 ^ 52 < 2 ^ 52 := by omega
theorem widenF_lt (eb fb x : Nat) (w8 : Bool) (h8 : w8 = true → eb = 11 ∧ fb = 52) (hf : fb ≤ 52) (hs : x / 2 ^ (eb + fb) < 2) (hb : bias eb ≤ 1023) (he : 2 ^ eb ≤ bias eb + 1025) (hbl : w8 = false → bias eb + fb ≤ 1000) : widenF eb fb w8 x < 2 ^ 64 := by
  have hm : x % 2 ^ fb < 2 ^ fb := Nat.mod_lt _ (Nat.two_pow_pos _)
  have hel : x / 2 ^ fb % 2 ^ eb < 2 ^ eb := Nat.mod_lt _ (Nat.two_pow_pos _)
  have hmu : x % 2 ^ fb * 2 ^ (52 - fb) < 2 ^ 52 := by
    have := Nat.mul_lt_mul_of_pos_right hm (Nat.two_pow_pos (52 - fb))
    rw [← Nat.pow_add, show fb + (52 - fb) = 52 from by omega] at this
    exact this
  unfold widenF
  generalize x / 2 ^ fb % 2 ^ eb = e at *
  generalize x % 2 ^ fb = m at *
  generalize x / 2 ^ (eb + fb) = s at *
  by_cases h1 : e = 2 ^ eb - 1
  · rw [if_pos h1]
    by_cases h2 : m ≠ 0
    · rw [if_pos h2]; decide
    · rw [if_neg h2]
      have := join_lt s 2047 0 hs (by decide) (by decide)
      rw [Nat.add_zero] at this
      exact this
  · rw [if_neg h1]
    by_cases h0 : e = 0
    · rw [if_pos h0]
      by_cases h3 : w8 = true ∨ m = 0
      · rw [if_pos h3]
        have := join_lt s 0 _ hs (by decide) hmu
        rw [Nat.zero_mul, Nat.add_zero] at this
        exact this
      · rw [if_neg h3]
        have hm0 : m ≠ 0 := fun h => h3 (Or.inr h)
        have hbl' := hbl (by simpa using fun h => h3 (Or.inl h))
        have hl := lg_bound m fb hm0 hm
        have hu := up_ge m fb (fb - lg m) hm0 (by omega) hf
        rw [show 52 - fb + (fb - lg m) = 52 - lg m from by omega] at hu
        exact join_lt s (1024 - bias eb + lg m - fb) (m * 2 ^ (52 - lg m) - 2 ^ 52) hs (by clear hmu hu hm; omega) (sub_lt_ _ hu.1 hu.2)
    · rw [if_neg h0]
      exact join_lt s (e + 1023 - bias eb) (m * 2 ^ (52 - fb)) hs (by clear hmu hm; omega) hmu
theorem wideR_lt (x : Nat) (n : Int) (hx : x < 2 ^ 64) : (wideR x n).1 < 2 ^ 64 := by
  unfold wideR
  by_cases h2 : n = 2
  · rw [if_pos h2]
    by_cases h : x < 65536
    · rw [if_pos h]; exact widenF_lt 5 10 x false (by simp) (by decide) (by omega) (by decide) (by decide) (fun _ => by decide)
    · rw [if_neg h]; decide
  · rw [if_neg h2]
    by_cases h4 : n = 4
    · rw [if_pos h4]
      by_cases h : x < 4294967296
      · rw [if_pos h]; exact widenF_lt 8 23 x false (by simp) (by decide) (by omega) (by decide) (by decide) (fun _ => by decide)
      · rw [if_neg h]; decide
    · rw [if_neg h4]
      by_cases h8 : n = 8
      · rw [if_pos h8]; exact widenF_lt 11 52 x true (fun _ => ⟨rfl, rfl⟩) (by decide) (by omega) (by decide) (by decide) (by simp)
      · rw [if_neg h8]; decide

theorem widen_calls (w : World) (x : Nat) (n : Int) (hx : x < 2 ^ 64) (hd : Dbl w) : Calls Tryd.prog 81 #[.int .u64 x, .int .i64 n] w
    (fun e w' => e = .returned (.tuple #[.int .u64 ((wideR x n).1 : Nat), .bool (wideR x n).2]) ∧ Fr (fun _ => False) w w') := by
  unfold wideR
  by_cases h2 : n = 2
  · subst h2
    rw [if_pos rfl]
    by_cases h : x < 65536
    · rw [if_pos h]; exact widen2_calls w x h hd
    · rw [if_neg h]; exact widen2_long w x h hx hd
  · rw [if_neg h2]
    by_cases h4 : n = 4
    · subst h4
      rw [if_pos rfl]
      by_cases h : x < 4294967296
      · rw [if_pos h]; exact widen4_calls w x h hd
      · rw [if_neg h]; exact widen4_long w x h hx hd
    · rw [if_neg h4]
      by_cases h8 : n = 8
      · subst h8
        rw [if_pos rfl]; exact widen8_calls w x hx hd
      · rw [if_neg h8]; exact widen_none w x n h2 h4 h8 hd

theorem shortest_calls (w : World) (x : Nat) (xi : Int) (hxi : (x : Int) = xi) (hx : x < 2 ^ 64) (hd : Dbl w) : Calls Tryd.prog 42 #[.int .u64 xi] w
    (fun e w' => e = .returned (.tuple #[.int .u64 ((shortestF x).1 : Nat), .int .i64 ((shortestF x).2 : Nat)]) ∧ Fr (fun _ => False) w w') := by
  subst hxi
  obtain ⟨r, hr⟩ : ∃ r, shortestF x = r := ⟨_, rfl⟩
  rw [hr]
  unfold shortestF at hr
  have HR := hid hr
  have HX := hid hx
  have HD := hid hd
  clear hr hx hd
  go_enter Tryd.func42, Tryd.ntmps42
  go_wp2_with fail
  refine (nan_calls _ x HX.out HD.out).mono ?_
  rintro e' w1 ⟨rfl, hf⟩
  have HF1 := hid hf
  have HD1 := hid (HD.out.fr0 hf)
  clear hf
  obtain ⟨b, hb⟩ : ∃ b, nanB x = b := ⟨_, rfl⟩
  rw [hb]
  have HB := hid hb
  clear hb
  cases b
  · have hb0 := hid (Blk.new w1 3 #[.int .i64 2, .int .i64 4])
    have hd0 := hid (HD1.out.fr0 ((Fr.refl _ _).alloc (.cells #[.int .i64 2, .int .i64 4] 3)))
    obtain ⟨g, hg⟩ : ∃ g, w1.heap.size = g := ⟨_, rfl⟩
    have HG := hid hg
    go_wp2_with fail
    rw [HG.out] at hb0
    clear hg
    go_loopw [12] (fun i w' => ∃ k : Nat, k ≤ 2 ∧ i = .int .i64 k ∧ Dbl w' ∧ Blk w' g 3 #[.int .i64 2, .int .i64 4] ∧ Fr (fun _ => False) w w' ∧ (1 ≤ k → (narrowF 5 10 x).2 = false) ∧ (2 ≤ k → (narrowF 8 23 x).2 = false)) (fun i _ => 2 - (intOf i).toNat)
    case atStart => exact ⟨0, by omega, rfl, hd0.out, hb0.out, HF1.out.alloc _, by omega, by omega⟩
    case round =>
      obtain ⟨k, hk, rfl, hd, hb, hf, h1, h2⟩ := hrel
      have HD2 := hid hd
      have HB2 := hid hb
      have HF2 := hid hf
      have H1 := hid h1
      have H2 := hid h2
      obtain ⟨b0, b1⟩ := blk2 hb
      clear hd hb hf h1 h2
      obtain rfl | rfl | rfl : k = 0 ∨ k = 1 ∨ k = 2 := by omega
      · go_wp2_with fail
        refine (narrow2_calls _ x HX.out HD2.out).mono ?_
        rintro e' w3 ⟨rfl, hf⟩
        have HF3 := hid (HF2.out.then_ hf (fun _ _ h => h))
        have HD3 := hid (HD2.out.fr0 hf)
        have HB3 := hid (HB2.out.fr hf id)
        clear hf b0 b1
        obtain ⟨q, hq⟩ : ∃ q, narrowF 5 10 x = q := ⟨_, rfl⟩
        have HQ := hid hq
        rw [hq]
        clear hq
        obtain ⟨q1, q2⟩ := q
        cases q2
        · go_wp2_with fail
          go_roundw
          case rel => exact ⟨1, by omega, by go_num, HD3.out, HB3.out, HF3.out, fun _ => by rw [HQ.out], by omega⟩
          case measure => simp [intOf]
        · go_wp2_with fail
          go_ret2
          refine ⟨?_, HF3.out⟩
          rw [← HR.out, if_neg (by rw [HB.out]; decide), HQ.out, if_pos rfl]
          exact ret_ii rfl rfl
      · go_wp2_with fail
        refine (narrow4_calls _ x HX.out HD2.out).mono ?_
        rintro e' w3 ⟨rfl, hf⟩
        have HF3 := hid (HF2.out.then_ hf (fun _ _ h => h))
        have HD3 := hid (HD2.out.fr0 hf)
        have HB3 := hid (HB2.out.fr hf id)
        clear hf b0 b1
        obtain ⟨q, hq⟩ : ∃ q, narrowF 8 23 x = q := ⟨_, rfl⟩
        have HQ := hid hq
        rw [hq]
        clear hq
        obtain ⟨q1, q2⟩ := q
        cases q2
        · go_wp2_with fail
          go_roundw
          case rel => exact ⟨2, by omega, by go_num, HD3.out, HB3.out, HF3.out, fun _ => H1.out (by omega), fun _ => by rw [HQ.out]⟩
          case measure => simp [intOf]
        · go_wp2_with fail
          go_ret2
          refine ⟨?_, HF3.out⟩
          rw [← HR.out, if_neg (by rw [HB.out]; decide), if_neg (by rw [H1.out (by omega)]; decide), HQ.out, if_pos rfl]
          exact ret_ii rfl rfl
      · go_wp2_with fail
        go_ret2
        refine ⟨?_, HF2.out⟩
        rw [← HR.out, if_neg (by rw [HB.out]; decide), if_neg (by rw [H1.out (by omega)]; decide), if_neg (by rw [H2.out (by omega)]; decide)]
        exact ret_ii rfl rfl
  · go_wp2_with fail
    go_ret2
    refine ⟨?_, HF1.out⟩
    rw [← HR.out, if_pos HB.out]
    exact ret_ii rfl rfl
end Go.Proofs.YtgdhchknegjpfaaDoor.FloatG
