/- Walks of layer float: narrower forms (printed by gen/float_narrow.py). -/
import Derived.Test.YtgdhchknegjpfaaDoorFloatB
set_option linter.unusedVariables false
set_option linter.unusedSimpArgs false
namespace Go.Proofs.YtgdhchknegjpfaaDoor.FloatC
open Go.IntWalk Go.RowKit Go.Proofs.YtgdhchknegjpfaaDoor.Mem Go.Proofs.YtgdhchknegjpfaaDoor.Num Go.Proofs.YtgdhchknegjpfaaDoor.FloatP Go.Proofs.YtgdhchknegjpfaaDoor.FloatA Go.Proofs.YtgdhchknegjpfaaDoor.FloatB

theorem or_low64 (i y k : Nat) (x : Int) (z : Nat) (hy : y < 2 ^ i) (hx : x = ((2 ^ i * k : Nat) : Int) ∧ 2 ^ i * k < 2 ^ 64 ∧ i ≤ 63) (hz : z = 2 ^ i * k + y) : Go.bits .or .u64 (y : Int) x = z := by
  obtain ⟨rfl, h1, h2⟩ := hx
  have : 2 ^ i ≤ 2 ^ 63 := Nat.pow_le_pow_right (by decide) h2
  rw [(bits_u64 y (2 ^ i * k) (by omega) h1).2, hz, Nat.or_comm, Nat.two_pow_add_eq_or_of_lt hy]
theorem beq_dec (k : Nat) : ((k : Int) == 0) = decide (k = 0) := by
  by_cases h : k = 0 <;> simp [h]
theorem low_lt (a b c M l : Nat) (hM : M < 9007199254740992) (hl : a ≤ l) (hab : 53 ≤ a + b) (hc : b ≤ c) : M / 2 ^ l < 2 ^ c := by
  rw [Nat.div_lt_iff_lt_mul (Nat.two_pow_pos _), ← Nat.pow_add]
  have : 2 ^ 53 ≤ 2 ^ (c + l) := Nat.pow_le_pow_right (by decide) (by omega)
  omega
theorem fin_low (sh s M : Nat) (S : Int) (l : Nat) (hs : s < 2) (hM : M / 2 ^ l < 2 ^ sh) (hsh : sh ≤ 40) (hS : S = ((2 ^ sh * s : Nat) : Int)) {z : Nat} (hz : s * 2 ^ sh + M / 2 ^ l = z) : Go.bits .or .u64 (Go.bits .or .u64 S 0) ((M : Int) / 2 ^ l) = z := by
  subst hS
  have h40 : 2 ^ sh ≤ 2 ^ 40 := Nat.pow_le_pow_right (by decide) hsh
  have hb : 2 ^ sh * s < 2 ^ 64 := by
    have : 2 ^ sh * s ≤ 2 ^ sh * 1 := Nat.mul_le_mul_left _ (by omega)
    omega
  have h1 := (bits_u64 (2 ^ sh * s) 0 hb (by decide)).2
  rw [Nat.or_zero] at h1
  have h2 : ((M : Int) / 2 ^ l) = ((M / 2 ^ l : Nat) : Int) := by simp
  rw [h2, show (0 : Int) = ((0 : Nat) : Int) from rfl, h1, (bits_u64 _ _ hb (by omega)).2, ← Nat.two_pow_add_eq_or_of_lt hM, ← hz, Nat.mul_comm]
theorem and_low (M l : Nat) (hl : l ≤ 53) (hM : M < 9007199254740992) : (Go.bits .and .u64 (M : Int) (IntKind.u64.wrap (IntKind.u64.wrap (2 ^ l) - 1)) == 0) = decide (M % 2 ^ l = 0) := by
  have h1 : (2 : Int) ^ l = ((2 ^ l : Nat) : Int) := by simp
  have h53 : 2 ^ l ≤ 2 ^ 53 := Nat.pow_le_pow_right (by decide) hl
  have h0 := Nat.two_pow_pos l
  have h2 : IntKind.u64.wrap (IntKind.u64.wrap (2 ^ l) - 1) = 2 ^ l - 1 := by rw [wrap_u64, wrap_u64, h1]; omega
  rw [h2, mask_nat l _ M _ (by omega) (by omega) rfl rfl]
  exact beq_dec _

set_option maxRecDepth 100000 in
set_option maxHeartbeats 4000000 in
theorem narrow2_calls (w : World) (x : Nat) (hx : x < 2 ^ 64) (hd : Dbl w) : Calls Tryd.prog 60 #[.int .u64 x, .int .i64 2] w
    (fun e w' => e = .returned (.tuple #[.int .u64 ((narrowF 5 10 x).1 : Nat), .bool (narrowF 5 10 x).2]) ∧ Fr (fun _ => False) w w') := by
  have HD := hid hd
  have HX := hid hx
  obtain ⟨r, hr⟩ : ∃ r, narrowF 5 10 x = r := ⟨_, rfl⟩
  rw [hr]
  unfold narrowF at hr
  obtain ⟨s, hs⟩ : ∃ s, x / 2 ^ 63 = s := ⟨_, rfl⟩
  obtain ⟨e, he⟩ : ∃ e, x / 2 ^ 52 % 2 ^ 11 = e := ⟨_, rfl⟩
  obtain ⟨m, hm⟩ : ∃ m, x % 2 ^ 52 = m := ⟨_, rfl⟩
  have s1 : s < 2 := by omega
  have e1 : e < 2048 := by rw [← he]; exact Nat.mod_lt _ (by decide)
  have m1 : m < 4503599627370496 := by rw [← hm]; exact Nat.mod_lt _ (by decide)
  rw [hs, he, hm, bias5] at hr
  have HR := hid hr
  have HS := hid hs
  have HE := hid he
  have HM := hid hm
  clear hd hx he hm hs hr
  go_enter Tryd.func60, Tryd.ntmps60
  go_wp2_with fail
  refine (forms2_calls _).mono ?_
  rintro e' w1 ⟨rfl, hf⟩
  have HF1 := hid hf
  have HD1 := hid (HD.out.fr0 hf)
  clear hf
  have hdn := hid (HD1.out.fr0 ((Fr.refl _ _).alloc (.cells #[.int .i64 5, .int .i64 10] 103)))
  have hbn := hid (Blk.new w1 103 #[.int .i64 5, .int .i64 10])
  have c0 := hdn.out.c0
  have c1 := hdn.out.c1
  go_wp2_with fail
  refine (split11_calls _ x HX.out s e m HS.out HE.out HM.out).mono ?_
  rintro e' w2 ⟨rfl, hf⟩
  have HF2 := hid (HF1.out.then_ (((Fr.refl _ _).alloc _).then_ hf (fun _ _ h => h)) (fun _ _ h => h))
  have HD2 := hid (hdn.out.fr0 hf)
  have HB2 := hid (hbn.out.fr hf id)
  clear hf hdn hbn c0 c1
  obtain ⟨g, hg⟩ : ∃ g, w1.heap.size = g := ⟨_, rfl⟩
  rw [hg] at HB2 ⊢
  clear hg
  have c0 := HD2.out.c0
  have c1 := HD2.out.c1
  obtain ⟨b0, b1⟩ := blk2 HB2.out
  go_wp2_with fail
  have k0 : IntKind.i64.wrap (e : Int) = e := i64_in _ (by omega)
  have k1 : IntKind.i64.wrap ((e : Int) - 1023) = e - 1023 := i64_in _ (by omega)
  have k2 : IntKind.i64.wrap ((e : Int) - 1023 + 15) = e - 1023 + 15 := i64_in _ (by omega)
  go_region_held3 (fun w' => w'.cell? ⟨1, 0, none⟩ = some (.int .i64 11) ∧ w'.cell? ⟨1, 1, none⟩ = some (.int .i64 52) ∧ w'.cell? ⟨g, 0, none⟩ = some (.int .i64 5) ∧ w'.cell? ⟨g, 1, none⟩ = some (.int .i64 10)) (first | exact ⟨c0, c1, b0, b1⟩ | exact ⟨d0, d1, a0, a1⟩ | exact ⟨f0, f1, h0, h1⟩)
    (first
      | (go_at_call 72; refine (bias11_calls _).mono ?_; rintro e3 w3 ⟨rfl, hf⟩; have HF3 := hid ((Fr.refl _ w2).drew.then_ hf (fun _ _ h => h)); have d0 := (HD2.out.fr0 HF3.out).c0; have d1 := (HD2.out.fr0 HF3.out).c1; obtain ⟨a0, a1⟩ := blk2 (HB2.out.fr HF3.out id); clear hf)
      | (go_at_call 72; refine (bias5_calls _).mono ?_; rintro e4 w4 ⟨rfl, hf⟩; have HF4 := hid (HF3.out.then_ hf (fun _ _ h => h)); have f0 := (HD2.out.fr0 HF4.out).c0; have f1 := (HD2.out.fr0 HF4.out).c1; obtain ⟨h0, h1⟩ := blk2 (HB2.out.fr HF4.out id); clear hf))
  have HF4' := hid (HF2.out.then_ HF4.out (fun _ _ h => h))
  have HD4 := hid (HD2.out.fr0 HF4.out)
  have HB4 := hid (HB2.out.fr HF4.out id)
  clear k0 k1 k2 HF3 HF4 HD2 HB2 HF2 HF1 HD1 c0 c1 b0 b1 d0 d1 a0 a1
  try (rename_i hHeld; clear hHeld)
  go_wp2_with fail
  refine (top11_calls _).mono ?_
  rintro e' w5 ⟨rfl, hf⟩
  have HF5 := hid (HF4'.out.then_ hf (fun _ _ h => h))
  have HD5 := hid (HD4.out.fr0 hf)
  have HB5 := hid (HB4.out.fr hf id)
  clear hf HD4 HB4 HF4' f0 f1 h0 h1
  have c0 := HD5.out.c0
  have c1 := HD5.out.c1
  obtain ⟨b0, b1⟩ := blk2 HB5.out
  by_cases q1 : e = 2047
  · have E1 : ((e : Int) == 2047) = true := beq_iff_eq.2 (by omega)
    have HQ := hid q1
    clear q1
    go_wp2_with fail
    have kk : Go.bits .or .u64 ((s : Int) * 32768) (IntKind.u64.wrap 31744) = s * 32768 + 31744 := by
      rw [show IntKind.u64.wrap 31744 = 31744 from by decide]
      exact or_join64 15 _ _ (by omega) (by omega) (by omega) (by omega) (by omega) (by omega)
    go_region_held3 (fun w' => w'.cell? ⟨g, 0, none⟩ = some (.int .i64 5) ∧ w'.cell? ⟨g, 1, none⟩ = some (.int .i64 10)) (first | exact ⟨b0, b1⟩ | exact ⟨h0, h1⟩)
      ((go_at_call 70; refine (top5_calls _).mono ?_; rintro e3 w6 ⟨rfl, hf⟩; have HF6 := hid ((Fr.refl _ w5).drew.then_ hf (fun _ _ h => h)); obtain ⟨h0, h1⟩ := blk2 (HB5.out.fr HF6.out id); clear hf))
    go_wp2_with fail
    go_ret2
    refine ⟨?_, HF5.out.then_ HF6.out (fun _ _ h => h)⟩
    rw [← HR.out, if_pos HQ.out]
    exact ret_ib (by omega) rfl
  · have E1 : ((e : Int) == 2047) = false := beq_eq_false_iff_ne.2 (by omega)
    have HQ := hid q1
    clear q1
    by_cases q2 : e = 0
    · have E2 : ((e : Int) == 0) = true := beq_iff_eq.2 (by omega)
      have HQ2 := hid q2
      clear q2
      go_wp2_with fail
      go_ret2
      refine ⟨?_, HF5.out⟩
      rw [← HR.out, if_neg HQ.out, if_pos HQ2.out]
      refine ret_ib (by omega) ?_
      by_cases hm0 : m = 0 <;> simp [hm0]
    · have E2 : ((e : Int) == 0) = false := beq_eq_false_iff_ne.2 (by omega)
      have HQ2 := hid q2
      clear q2
      go_wp2_with fail
      refine (top5_calls _).mono ?_
      rintro e' w6 ⟨rfl, hf⟩
      have HF6 := hid (HF5.out.then_ hf (fun _ _ h => h))
      have HD6 := hid (HD5.out.fr0 hf)
      have HB6 := hid (HB5.out.fr hf id)
      clear hf c0 c1 b0 b1 HD5 HB5 HF5
      have c0 := HD6.out.c0
      have c1 := HD6.out.c1
      obtain ⟨b0, b1⟩ := blk2 HB6.out
      by_cases q3 : 1023 + (2 ^ 5 - 1) ≤ e + 15
      · have E3 : decide ((e : Int) - 1023 + 15 ≥ 31) = true := decide_eq_true (by omega)
        have HQ3 := hid q3
        clear q3
        go_wp2_with fail
        go_ret2
        refine ⟨?_, HF6.out⟩
        rw [← HR.out, if_neg HQ.out, if_neg HQ2.out, if_pos HQ3.out]
        exact ret_ib (by omega) rfl
      · have E3 : ¬ ((e : Int) - 1023 + 15 ≥ 31) := by omega
        have HQ3 := hid q3
        clear q3
        by_cases q4 : e + 15 ≤ 1023
        · have E4 : (e : Int) - 1023 + 15 ≤ 0 := by omega
          have HQ4 := hid q4
          obtain ⟨l, hl⟩ : ∃ l, 52 - 10 + 1 + 1023 - (e + 15) = l := ⟨_, rfl⟩
          have hlv : (42 : Int) + (1 - ((e : Int) - 1023 + 15)) = l := by omega
          have HL := hid hl
          clear q4 hl
          by_cases q5 : 53 < l
          · have E5 : (l : Int) > 53 := by omega
            go_wp2_with fail
            go_ret2
            refine ⟨?_, HF6.out⟩
            rw [← HR.out, if_neg HQ.out, if_neg HQ2.out, if_neg HQ3.out, if_pos HQ4.out, HL.out, if_pos q5]
            exact ret_ib (by omega) rfl
          · have E5 : ¬ ((l : Int) > 53) := by omega
            obtain ⟨M, hM⟩ : ∃ M, m + 4503599627370496 = M := ⟨_, rfl⟩
            have hor : Go.bits .or .u64 (m : Int) 4503599627370496 = M := or_low64 52 m 1 _ M (by omega) (by decide) (by omega)
            have M1 : M < 9007199254740992 := by omega
            go_wp2_with fail
            go_quiet (fail)
            go_wp2_with fail
            go_ret2
            refine ⟨?_, HF6.out.drewN _⟩
            rw [← HR.out, if_neg HQ.out, if_neg HQ2.out, if_neg HQ3.out, if_pos HQ4.out, HL.out, if_neg q5]
            refine ret_ib (fin_low 15 s M _ l s1 (low_lt 43 10 15 M l M1 (by have := HL.out; have := HQ4.out; clear HL HQ4 HR; omega) (by decide) (by decide)) (by decide) (by simp; omega) (by rw [← hM])) ?_
            rw [and_low M l (by omega) M1, ← hM]
        · have E4 : ¬ ((e : Int) - 1023 + 15 ≤ 0) := by omega
          have HQ4 := hid q4
          clear q4
          go_wp2_with fail
          go_quiet (fail)
          go_wp2_with fail
          go_ret2
          refine ⟨?_, HF6.out.drewN _⟩
          have q3' := HQ3.out
          rw [← HR.out, if_neg HQ.out, if_neg HQ2.out, if_neg HQ3.out, if_neg HQ4.out]
          refine ret_ib ?_ ?_
          · rw [or_join64 15 ((s : Int) * 32768) (((e : Int) - 1023 + 15) * 1024) (by omega) (by omega) (by omega) (by omega) (by omega) (by omega), or_join64 10 _ _ (by omega) (by omega) (by omega) (by omega) (by omega) (by omega)]
            omega
          · rw [mask_nat 42 _ m _ (by decide) (by omega) rfl (by decide)]
            exact beq_dec _


set_option maxRecDepth 100000 in
set_option maxHeartbeats 4000000 in
theorem narrow4_calls (w : World) (x : Nat) (hx : x < 2 ^ 64) (hd : Dbl w) : Calls Tryd.prog 60 #[.int .u64 x, .int .i64 4] w
    (fun e w' => e = .returned (.tuple #[.int .u64 ((narrowF 8 23 x).1 : Nat), .bool (narrowF 8 23 x).2]) ∧ Fr (fun _ => False) w w') := by
  have HD := hid hd
  have HX := hid hx
  obtain ⟨r, hr⟩ : ∃ r, narrowF 8 23 x = r := ⟨_, rfl⟩
  rw [hr]
  unfold narrowF at hr
  obtain ⟨s, hs⟩ : ∃ s, x / 2 ^ 63 = s := ⟨_, rfl⟩
  obtain ⟨e, he⟩ : ∃ e, x / 2 ^ 52 % 2 ^ 11 = e := ⟨_, rfl⟩
  obtain ⟨m, hm⟩ : ∃ m, x % 2 ^ 52 = m := ⟨_, rfl⟩
  have s1 : s < 2 := by omega
  have e1 : e < 2048 := by rw [← he]; exact Nat.mod_lt _ (by decide)
  have m1 : m < 4503599627370496 := by rw [← hm]; exact Nat.mod_lt _ (by decide)
  rw [hs, he, hm, bias8] at hr
  have HR := hid hr
  have HS := hid hs
  have HE := hid he
  have HM := hid hm
  clear hd hx he hm hs hr
  go_enter Tryd.func60, Tryd.ntmps60
  go_wp2_with fail
  refine (forms4_calls _).mono ?_
  rintro e' w1 ⟨rfl, hf⟩
  have HF1 := hid hf
  have HD1 := hid (HD.out.fr0 hf)
  clear hf
  have hdn := hid (HD1.out.fr0 ((Fr.refl _ _).alloc (.cells #[.int .i64 8, .int .i64 23] 103)))
  have hbn := hid (Blk.new w1 103 #[.int .i64 8, .int .i64 23])
  have c0 := hdn.out.c0
  have c1 := hdn.out.c1
  go_wp2_with fail
  refine (split11_calls _ x HX.out s e m HS.out HE.out HM.out).mono ?_
  rintro e' w2 ⟨rfl, hf⟩
  have HF2 := hid (HF1.out.then_ (((Fr.refl _ _).alloc _).then_ hf (fun _ _ h => h)) (fun _ _ h => h))
  have HD2 := hid (hdn.out.fr0 hf)
  have HB2 := hid (hbn.out.fr hf id)
  clear hf hdn hbn c0 c1
  obtain ⟨g, hg⟩ : ∃ g, w1.heap.size = g := ⟨_, rfl⟩
  rw [hg] at HB2 ⊢
  clear hg
  have c0 := HD2.out.c0
  have c1 := HD2.out.c1
  obtain ⟨b0, b1⟩ := blk2 HB2.out
  go_wp2_with fail
  have k0 : IntKind.i64.wrap (e : Int) = e := i64_in _ (by omega)
  have k1 : IntKind.i64.wrap ((e : Int) - 1023) = e - 1023 := i64_in _ (by omega)
  have k2 : IntKind.i64.wrap ((e : Int) - 1023 + 127) = e - 1023 + 127 := i64_in _ (by omega)
  go_region_held3 (fun w' => w'.cell? ⟨1, 0, none⟩ = some (.int .i64 11) ∧ w'.cell? ⟨1, 1, none⟩ = some (.int .i64 52) ∧ w'.cell? ⟨g, 0, none⟩ = some (.int .i64 8) ∧ w'.cell? ⟨g, 1, none⟩ = some (.int .i64 23)) (first | exact ⟨c0, c1, b0, b1⟩ | exact ⟨d0, d1, a0, a1⟩ | exact ⟨f0, f1, h0, h1⟩)
    (first
      | (go_at_call 72; refine (bias11_calls _).mono ?_; rintro e3 w3 ⟨rfl, hf⟩; have HF3 := hid ((Fr.refl _ w2).drew.then_ hf (fun _ _ h => h)); have d0 := (HD2.out.fr0 HF3.out).c0; have d1 := (HD2.out.fr0 HF3.out).c1; obtain ⟨a0, a1⟩ := blk2 (HB2.out.fr HF3.out id); clear hf)
      | (go_at_call 72; refine (bias8_calls _).mono ?_; rintro e4 w4 ⟨rfl, hf⟩; have HF4 := hid (HF3.out.then_ hf (fun _ _ h => h)); have f0 := (HD2.out.fr0 HF4.out).c0; have f1 := (HD2.out.fr0 HF4.out).c1; obtain ⟨h0, h1⟩ := blk2 (HB2.out.fr HF4.out id); clear hf))
  have HF4' := hid (HF2.out.then_ HF4.out (fun _ _ h => h))
  have HD4 := hid (HD2.out.fr0 HF4.out)
  have HB4 := hid (HB2.out.fr HF4.out id)
  clear k0 k1 k2 HF3 HF4 HD2 HB2 HF2 HF1 HD1 c0 c1 b0 b1 d0 d1 a0 a1
  try (rename_i hHeld; clear hHeld)
  go_wp2_with fail
  refine (top11_calls _).mono ?_
  rintro e' w5 ⟨rfl, hf⟩
  have HF5 := hid (HF4'.out.then_ hf (fun _ _ h => h))
  have HD5 := hid (HD4.out.fr0 hf)
  have HB5 := hid (HB4.out.fr hf id)
  clear hf HD4 HB4 HF4' f0 f1 h0 h1
  have c0 := HD5.out.c0
  have c1 := HD5.out.c1
  obtain ⟨b0, b1⟩ := blk2 HB5.out
  by_cases q1 : e = 2047
  · have E1 : ((e : Int) == 2047) = true := beq_iff_eq.2 (by omega)
    have HQ := hid q1
    clear q1
    go_wp2_with fail
    have kk : Go.bits .or .u64 ((s : Int) * 2147483648) (IntKind.u64.wrap 2139095040) = s * 2147483648 + 2139095040 := by
      rw [show IntKind.u64.wrap 2139095040 = 2139095040 from by decide]
      exact or_join64 31 _ _ (by omega) (by omega) (by omega) (by omega) (by omega) (by omega)
    go_region_held3 (fun w' => w'.cell? ⟨g, 0, none⟩ = some (.int .i64 8) ∧ w'.cell? ⟨g, 1, none⟩ = some (.int .i64 23)) (first | exact ⟨b0, b1⟩ | exact ⟨h0, h1⟩)
      ((go_at_call 70; refine (top8_calls _).mono ?_; rintro e3 w6 ⟨rfl, hf⟩; have HF6 := hid ((Fr.refl _ w5).drew.then_ hf (fun _ _ h => h)); obtain ⟨h0, h1⟩ := blk2 (HB5.out.fr HF6.out id); clear hf))
    go_wp2_with fail
    go_ret2
    refine ⟨?_, HF5.out.then_ HF6.out (fun _ _ h => h)⟩
    rw [← HR.out, if_pos HQ.out]
    exact ret_ib (by omega) rfl
  · have E1 : ((e : Int) == 2047) = false := beq_eq_false_iff_ne.2 (by omega)
    have HQ := hid q1
    clear q1
    by_cases q2 : e = 0
    · have E2 : ((e : Int) == 0) = true := beq_iff_eq.2 (by omega)
      have HQ2 := hid q2
      clear q2
      go_wp2_with fail
      go_ret2
      refine ⟨?_, HF5.out⟩
      rw [← HR.out, if_neg HQ.out, if_pos HQ2.out]
      refine ret_ib (by omega) ?_
      by_cases hm0 : m = 0 <;> simp [hm0]
    · have E2 : ((e : Int) == 0) = false := beq_eq_false_iff_ne.2 (by omega)
      have HQ2 := hid q2
      clear q2
      go_wp2_with fail
      refine (top8_calls _).mono ?_
      rintro e' w6 ⟨rfl, hf⟩
      have HF6 := hid (HF5.out.then_ hf (fun _ _ h => h))
      have HD6 := hid (HD5.out.fr0 hf)
      have HB6 := hid (HB5.out.fr hf id)
      clear hf c0 c1 b0 b1 HD5 HB5 HF5
      have c0 := HD6.out.c0
      have c1 := HD6.out.c1
      obtain ⟨b0, b1⟩ := blk2 HB6.out
      by_cases q3 : 1023 + (2 ^ 8 - 1) ≤ e + 127
      · have E3 : decide ((e : Int) - 1023 + 127 ≥ 255) = true := decide_eq_true (by omega)
        have HQ3 := hid q3
        clear q3
        go_wp2_with fail
        go_ret2
        refine ⟨?_, HF6.out⟩
        rw [← HR.out, if_neg HQ.out, if_neg HQ2.out, if_pos HQ3.out]
        exact ret_ib (by omega) rfl
      · have E3 : ¬ ((e : Int) - 1023 + 127 ≥ 255) := by omega
        have HQ3 := hid q3
        clear q3
        by_cases q4 : e + 127 ≤ 1023
        · have E4 : (e : Int) - 1023 + 127 ≤ 0 := by omega
          have HQ4 := hid q4
          obtain ⟨l, hl⟩ : ∃ l, 52 - 23 + 1 + 1023 - (e + 127) = l := ⟨_, rfl⟩
          have hlv : (29 : Int) + (1 - ((e : Int) - 1023 + 127)) = l := by omega
          have HL := hid hl
          clear q4 hl
          by_cases q5 : 53 < l
          · have E5 : (l : Int) > 53 := by omega
            go_wp2_with fail
            go_ret2
            refine ⟨?_, HF6.out⟩
            rw [← HR.out, if_neg HQ.out, if_neg HQ2.out, if_neg HQ3.out, if_pos HQ4.out, HL.out, if_pos q5]
            exact ret_ib (by omega) rfl
          · have E5 : ¬ ((l : Int) > 53) := by omega
            obtain ⟨M, hM⟩ : ∃ M, m + 4503599627370496 = M := ⟨_, rfl⟩
            have hor : Go.bits .or .u64 (m : Int) 4503599627370496 = M := or_low64 52 m 1 _ M (by omega) (by decide) (by omega)
            have M1 : M < 9007199254740992 := by omega
            go_wp2_with fail
            go_quiet (fail)
            go_wp2_with fail
            go_ret2
            refine ⟨?_, HF6.out.drewN _⟩
            rw [← HR.out, if_neg HQ.out, if_neg HQ2.out, if_neg HQ3.out, if_pos HQ4.out, HL.out, if_neg q5]
            refine ret_ib (fin_low 31 s M _ l s1 (low_lt 30 23 31 M l M1 (by have := HL.out; have := HQ4.out; clear HL HQ4 HR; omega) (by decide) (by decide)) (by decide) (by simp; omega) (by rw [← hM])) ?_
            rw [and_low M l (by omega) M1, ← hM]
        · have E4 : ¬ ((e : Int) - 1023 + 127 ≤ 0) := by omega
          have HQ4 := hid q4
          clear q4
          go_wp2_with fail
          go_quiet (fail)
          go_wp2_with fail
          go_ret2
          refine ⟨?_, HF6.out.drewN _⟩
          have q3' := HQ3.out
          rw [← HR.out, if_neg HQ.out, if_neg HQ2.out, if_neg HQ3.out, if_neg HQ4.out]
          refine ret_ib ?_ ?_
          · rw [or_join64 31 ((s : Int) * 2147483648) (((e : Int) - 1023 + 127) * 8388608) (by omega) (by omega) (by omega) (by omega) (by omega) (by omega), or_join64 23 _ _ (by omega) (by omega) (by omega) (by omega) (by omega) (by omega)]
            omega
          · rw [mask_nat 29 _ m _ (by decide) (by omega) rfl (by decide)]
            exact beq_dec _
end Go.Proofs.YtgdhchknegjpfaaDoor.FloatC
