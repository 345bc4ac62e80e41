/- Walks of layer float: widened (printed by gen/float_widen.py). -/
import Derived.Test.YtgdhchknegjpfaaDoorFloatC
set_option linter.unusedVariables false
set_option linter.unusedSimpArgs false
namespace Go.Proofs.YtgdhchknegjpfaaDoor.FloatD
open Go.IntWalk Go.RowKit Go.Proofs.YtgdhchknegjpfaaDoor.Mem Go.Proofs.YtgdhchknegjpfaaDoor.Num Go.Proofs.YtgdhchknegjpfaaDoor.FloatP Go.Proofs.YtgdhchknegjpfaaDoor.FloatA Go.Proofs.YtgdhchknegjpfaaDoor.FloatB Go.Proofs.YtgdhchknegjpfaaDoor.FloatC

theorem fin_w (s P mm : Nat) (A B C : Int) (hs : s < 2) (hP : P < 2048) (hm : mm < 4503599627370496) (hA : A = s * 9223372036854775808) (hB : B = P * 4503599627370496) (hC : C = mm) {z : Nat} (hz : s * 9223372036854775808 + P * 4503599627370496 + mm = z) :
    Go.bits .or .u64 (Go.bits .or .u64 A B) C = z := by
  subst hA hB hC
  rw [or_join64 63 ((s : Int) * 9223372036854775808) ((P : Int) * 4503599627370496) (by omega) (by omega) (by omega) (by omega) (by omega) (by omega), or_join64 52 _ _ (by omega) (by omega) (by omega) (by omega) (by omega) (by omega)]
  omega
theorem lg_bound (m fb : Nat) (h0 : m ≠ 0) (h : m < 2 ^ fb) : lg m < fb := by
  rcases Nat.lt_or_ge (lg m) fb with h' | h'
  · exact h'
  · have := lg_le h0
    have := Nat.pow_le_pow_right (n := 2) (by decide) h'
    omega
theorem up_lt (m fb k : Nat) (h : k + lg m < fb) (hf : fb ≤ 52) : m * 2 ^ (52 - fb + k) < 2 ^ 52 := by
  have h1 := Nat.mul_lt_mul_of_pos_right (lg_lt m) (Nat.two_pow_pos (52 - fb + k))
  rw [← Nat.pow_add] at h1
  exact Nat.lt_of_lt_of_le h1 (Nat.pow_le_pow_right (by decide) (by omega))
theorem up_ge (m fb k : Nat) (h0 : m ≠ 0) (h : k + lg m = fb) (hf : fb ≤ 52) : 2 ^ 52 ≤ m * 2 ^ (52 - fb + k) ∧ m * 2 ^ (52 - fb + k) < 2 ^ 53 := by
  have h1 := Nat.mul_lt_mul_of_pos_right (lg_lt m) (Nat.two_pow_pos (52 - fb + k))
  have h2 := Nat.mul_le_mul_right (2 ^ (52 - fb + k)) (lg_le h0)
  rw [← Nat.pow_add] at h1 h2
  rw [show lg m + 1 + (52 - fb + k) = 53 from by omega] at h1
  rw [show lg m + (52 - fb + k) = 52 from by omega] at h2
  exact ⟨h2, h1⟩
-- PRINTED

set_option maxRecDepth 100000 in
set_option maxHeartbeats 4000000 in
theorem widen2_long (w : World) (x : Nat) (hx : ¬ x < 65536) (hx64 : x < 2 ^ 64) (hd : Dbl w) : Calls Tryd.prog 81 #[.int .u64 x, .int .i64 2] w
    (fun e w' => e = .returned (.tuple #[.int .u64 0, .bool false]) ∧ Fr (fun _ => False) w w') := by
  have x0 : ¬ (x : Int) / 65536 = 0 := by omega
  have HD := hid hd
  clear hx hd
  go_enter Tryd.func81, Tryd.ntmps81
  go_wp2_with fail
  refine (forms2_calls _).mono ?_
  rintro e' w1 ⟨rfl, hf⟩
  have HF1 := hid hf
  clear hf
  go_wp2_with fail
  go_ret2
  exact ⟨rfl, HF1.out.alloc _⟩


set_option maxRecDepth 100000 in
set_option maxHeartbeats 4000000 in
theorem widen4_long (w : World) (x : Nat) (hx : ¬ x < 4294967296) (hx64 : x < 2 ^ 64) (hd : Dbl w) : Calls Tryd.prog 81 #[.int .u64 x, .int .i64 4] w
    (fun e w' => e = .returned (.tuple #[.int .u64 0, .bool false]) ∧ Fr (fun _ => False) w w') := by
  have x0 : ¬ (x : Int) / 4294967296 = 0 := by omega
  have HD := hid hd
  clear hx hd
  go_enter Tryd.func81, Tryd.ntmps81
  go_wp2_with fail
  refine (forms4_calls _).mono ?_
  rintro e' w1 ⟨rfl, hf⟩
  have HF1 := hid hf
  clear hf
  go_wp2_with fail
  go_ret2
  exact ⟨rfl, HF1.out.alloc _⟩


set_option maxRecDepth 100000 in
set_option maxHeartbeats 4000000 in
theorem widen_none (w : World) (x : Nat) (n : Int) (h2 : n ≠ 2) (h4 : n ≠ 4) (h8 : n ≠ 8) (hd : Dbl w) : Calls Tryd.prog 81 #[.int .u64 x, .int .i64 n] w
    (fun e w' => e = .returned (.tuple #[.int .u64 0, .bool false]) ∧ Fr (fun _ => False) w w') := by
  have HD := hid hd
  have H2 := hid h2
  have H4 := hid h4
  have H8 := hid h8
  clear hd h2 h4 h8
  go_enter Tryd.func81, Tryd.ntmps81
  go_wp2_with fail
  refine (forms_none_calls _ n H2.out H4.out H8.out).mono ?_
  rintro e' w1 ⟨rfl, hf⟩
  have HF1 := hid hf
  clear hf
  go_wp2_with fail
  go_ret2
  exact ⟨rfl, HF1.out.alloc _⟩


set_option maxRecDepth 100000 in
set_option maxHeartbeats 4000000 in
theorem widen2_calls (w : World) (x : Nat) (hx : x < 65536) (hd : Dbl w) : Calls Tryd.prog 81 #[.int .u64 x, .int .i64 2] w
    (fun e w' => e = .returned (.tuple #[.int .u64 (widenF 5 10 false x : Nat), .bool true]) ∧ Fr (fun _ => False) w w') := by
  have HD := hid hd
  have HX := hid hx
  obtain ⟨r, hr⟩ : ∃ r, widenF 5 10 false x = r := ⟨_, rfl⟩
  rw [hr]
  unfold widenF at hr
  obtain ⟨s, hs⟩ : ∃ s, x / 2 ^ (5 + 10) = s := ⟨_, rfl⟩
  obtain ⟨e, he⟩ : ∃ e, x / 2 ^ 10 % 2 ^ 5 = e := ⟨_, rfl⟩
  obtain ⟨m, hm⟩ : ∃ m, x % 2 ^ 10 = m := ⟨_, rfl⟩
  have s1 : s < 2 := by omega
  have e1 : e < 32 := by rw [← he]; exact Nat.mod_lt _ (by decide)
  have m1 : m < 1024 := by rw [← hm]; exact Nat.mod_lt _ (by decide)
  rw [hs, he, hm, bias5] at hr
  have HR := hid hr
  have HS := hid hs
  have HE := hid he
  have HM := hid hm
  have x0 : (x : Int) / 65536 = 0 := by omega
  clear hd he hm hs hr hx
  go_enter Tryd.func81, Tryd.ntmps81
  go_wp2_with fail
  refine (forms2_calls _).mono ?_
  rintro e' w1 ⟨rfl, hf⟩
  have HF1 := hid hf
  have HD1 := hid (HD.out.fr0 hf)
  clear hf
  have hdn := hid (HD1.out.fr0 ((Fr.refl _ _).alloc (.cells #[.int .i64 5, .int .i64 10] 103)))
  have hbn := hid (Blk.new w1 103 #[.int .i64 5, .int .i64 10])
  have c0 := hdn.out.c0
  have c1 := hdn.out.c1
  obtain ⟨b0, b1⟩ := blk2 hbn.out
  go_wp2_with fail
  refine (split5_calls _ x (by have := HX.out; omega) s e m HS.out HE.out HM.out).mono ?_
  rintro e' w2 ⟨rfl, hf⟩
  have HF2 := hid (HF1.out.then_ (((Fr.refl _ _).alloc _).then_ hf (fun _ _ h => h)) (fun _ _ h => h))
  have HD2 := hid (hdn.out.fr0 hf)
  have HB2 := hid (hbn.out.fr hf id)
  clear hf hdn hbn c0 c1 b0 b1
  obtain ⟨g, hg⟩ : ∃ g, w1.heap.size = g := ⟨_, rfl⟩
  rw [hg] at HB2 ⊢
  clear hg
  have c0 := HD2.out.c0
  have c1 := HD2.out.c1
  obtain ⟨b0, b1⟩ := blk2 HB2.out
  go_wp2_with fail
  have k0 : IntKind.i64.wrap (e : Int) = e := i64_in _ (by omega)
  have k1 : IntKind.i64.wrap ((e : Int) - 15) = e - 15 := i64_in _ (by omega)
  have k2 : IntKind.i64.wrap ((e : Int) - 15 + 1023) = (e : Int) - 15 + 1023 := i64_in _ (by omega)
  go_region_held3 (fun w' => w'.cell? ⟨1, 0, none⟩ = some (.int .i64 11) ∧ w'.cell? ⟨1, 1, none⟩ = some (.int .i64 52) ∧ w'.cell? ⟨g, 0, none⟩ = some (.int .i64 5) ∧ w'.cell? ⟨g, 1, none⟩ = some (.int .i64 10)) (first | exact ⟨c0, c1, b0, b1⟩ | exact ⟨d0, d1, a0, a1⟩ | exact ⟨f0, f1, h0, h1⟩)
    (first
      | (go_at_call 72; refine (bias5_calls _).mono ?_; rintro e3 w3 ⟨rfl, hf⟩; have HF3 := hid ((Fr.refl _ w2).drew.then_ hf (fun _ _ h => h)); have d0 := (HD2.out.fr0 HF3.out).c0; have d1 := (HD2.out.fr0 HF3.out).c1; obtain ⟨a0, a1⟩ := blk2 (HB2.out.fr HF3.out id); clear hf; have HFIRST := hid trivial)
      | (go_at_call 72; refine (bias11_calls _).mono ?_; rintro e4 w4 ⟨rfl, hf⟩; have HF4 := hid (HF3.out.then_ hf (fun _ _ h => h)); have f0 := (HD2.out.fr0 HF4.out).c0; have f1 := (HD2.out.fr0 HF4.out).c1; obtain ⟨h0, h1⟩ := blk2 (HB2.out.fr HF4.out id); clear hf))
  have HF4' := hid (HF2.out.then_ HF4.out (fun _ _ h => h))
  have HD4 := hid (HD2.out.fr0 HF4.out)
  have HB4 := hid (HB2.out.fr HF4.out id)
  clear k0 k1 k2 HF3 HF4 HD2 HB2 HF2 HF1 HD1 c0 c1 b0 b1 d0 d1 a0 a1
  try (rename_i hHeld; clear hHeld)
  go_wp2_with fail
  refine (top5_calls _).mono ?_
  rintro e' w5 ⟨rfl, hf⟩
  have HF5 := hid (HF4'.out.then_ hf (fun _ _ h => h))
  have HD5 := hid (HD4.out.fr0 hf)
  have HB5 := hid (HB4.out.fr hf id)
  clear hf HD4 HB4 HF4' f0 f1 h0 h1
  have c0 := HD5.out.c0
  have c1 := HD5.out.c1
  obtain ⟨b0, b1⟩ := blk2 HB5.out
  by_cases q1 : e = 31
  · have E1 : ((e : Int) == 31) = true := beq_iff_eq.2 (by omega)
    have HQ := hid q1
    clear q1
    by_cases q2 : m = 0
    · have E2 : (m : Int) = 0 := by omega
      have HQ2 := hid q2
      clear q2
      go_wp2_with fail
      refine (top5_calls _).mono ?_
      rintro e' w6 ⟨rfl, hf⟩
      have HF6 := hid (HF5.out.then_ hf (fun _ _ h => h))
      have HD6 := hid (HD5.out.fr0 hf)
      clear hf c0 c1 b0 b1 HD5 HB5 HF5
      have c0 := HD6.out.c0
      have c1 := HD6.out.c1
      go_wp2_with fail
      refine (top11_calls _).mono ?_
      rintro e' w7 ⟨rfl, hf⟩
      have HF7 := hid (HF6.out.then_ hf (fun _ _ h => h))
      have HD7 := hid (HD6.out.fr0 hf)
      clear hf c0 c1 HD6 HF6
      have c0 := HD7.out.c0
      have c1 := HD7.out.c1
      go_wp2_with fail
      go_ret2
      refine ⟨?_, HF7.out⟩
      rw [← HR.out, if_pos HQ.out, HQ2.out, if_neg (by decide)]
      refine ret_ib ?_ rfl
      exact fin_w s 2047 0 _ _ _ s1 (by decide) (by decide) (by omega) (by omega) (by omega) (by omega)
    · have E2 : ¬ (m : Int) = 0 := by omega
      have HQ2 := hid q2
      clear q2
      go_wp2_with fail
      go_ret2
      refine ⟨?_, HF5.out⟩
      rw [← HR.out, if_pos HQ.out, if_pos HQ2.out]
      exact ret_ib (by omega) rfl
  · have E1 : ((e : Int) == 31) = false := beq_eq_false_iff_ne.2 (by omega)
    have HQ := hid q1
    clear q1
    go_wp2_with fail
    refine (top5_calls _).mono ?_
    rintro e' w6 ⟨rfl, hf⟩
    have HF6 := hid (HF5.out.then_ hf (fun _ _ h => h))
    have HD6 := hid (HD5.out.fr0 hf)
    clear hf c0 c1 b0 b1 HD5 HB5 HF5
    have c0 := HD6.out.c0
    have c1 := HD6.out.c1
    by_cases q2 : e = 0
    · have E2 : ((e : Int) == 0) = true := beq_iff_eq.2 (by omega)
      have HQ2 := hid q2
      clear q2
      by_cases q3 : m = 0
      · have E3 : (m : Int) = 0 := by omega
        have HQ3 := hid q3
        clear q3
        go_wp2_with fail
        go_ret2
        refine ⟨?_, HF6.out⟩
        rw [← HR.out, if_neg HQ.out, if_pos HQ2.out, if_pos (Or.inr HQ3.out), HQ3.out]
        refine ret_ib ?_ rfl
        exact fin_w s 0 0 _ _ _ s1 (by decide) (by decide) (by omega) (by omega) (by omega) (by omega)
      · have E3 : ¬ (m : Int) = 0 := by omega
        have HQ3 := hid q3
        have hlg : lg m < 10 := lg_bound m 10 q3 m1
        obtain ⟨l, hl⟩ : ∃ l, lg m = l := ⟨_, rfl⟩
        have HL := hid hl
        rw [hl] at hlg
        clear hl q3
        go_wp2_with fail
        go_loop [10, 11] (fun a p => ∃ k : Nat, k + l ≤ 10 ∧ a = .int .u64 ((m * 2 ^ (42 + k) : Nat) : Int) ∧ p = .int .i64 ((e : Int) - 15 + 1023 + 1 - k)) (fun _ p => (intOf p).toNat)
        case atStart => exact ⟨0, by omega, by go_num, by go_num⟩
        case round =>
          obtain ⟨k, hk, rfl, rfl⟩ := hrel
          obtain ⟨B, hB⟩ : ∃ B, m * 2 ^ (42 + k) = B := ⟨_, rfl⟩
          rw [hB]
          by_cases q4 : k + l < 10
          · have hlt : B < 4503599627370496 := by rw [← hB]; exact up_lt m 10 k (by rw [HL.out]; exact q4) (by decide)
            have hd0 : (B : Int) / 4503599627370496 = 0 := by omega
            have HB := hid hB
            clear hB
            go_wp2_with fail
            go_round
            case rel => exact ⟨k + 1, by omega, by rw [← HB.out, ← Nat.add_assoc, Nat.pow_succ, ← Nat.mul_assoc]; go_num, by go_num⟩
            case measure => simp [intOf]; omega
          · obtain ⟨hge, hlt⟩ := up_ge m 10 k (by have := HQ3.out; omega) (by rw [HL.out]; omega) (by decide)
            rw [hB] at hge hlt
            have hd0 : ¬ (B : Int) / 4503599627370496 = 0 := by omega
            have HB := hid hB
            have hge' : 4503599627370496 ≤ B := hge
            have hlt' : B < 9007199254740992 := hlt
            clear hB hge hlt
            go_wp2_with fail
            go_ret2
            refine ⟨?_, HF6.out⟩
            rw [← HR.out, if_neg HQ.out, if_pos HQ2.out, if_neg (by simp [HQ3.out]), HL.out, show 52 - l = 42 + k from by omega, HB.out]
            refine ret_ib ?_ rfl
            have hq2 := HQ2.out
            exact fin_w s (1024 - 15 + l - 10) (B - 4503599627370496) _ _ _ s1 (by omega) (by omega) (by omega) (by omega) ((mask_nat 52 _ B _ (by decide) (by omega) rfl (by decide)).trans (by omega)) (by omega)
    · have E2 : ((e : Int) == 0) = false := beq_eq_false_iff_ne.2 (by omega)
      have HQ2 := hid q2
      clear q2
      go_wp2_with fail
      go_ret2
      refine ⟨?_, HF6.out⟩
      rw [← HR.out, if_neg HQ.out, if_neg HQ2.out]
      refine ret_ib ?_ rfl
      exact fin_w s (e + 1023 - 15) (m * 2 ^ 42) _ _ _ s1 (by omega) (by omega) (by omega) (by omega) (by simp) (by omega)


set_option maxRecDepth 100000 in
set_option maxHeartbeats 4000000 in
theorem widen4_calls (w : World) (x : Nat) (hx : x < 4294967296) (hd : Dbl w) : Calls Tryd.prog 81 #[.int .u64 x, .int .i64 4] w
    (fun e w' => e = .returned (.tuple #[.int .u64 (widenF 8 23 false x : Nat), .bool true]) ∧ Fr (fun _ => False) w w') := by
  have HD := hid hd
  have HX := hid hx
  obtain ⟨r, hr⟩ : ∃ r, widenF 8 23 false x = r := ⟨_, rfl⟩
  rw [hr]
  unfold widenF at hr
  obtain ⟨s, hs⟩ : ∃ s, x / 2 ^ (8 + 23) = s := ⟨_, rfl⟩
  obtain ⟨e, he⟩ : ∃ e, x / 2 ^ 23 % 2 ^ 8 = e := ⟨_, rfl⟩
  obtain ⟨m, hm⟩ : ∃ m, x % 2 ^ 23 = m := ⟨_, rfl⟩
  have s1 : s < 2 := by omega
  have e1 : e < 256 := by rw [← he]; exact Nat.mod_lt _ (by decide)
  have m1 : m < 8388608 := by rw [← hm]; exact Nat.mod_lt _ (by decide)
  rw [hs, he, hm, bias8] at hr
  have HR := hid hr
  have HS := hid hs
  have HE := hid he
  have HM := hid hm
  have x0 : (x : Int) / 4294967296 = 0 := by omega
  clear hd he hm hs hr hx
  go_enter Tryd.func81, Tryd.ntmps81
  go_wp2_with fail
  refine (forms4_calls _).mono ?_
  rintro e' w1 ⟨rfl, hf⟩
  have HF1 := hid hf
  have HD1 := hid (HD.out.fr0 hf)
  clear hf
  have hdn := hid (HD1.out.fr0 ((Fr.refl _ _).alloc (.cells #[.int .i64 8, .int .i64 23] 103)))
  have hbn := hid (Blk.new w1 103 #[.int .i64 8, .int .i64 23])
  have c0 := hdn.out.c0
  have c1 := hdn.out.c1
  obtain ⟨b0, b1⟩ := blk2 hbn.out
  go_wp2_with fail
  refine (split8_calls _ x (by have := HX.out; omega) s e m HS.out HE.out HM.out).mono ?_
  rintro e' w2 ⟨rfl, hf⟩
  have HF2 := hid (HF1.out.then_ (((Fr.refl _ _).alloc _).then_ hf (fun _ _ h => h)) (fun _ _ h => h))
  have HD2 := hid (hdn.out.fr0 hf)
  have HB2 := hid (hbn.out.fr hf id)
  clear hf hdn hbn c0 c1 b0 b1
  obtain ⟨g, hg⟩ : ∃ g, w1.heap.size = g := ⟨_, rfl⟩
  rw [hg] at HB2 ⊢
  clear hg
  have c0 := HD2.out.c0
  have c1 := HD2.out.c1
  obtain ⟨b0, b1⟩ := blk2 HB2.out
  go_wp2_with fail
  have k0 : IntKind.i64.wrap (e : Int) = e := i64_in _ (by omega)
  have k1 : IntKind.i64.wrap ((e : Int) - 127) = e - 127 := i64_in _ (by omega)
  have k2 : IntKind.i64.wrap ((e : Int) - 127 + 1023) = (e : Int) - 127 + 1023 := i64_in _ (by omega)
  go_region_held3 (fun w' => w'.cell? ⟨1, 0, none⟩ = some (.int .i64 11) ∧ w'.cell? ⟨1, 1, none⟩ = some (.int .i64 52) ∧ w'.cell? ⟨g, 0, none⟩ = some (.int .i64 8) ∧ w'.cell? ⟨g, 1, none⟩ = some (.int .i64 23)) (first | exact ⟨c0, c1, b0, b1⟩ | exact ⟨d0, d1, a0, a1⟩ | exact ⟨f0, f1, h0, h1⟩)
    (first
      | (go_at_call 72; refine (bias8_calls _).mono ?_; rintro e3 w3 ⟨rfl, hf⟩; have HF3 := hid ((Fr.refl _ w2).drew.then_ hf (fun _ _ h => h)); have d0 := (HD2.out.fr0 HF3.out).c0; have d1 := (HD2.out.fr0 HF3.out).c1; obtain ⟨a0, a1⟩ := blk2 (HB2.out.fr HF3.out id); clear hf; have HFIRST := hid trivial)
      | (go_at_call 72; refine (bias11_calls _).mono ?_; rintro e4 w4 ⟨rfl, hf⟩; have HF4 := hid (HF3.out.then_ hf (fun _ _ h => h)); have f0 := (HD2.out.fr0 HF4.out).c0; have f1 := (HD2.out.fr0 HF4.out).c1; obtain ⟨h0, h1⟩ := blk2 (HB2.out.fr HF4.out id); clear hf))
  have HF4' := hid (HF2.out.then_ HF4.out (fun _ _ h => h))
  have HD4 := hid (HD2.out.fr0 HF4.out)
  have HB4 := hid (HB2.out.fr HF4.out id)
  clear k0 k1 k2 HF3 HF4 HD2 HB2 HF2 HF1 HD1 c0 c1 b0 b1 d0 d1 a0 a1
  try (rename_i hHeld; clear hHeld)
  go_wp2_with fail
  refine (top8_calls _).mono ?_
  rintro e' w5 ⟨rfl, hf⟩
  have HF5 := hid (HF4'.out.then_ hf (fun _ _ h => h))
  have HD5 := hid (HD4.out.fr0 hf)
  have HB5 := hid (HB4.out.fr hf id)
  clear hf HD4 HB4 HF4' f0 f1 h0 h1
  have c0 := HD5.out.c0
  have c1 := HD5.out.c1
  obtain ⟨b0, b1⟩ := blk2 HB5.out
  by_cases q1 : e = 255
  · have E1 : ((e : Int) == 255) = true := beq_iff_eq.2 (by omega)
    have HQ := hid q1
    clear q1
    by_cases q2 : m = 0
    · have E2 : (m : Int) = 0 := by omega
      have HQ2 := hid q2
      clear q2
      go_wp2_with fail
      refine (top8_calls _).mono ?_
      rintro e' w6 ⟨rfl, hf⟩
      have HF6 := hid (HF5.out.then_ hf (fun _ _ h => h))
      have HD6 := hid (HD5.out.fr0 hf)
      clear hf c0 c1 b0 b1 HD5 HB5 HF5
      have c0 := HD6.out.c0
      have c1 := HD6.out.c1
      go_wp2_with fail
      refine (top11_calls _).mono ?_
      rintro e' w7 ⟨rfl, hf⟩
      have HF7 := hid (HF6.out.then_ hf (fun _ _ h => h))
      have HD7 := hid (HD6.out.fr0 hf)
      clear hf c0 c1 HD6 HF6
      have c0 := HD7.out.c0
      have c1 := HD7.out.c1
      go_wp2_with fail
      go_ret2
      refine ⟨?_, HF7.out⟩
      rw [← HR.out, if_pos HQ.out, HQ2.out, if_neg (by decide)]
      refine ret_ib ?_ rfl
      exact fin_w s 2047 0 _ _ _ s1 (by decide) (by decide) (by omega) (by omega) (by omega) (by omega)
    · have E2 : ¬ (m : Int) = 0 := by omega
      have HQ2 := hid q2
      clear q2
      go_wp2_with fail
      go_ret2
      refine ⟨?_, HF5.out⟩
      rw [← HR.out, if_pos HQ.out, if_pos HQ2.out]
      exact ret_ib (by omega) rfl
  · have E1 : ((e : Int) == 255) = false := beq_eq_false_iff_ne.2 (by omega)
    have HQ := hid q1
    clear q1
    go_wp2_with fail
    refine (top8_calls _).mono ?_
    rintro e' w6 ⟨rfl, hf⟩
    have HF6 := hid (HF5.out.then_ hf (fun _ _ h => h))
    have HD6 := hid (HD5.out.fr0 hf)
    clear hf c0 c1 b0 b1 HD5 HB5 HF5
    have c0 := HD6.out.c0
    have c1 := HD6.out.c1
    by_cases q2 : e = 0
    · have E2 : ((e : Int) == 0) = true := beq_iff_eq.2 (by omega)
      have HQ2 := hid q2
      clear q2
      by_cases q3 : m = 0
      · have E3 : (m : Int) = 0 := by omega
        have HQ3 := hid q3
        clear q3
        go_wp2_with fail
        go_ret2
        refine ⟨?_, HF6.out⟩
        rw [← HR.out, if_neg HQ.out, if_pos HQ2.out, if_pos (Or.inr HQ3.out), HQ3.out]
        refine ret_ib ?_ rfl
        exact fin_w s 0 0 _ _ _ s1 (by decide) (by decide) (by omega) (by omega) (by omega) (by omega)
      · have E3 : ¬ (m : Int) = 0 := by omega
        have HQ3 := hid q3
        have hlg : lg m < 23 := lg_bound m 23 q3 m1
        obtain ⟨l, hl⟩ : ∃ l, lg m = l := ⟨_, rfl⟩
        have HL := hid hl
        rw [hl] at hlg
        clear hl q3
        go_wp2_with fail
        go_loop [10, 11] (fun a p => ∃ k : Nat, k + l ≤ 23 ∧ a = .int .u64 ((m * 2 ^ (29 + k) : Nat) : Int) ∧ p = .int .i64 ((e : Int) - 127 + 1023 + 1 - k)) (fun _ p => (intOf p).toNat)
        case atStart => exact ⟨0, by omega, by go_num, by go_num⟩
        case round =>
          obtain ⟨k, hk, rfl, rfl⟩ := hrel
          obtain ⟨B, hB⟩ : ∃ B, m * 2 ^ (29 + k) = B := ⟨_, rfl⟩
          rw [hB]
          by_cases q4 : k + l < 23
          · have hlt : B < 4503599627370496 := by rw [← hB]; exact up_lt m 23 k (by rw [HL.out]; exact q4) (by decide)
            have hd0 : (B : Int) / 4503599627370496 = 0 := by omega
            have HB := hid hB
            clear hB
            go_wp2_with fail
            go_round
            case rel => exact ⟨k + 1, by omega, by rw [← HB.out, ← Nat.add_assoc, Nat.pow_succ, ← Nat.mul_assoc]; go_num, by go_num⟩
            case measure => simp [intOf]; omega
          · obtain ⟨hge, hlt⟩ := up_ge m 23 k (by have := HQ3.out; omega) (by rw [HL.out]; omega) (by decide)
            rw [hB] at hge hlt
            have hd0 : ¬ (B : Int) / 4503599627370496 = 0 := by omega
            have HB := hid hB
            have hge' : 4503599627370496 ≤ B := hge
            have hlt' : B < 9007199254740992 := hlt
            clear hB hge hlt
            go_wp2_with fail
            go_ret2
            refine ⟨?_, HF6.out⟩
            rw [← HR.out, if_neg HQ.out, if_pos HQ2.out, if_neg (by simp [HQ3.out]), HL.out, show 52 - l = 29 + k from by omega, HB.out]
            refine ret_ib ?_ rfl
            have hq2 := HQ2.out
            exact fin_w s (1024 - 127 + l - 23) (B - 4503599627370496) _ _ _ s1 (by omega) (by omega) (by omega) (by omega) ((mask_nat 52 _ B _ (by decide) (by omega) rfl (by decide)).trans (by omega)) (by omega)
    · have E2 : ((e : Int) == 0) = false := beq_eq_false_iff_ne.2 (by omega)
      have HQ2 := hid q2
      clear q2
      go_wp2_with fail
      go_ret2
      refine ⟨?_, HF6.out⟩
      rw [← HR.out, if_neg HQ.out, if_neg HQ2.out]
      refine ret_ib ?_ rfl
      exact fin_w s (e + 1023 - 127) (m * 2 ^ 29) _ _ _ s1 (by omega) (by omega) (by omega) (by omega) (by simp) (by omega)


set_option maxRecDepth 100000 in
set_option maxHeartbeats 4000000 in
theorem widen8_calls (w : World) (x : Nat) (hx : x < 18446744073709551616) (hd : Dbl w) : Calls Tryd.prog 81 #[.int .u64 x, .int .i64 8] w
    (fun e w' => e = .returned (.tuple #[.int .u64 (widenF 11 52 true x : Nat), .bool true]) ∧ Fr (fun _ => False) w w') := by
  have HD := hid hd
  have HX := hid hx
  obtain ⟨r, hr⟩ : ∃ r, widenF 11 52 true x = r := ⟨_, rfl⟩
  rw [hr]
  unfold widenF at hr
  obtain ⟨s, hs⟩ : ∃ s, x / 2 ^ (11 + 52) = s := ⟨_, rfl⟩
  obtain ⟨e, he⟩ : ∃ e, x / 2 ^ 52 % 2 ^ 11 = e := ⟨_, rfl⟩
  obtain ⟨m, hm⟩ : ∃ m, x % 2 ^ 52 = m := ⟨_, rfl⟩
  have s1 : s < 2 := by omega
  have e1 : e < 2048 := by rw [← he]; exact Nat.mod_lt _ (by decide)
  have m1 : m < 4503599627370496 := by rw [← hm]; exact Nat.mod_lt _ (by decide)
  rw [hs, he, hm, bias11] at hr
  have HR := hid hr
  have HS := hid hs
  have HE := hid he
  have HM := hid hm
  have x0 : (x : Int) / 18446744073709551616 = 0 := by omega
  clear hd he hm hs hr hx
  go_enter Tryd.func81, Tryd.ntmps81
  go_wp2_with fail
  refine (forms8_calls _).mono ?_
  rintro e' w1 ⟨rfl, hf⟩
  have HF1 := hid hf
  have HD1 := hid (HD.out.fr0 hf)
  clear hf
  have hdn := hid (HD1.out.fr0 ((Fr.refl _ _).alloc (.cells #[.int .i64 11, .int .i64 52] 103)))
  have hbn := hid (Blk.new w1 103 #[.int .i64 11, .int .i64 52])
  have c0 := hdn.out.c0
  have c1 := hdn.out.c1
  obtain ⟨b0, b1⟩ := blk2 hbn.out
  go_wp2_with fail
  refine (split11_calls _ x (by have := HX.out; omega) s e m HS.out HE.out HM.out).mono ?_
  rintro e' w2 ⟨rfl, hf⟩
  have HF2 := hid (HF1.out.then_ (((Fr.refl _ _).alloc _).then_ hf (fun _ _ h => h)) (fun _ _ h => h))
  have HD2 := hid (hdn.out.fr0 hf)
  have HB2 := hid (hbn.out.fr hf id)
  clear hf hdn hbn c0 c1 b0 b1
  obtain ⟨g, hg⟩ : ∃ g, w1.heap.size = g := ⟨_, rfl⟩
  rw [hg] at HB2 ⊢
  clear hg
  have c0 := HD2.out.c0
  have c1 := HD2.out.c1
  obtain ⟨b0, b1⟩ := blk2 HB2.out
  go_wp2_with fail
  have k0 : IntKind.i64.wrap (e : Int) = e := i64_in _ (by omega)
  have k1 : IntKind.i64.wrap ((e : Int) - 1023) = e - 1023 := i64_in _ (by omega)
  have k2 : IntKind.i64.wrap ((e : Int) - 1023 + 1023) = (e : Int) - 1023 + 1023 := i64_in _ (by omega)
  go_region_held3 (fun w' => w'.cell? ⟨1, 0, none⟩ = some (.int .i64 11) ∧ w'.cell? ⟨1, 1, none⟩ = some (.int .i64 52) ∧ w'.cell? ⟨g, 0, none⟩ = some (.int .i64 11) ∧ w'.cell? ⟨g, 1, none⟩ = some (.int .i64 52)) (first | exact ⟨c0, c1, b0, b1⟩ | exact ⟨d0, d1, a0, a1⟩ | exact ⟨f0, f1, h0, h1⟩)
    (first
      | (have HONCE := HFIRST; go_at_call 72; refine (bias11_calls _).mono ?_; rintro e4 w4 ⟨rfl, hf⟩; have HF4 := hid (HF3.out.then_ hf (fun _ _ h => h)); have f0 := (HD2.out.fr0 HF4.out).c0; have f1 := (HD2.out.fr0 HF4.out).c1; obtain ⟨h0, h1⟩ := blk2 (HB2.out.fr HF4.out id); clear hf)
      | (go_at_call 72; refine (bias11_calls _).mono ?_; rintro e3 w3 ⟨rfl, hf⟩; have HF3 := hid ((Fr.refl _ w2).drew.then_ hf (fun _ _ h => h)); have d0 := (HD2.out.fr0 HF3.out).c0; have d1 := (HD2.out.fr0 HF3.out).c1; obtain ⟨a0, a1⟩ := blk2 (HB2.out.fr HF3.out id); clear hf; have HFIRST := hid trivial))
  have HF4' := hid (HF2.out.then_ HF4.out (fun _ _ h => h))
  have HD4 := hid (HD2.out.fr0 HF4.out)
  have HB4 := hid (HB2.out.fr HF4.out id)
  clear k0 k1 k2 HF3 HF4 HD2 HB2 HF2 HF1 HD1 c0 c1 b0 b1 d0 d1 a0 a1
  try (rename_i hHeld; clear hHeld)
  go_wp2_with fail
  refine (top11_calls _).mono ?_
  rintro e' w5 ⟨rfl, hf⟩
  have HF5 := hid (HF4'.out.then_ hf (fun _ _ h => h))
  have HD5 := hid (HD4.out.fr0 hf)
  have HB5 := hid (HB4.out.fr hf id)
  clear hf HD4 HB4 HF4' f0 f1 h0 h1
  have c0 := HD5.out.c0
  have c1 := HD5.out.c1
  obtain ⟨b0, b1⟩ := blk2 HB5.out
  by_cases q1 : e = 2047
  · have E1 : ((e : Int) == 2047) = true := beq_iff_eq.2 (by omega)
    have HQ := hid q1
    clear q1
    by_cases q2 : m = 0
    · have E2 : (m : Int) = 0 := by omega
      have HQ2 := hid q2
      clear q2
      go_wp2_with fail
      refine (top11_calls _).mono ?_
      rintro e' w6 ⟨rfl, hf⟩
      have HF6 := hid (HF5.out.then_ hf (fun _ _ h => h))
      have HD6 := hid (HD5.out.fr0 hf)
      clear hf c0 c1 b0 b1 HD5 HB5 HF5
      have c0 := HD6.out.c0
      have c1 := HD6.out.c1
      go_wp2_with fail
      refine (top11_calls _).mono ?_
      rintro e' w7 ⟨rfl, hf⟩
      have HF7 := hid (HF6.out.then_ hf (fun _ _ h => h))
      have HD7 := hid (HD6.out.fr0 hf)
      clear hf c0 c1 HD6 HF6
      have c0 := HD7.out.c0
      have c1 := HD7.out.c1
      go_wp2_with fail
      go_ret2
      refine ⟨?_, HF7.out⟩
      rw [← HR.out, if_pos HQ.out, HQ2.out, if_neg (by decide)]
      refine ret_ib ?_ rfl
      exact fin_w s 2047 0 _ _ _ s1 (by decide) (by decide) (by omega) (by omega) (by omega) (by omega)
    · have E2 : ¬ (m : Int) = 0 := by omega
      have HQ2 := hid q2
      clear q2
      go_wp2_with fail
      go_ret2
      refine ⟨?_, HF5.out⟩
      rw [← HR.out, if_pos HQ.out, if_pos HQ2.out]
      exact ret_ib (by omega) rfl
  · have E1 : ((e : Int) == 2047) = false := beq_eq_false_iff_ne.2 (by omega)
    have HQ := hid q1
    clear q1
    go_wp2_with fail
    refine (top11_calls _).mono ?_
    rintro e' w6 ⟨rfl, hf⟩
    have HF6 := hid (HF5.out.then_ hf (fun _ _ h => h))
    have HD6 := hid (HD5.out.fr0 hf)
    clear hf c0 c1 b0 b1 HD5 HB5 HF5
    have c0 := HD6.out.c0
    have c1 := HD6.out.c1
    by_cases q2 : e = 0
    · have E2 : ((e : Int) == 0) = true := beq_iff_eq.2 (by omega)
      have HQ2 := hid q2
      clear q2
      go_wp2_with fail
      go_ret2
      refine ⟨?_, HF6.out⟩
      rw [← HR.out, if_neg HQ.out, if_pos HQ2.out, if_pos (by simp)]
      refine ret_ib ?_ rfl
      exact fin_w s 0 m _ _ _ s1 (by decide) m1 (by omega) (by omega) (by omega) (by omega)
    · have E2 : ((e : Int) == 0) = false := beq_eq_false_iff_ne.2 (by omega)
      have HQ2 := hid q2
      clear q2
      go_wp2_with fail
      go_ret2
      refine ⟨?_, HF6.out⟩
      rw [← HR.out, if_neg HQ.out, if_neg HQ2.out]
      refine ret_ib ?_ rfl
      exact fin_w s (e + 1023 - 1023) (m * 2 ^ 0) _ _ _ s1 (by omega) (by omega) (by omega) (by omega) (by simp) (by omega)
end Go.Proofs.YtgdhchknegjpfaaDoor.FloatD
