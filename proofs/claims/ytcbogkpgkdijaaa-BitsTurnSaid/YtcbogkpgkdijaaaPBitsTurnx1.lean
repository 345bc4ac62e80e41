-- PRINTED BY print.sh 35421559b90ae4d0a3588c463048766b98c2df88dd9212a6774a882060cdf62d: not written by this session
import Derived.Test.YtcbogkpgkdijaaaPBitsTurnx0
namespace Go.Proofs.Ytcbogkpgkdijaaa.PBitsTurn
open Go.RowKit Go.Proofs.YtcbogkpgkdijaaaW.PrintWords Go.Proofs.YtcbogkpgkdijaaaW.PrintLast Go.Proofs.YtcbogkpgkdijaaaW.PrintMore
attribute [local go_sem] max2_int min2_int max_two min_two max_three min_three max_four min_four   -- for this text's walks alone
set_option linter.unusedVariables false
set_option linter.unusedSimpArgs false

/-! ### bits_RotateLeft32: function 41 -/
def bits_RotateLeft32.f (a0 : Int) (a1 : Int) : Option (Int) := if 0 ≤ (Go.bits .and .u64 (IntKind.u64.wrap (a1)) 31) then (if 0 ≤ (IntKind.u64.wrap (32 - (Go.bits .and .u64 (IntKind.u64.wrap (a1)) 31))) then (some (Go.bits .or .u32 (shl .u32 a0 (Go.bits .and .u64 (IntKind.u64.wrap (a1)) 31)) (shr .u32 a0 (IntKind.u64.wrap (32 - (Go.bits .and .u64 (IntKind.u64.wrap (a1)) 31)))))) else (none)) else (none)
set_option maxHeartbeats 8000000 in
set_option maxRecDepth 100000 in
theorem bits_RotateLeft32.calls (a0 : Int) (a1 : Int) (r : Int) (w : World) (h : bits_RotateLeft32.f a0 a1 = some r) :
    Calls Try.prog 41 #[.int .u32 a0, .int .i64 a1] w fun e w' => e = .returned (.int .u32 r) ∧ Drawn0 w w' := by
  have H : (if 0 ≤ (Go.bits .and .u64 (IntKind.u64.wrap (a1)) 31) then (if 0 ≤ (IntKind.u64.wrap (32 - (Go.bits .and .u64 (IntKind.u64.wrap (a1)) 31))) then (some (Go.bits .or .u32 (shl .u32 a0 (Go.bits .and .u64 (IntKind.u64.wrap (a1)) 31)) (shr .u32 a0 (IntKind.u64.wrap (32 - (Go.bits .and .u64 (IntKind.u64.wrap (a1)) 31)))))) else (none)) else (none)) = some r := h
  clear h
  obtain ⟨ji3, hji3⟩ : ∃ j_ : Int, (Go.bits .and .u64 (IntKind.u64.wrap (a1)) 31) = j_ := ⟨_, rfl⟩
  replace H : (if 0 ≤ (ji3) then (if 0 ≤ (IntKind.u64.wrap (32 - (ji3))) then (some (Go.bits .or .u32 (shl .u32 a0 (ji3)) (shr .u32 a0 (IntKind.u64.wrap (32 - (ji3)))))) else (none)) else (none)) = some r := by first | (rw [hji3] at H; exact H) | (simp only [hji3] at H ⊢; exact H)
  by_cases c4 : 0 ≤ (ji3)
  · rw [if_pos c4] at H
    have c4b0 := eq_true c4
    have c4b1 : decide (0 ≤ (ji3)) = true := decide_eq_true c4
    clear c4
    obtain ⟨ji5, hji5⟩ : ∃ j_ : Int, (shl .u32 a0 (ji3)) = j_ := ⟨_, rfl⟩
    replace H : (if 0 ≤ (IntKind.u64.wrap (32 - (ji3))) then (some (Go.bits .or .u32 (ji5) (shr .u32 a0 (IntKind.u64.wrap (32 - (ji3)))))) else (none)) = some r := by first | (rw [hji5] at H; exact H) | (simp only [hji5] at H ⊢; exact H)
    have hji5_ : (IntKind.u32.wrap (a0 * 2 ^ min (ji3).toNat 32)) = ji5 := hji5
    have hji5z : (ji3) ≤ 32 → (IntKind.u32.wrap (a0 * 2 ^ (ji3).toNat)) = ji5 := shl_small hji5
    obtain ⟨ji6, hji6⟩ : ∃ j_ : Int, (IntKind.u64.wrap (32 - (ji3))) = j_ := ⟨_, rfl⟩
    replace H : (if 0 ≤ (ji6) then (some (Go.bits .or .u32 (ji5) (shr .u32 a0 (ji6)))) else (none)) = some r := by first | (rw [hji6] at H; exact H) | (simp only [hji6] at H ⊢; exact H)
    by_cases c7 : 0 ≤ (ji6)
    · rw [if_pos c7] at H
      have c7b0 := eq_true c7
      have c7b1 : decide (0 ≤ (ji6)) = true := decide_eq_true c7
      clear c7
      obtain ⟨ji8, hji8⟩ : ∃ j_ : Int, (shr .u32 a0 (ji6)) = j_ := ⟨_, rfl⟩
      replace H : (some (Go.bits .or .u32 (ji5) (ji8))) = some r := by first | (rw [hji8] at H; exact H) | (simp only [hji8] at H ⊢; exact H)
      have hji8_ : (a0 / 2 ^ min (ji6).toNat 32) = ji8 := hji8
      have hji8z : (ji6) ≤ 32 → (a0 / 2 ^ (ji6).toNat) = ji8 := shr_small hji8
      obtain rfl := Option.some.inj H
      go_enter Try.func41, Try.ntmps41
      go_wp2
      go_ret
      exact ⟨by first | rfl | (simp; done) | (simp only [← hji3, ← hji5, ← hji6, ← hji8] <;> (first | rfl | simp)) | (simp [*]; done), by repeat (first | exact Drawn0.refl _ | apply Drawn0.step)⟩
    · rw [if_neg c7] at H
      exact absurd H (by simp)
  · rw [if_neg c4] at H
    exact absurd H (by simp)

/-! ### bits_Right32: function 10 -/
def bits_Right32.f (a0 : Int) (a1 : Int) : Option (Int) := (bits_RotateLeft32.f a0 (wrap64 (-(Int.tmod a1 32)))).bind fun t101 => (some t101)
set_option maxHeartbeats 8000000 in
set_option maxRecDepth 100000 in
theorem bits_Right32.calls (a0 : Int) (a1 : Int) (r : Int) (w : World) (h : bits_Right32.f a0 a1 = some r) :
    Calls Try.prog 10 #[.int .u32 a0, .int .i64 a1] w fun e w' => e = .returned (.int .u32 r) ∧ Drawn0 w w' := by
  have H : ((bits_RotateLeft32.f a0 (wrap64 (-(Int.tmod a1 32)))).bind fun t101 => (some t101)) = some r := h
  clear h
  replace H := Option.bind_eq_some_iff.mp H
  obtain ⟨t101, A30, H⟩ := H
  replace H : (some t101) = some r := H
  have A3 := Aside0.mk A30
  clear A30
  obtain rfl := Option.some.inj H
  go_enter Try.func10, Try.ntmps10
  go_wp2_with (first | ((with_reducible refine gate_callee (f := 41) rfl ?_); refine goesL_ (some 9) rfl rfl Try.func41 (by kernel_rfl) rfl #[.int .u32 a0, .int .i64 (wrap64 (-(Int.tmod a1 32)))] rfl (by (try simp only [List.map_toArray, List.map_cons, List.map_nil]); first | done | rfl | (simp only [List.length_drop, List.length_take]; rfl)) ?_; (with_reducible refine (bits_RotateLeft32.calls a0 (wrap64 (-(Int.tmod a1 32))) t101 _ A3.out).mono ?_); rintro e w' ⟨rfl, ⟨nd, rfl⟩⟩; refine ⟨_, rfl, ?_⟩))
  go_ret
  exact ⟨by first | rfl | (simp; done) | (simp [*]; done), by repeat (first | exact Drawn0.refl _ | apply Drawn0.step)⟩

/-! ### ullagelaw01_awake: function 9 -/
def ullagelaw01_awake.f  : Option (Bool) := (bits_Right32.f 1 1).bind fun t102 => (some (t102 == 2147483648))
set_option maxHeartbeats 8000000 in
set_option maxRecDepth 100000 in
theorem ullagelaw01_awake.calls  (r : Bool) (w : World) (h : ullagelaw01_awake.f  = some r) :
    Calls Try.prog 9 #[] w fun e w' => e = .returned (.bool r) ∧ Drawn0 w w' := by
  have H : ((bits_Right32.f 1 1).bind fun t102 => (some (t102 == 2147483648))) = some r := h
  clear h
  replace H := Option.bind_eq_some_iff.mp H
  obtain ⟨t102, A10, H⟩ := H
  replace H : (some (t102 == 2147483648)) = some r := H
  have A1 := Aside0.mk A10
  clear A10
  obtain rfl := Option.some.inj H
  go_enter Try.func9, Try.ntmps9
  go_wp2_with (first | ((with_reducible refine gate_callee (f := 10) rfl ?_); refine goesL_ (some 1) rfl rfl Try.func10 (by kernel_rfl) rfl #[.int .u32 1, .int .i64 1] rfl (by (try simp only [List.map_toArray, List.map_cons, List.map_nil]); first | done | rfl | (simp only [List.length_drop, List.length_take]; rfl)) ?_; (with_reducible refine (bits_Right32.calls 1 1 t102 _ A1.out).mono ?_); rintro e w' ⟨rfl, ⟨nd, rfl⟩⟩; refine ⟨_, rfl, ?_⟩))
  go_ret
  exact ⟨by first | rfl | (simp; done) | (simp [*]; done), by repeat (first | exact Drawn0.refl _ | apply Drawn0.step)⟩

/-! ### ullageref01_Right32: function 11 -/
def ullageref01_Right32.f (a0 : Int) (a1 : Int) : Option (Int) := if (Int.tmod (wrap64 ((Int.tmod a1 32) + 32)) 32) = 0 then (some a0) else (if 0 ≤ (Int.tmod (wrap64 ((Int.tmod a1 32) + 32)) 32) then (if 0 ≤ (wrap64 (32 - (Int.tmod (wrap64 ((Int.tmod a1 32) + 32)) 32))) then (some (Go.bits .or .u32 (shr .u32 a0 (Int.tmod (wrap64 ((Int.tmod a1 32) + 32)) 32)) (shl .u32 a0 (wrap64 (32 - (Int.tmod (wrap64 ((Int.tmod a1 32) + 32)) 32)))))) else (none)) else (none))
set_option maxHeartbeats 8000000 in
set_option maxRecDepth 100000 in
theorem ullageref01_Right32.calls (a0 : Int) (a1 : Int) (r : Int) (w : World) (h : ullageref01_Right32.f a0 a1 = some r) :
    Calls Try.prog 11 #[.int .u32 a0, .int .i64 a1] w fun e w' => e = .returned (.int .u32 r) ∧ Drawn0 w w' := by
  have H : (if (Int.tmod (wrap64 ((Int.tmod a1 32) + 32)) 32) = 0 then (some a0) else (if 0 ≤ (Int.tmod (wrap64 ((Int.tmod a1 32) + 32)) 32) then (if 0 ≤ (wrap64 (32 - (Int.tmod (wrap64 ((Int.tmod a1 32) + 32)) 32))) then (some (Go.bits .or .u32 (shr .u32 a0 (Int.tmod (wrap64 ((Int.tmod a1 32) + 32)) 32)) (shl .u32 a0 (wrap64 (32 - (Int.tmod (wrap64 ((Int.tmod a1 32) + 32)) 32)))))) else (none)) else (none))) = some r := h
  clear h
  by_cases c3 : (Int.tmod (wrap64 ((Int.tmod a1 32) + 32)) 32) = 0
  · rw [if_pos c3] at H
    have c3b0 : ((Int.tmod (wrap64 ((Int.tmod a1 32) + 32)) 32) == 0) = true := beq_iff_eq.mpr c3
    have c3b1 : ((Int.tmod (wrap64 ((Int.tmod a1 32) + 32)) 32) != 0) = false := bne_eq_false_iff_eq.mpr c3
    clear c3
    obtain rfl := Option.some.inj H
    go_enter Try.func11, Try.ntmps11
    go_wp2
    repeat (go_quiet (fail); try go_wp2)
    go_ret
    exact ⟨by first | rfl | (simp; done) | (simp [*]; done), by repeat (first | exact Drawn0.refl _ | apply Drawn0.step)⟩
  · rw [if_neg c3] at H
    have c3b0 : ((Int.tmod (wrap64 ((Int.tmod a1 32) + 32)) 32) == 0) = false := beq_eq_false_iff_ne.mpr c3
    have c3b1 : ((Int.tmod (wrap64 ((Int.tmod a1 32) + 32)) 32) != 0) = true := bne_iff_ne.mpr c3
    obtain ⟨ji4, hji4⟩ : ∃ j_ : Int, (Int.tmod (wrap64 ((Int.tmod a1 32) + 32)) 32) = j_ := ⟨_, rfl⟩
    replace H : (if 0 ≤ (ji4) then (if 0 ≤ (wrap64 (32 - (ji4))) then (some (Go.bits .or .u32 (shr .u32 a0 (ji4)) (shl .u32 a0 (wrap64 (32 - (ji4)))))) else (none)) else (none)) = some r := by first | (rw [hji4] at H; exact H) | (simp only [hji4] at H ⊢; exact H)
    (try rw [hji4] at c3b0)
    (try rw [hji4] at c3b1)
    by_cases c5 : 0 ≤ (ji4)
    · rw [if_pos c5] at H
      have c5b0 := eq_true c5
      have c5b1 : decide (0 ≤ (ji4)) = true := decide_eq_true c5
      clear c5
      obtain ⟨ji6, hji6⟩ : ∃ j_ : Int, (shr .u32 a0 (ji4)) = j_ := ⟨_, rfl⟩
      replace H : (if 0 ≤ (wrap64 (32 - (ji4))) then (some (Go.bits .or .u32 (ji6) (shl .u32 a0 (wrap64 (32 - (ji4)))))) else (none)) = some r := by first | (rw [hji6] at H; exact H) | (simp only [hji6] at H ⊢; exact H)
      have hji6_ : (a0 / 2 ^ min (ji4).toNat 32) = ji6 := hji6
      have hji6z : (ji4) ≤ 32 → (a0 / 2 ^ (ji4).toNat) = ji6 := shr_small hji6
      obtain ⟨ji7, hji7⟩ : ∃ j_ : Int, (wrap64 (32 - (ji4))) = j_ := ⟨_, rfl⟩
      replace H : (if 0 ≤ (ji7) then (some (Go.bits .or .u32 (ji6) (shl .u32 a0 (ji7)))) else (none)) = some r := by first | (rw [hji7] at H; exact H) | (simp only [hji7] at H ⊢; exact H)
      have hji7w : (IntKind.i64.wrap (32 - (ji4))) = ji7 := (i64_w _).trans hji7
      by_cases c8 : 0 ≤ (ji7)
      · rw [if_pos c8] at H
        have c8b0 := eq_true c8
        have c8b1 : decide (0 ≤ (ji7)) = true := decide_eq_true c8
        clear c8
        obtain ⟨ji9, hji9⟩ : ∃ j_ : Int, (shl .u32 a0 (ji7)) = j_ := ⟨_, rfl⟩
        replace H : (some (Go.bits .or .u32 (ji6) (ji9))) = some r := by first | (rw [hji9] at H; exact H) | (simp only [hji9] at H ⊢; exact H)
        have hji9_ : (IntKind.u32.wrap (a0 * 2 ^ min (ji7).toNat 32)) = ji9 := hji9
        have hji9z : (ji7) ≤ 32 → (IntKind.u32.wrap (a0 * 2 ^ (ji7).toNat)) = ji9 := shl_small hji9
        obtain rfl := Option.some.inj H
        go_enter Try.func11, Try.ntmps11
        go_wp2
        repeat (go_quiet (fail); try go_wp2)
        go_ret
        exact ⟨by first | rfl | (simp; done) | (simp only [← hji4, ← hji6, ← hji7, ← hji9] <;> (first | rfl | simp)) | (simp [*]; done), by repeat (first | exact Drawn0.refl _ | apply Drawn0.step)⟩
      · rw [if_neg c8] at H
        exact absurd H (by simp)
    · rw [if_neg c5] at H
      exact absurd H (by simp)

/-! ### bits_RotateLeft64: function 42 -/
def bits_RotateLeft64.f (a0 : Int) (a1 : Int) : Option (Int) := if 0 ≤ (Go.bits .and .u64 (IntKind.u64.wrap (a1)) 63) then (if 0 ≤ (IntKind.u64.wrap (64 - (Go.bits .and .u64 (IntKind.u64.wrap (a1)) 63))) then (some (Go.bits .or .u64 (shl .u64 a0 (Go.bits .and .u64 (IntKind.u64.wrap (a1)) 63)) (shr .u64 a0 (IntKind.u64.wrap (64 - (Go.bits .and .u64 (IntKind.u64.wrap (a1)) 63)))))) else (none)) else (none)
set_option maxHeartbeats 8000000 in
set_option maxRecDepth 100000 in
theorem bits_RotateLeft64.calls (a0 : Int) (a1 : Int) (r : Int) (w : World) (h : bits_RotateLeft64.f a0 a1 = some r) :
    Calls Try.prog 42 #[.int .u64 a0, .int .i64 a1] w fun e w' => e = .returned (.int .u64 r) ∧ Drawn0 w w' := by
  have H : (if 0 ≤ (Go.bits .and .u64 (IntKind.u64.wrap (a1)) 63) then (if 0 ≤ (IntKind.u64.wrap (64 - (Go.bits .and .u64 (IntKind.u64.wrap (a1)) 63))) then (some (Go.bits .or .u64 (shl .u64 a0 (Go.bits .and .u64 (IntKind.u64.wrap (a1)) 63)) (shr .u64 a0 (IntKind.u64.wrap (64 - (Go.bits .and .u64 (IntKind.u64.wrap (a1)) 63)))))) else (none)) else (none)) = some r := h
  clear h
  obtain ⟨ji3, hji3⟩ : ∃ j_ : Int, (Go.bits .and .u64 (IntKind.u64.wrap (a1)) 63) = j_ := ⟨_, rfl⟩
  replace H : (if 0 ≤ (ji3) then (if 0 ≤ (IntKind.u64.wrap (64 - (ji3))) then (some (Go.bits .or .u64 (shl .u64 a0 (ji3)) (shr .u64 a0 (IntKind.u64.wrap (64 - (ji3)))))) else (none)) else (none)) = some r := by first | (rw [hji3] at H; exact H) | (simp only [hji3] at H ⊢; exact H)
  by_cases c4 : 0 ≤ (ji3)
  · rw [if_pos c4] at H
    have c4b0 := eq_true c4
    have c4b1 : decide (0 ≤ (ji3)) = true := decide_eq_true c4
    clear c4
    obtain ⟨ji5, hji5⟩ : ∃ j_ : Int, (shl .u64 a0 (ji3)) = j_ := ⟨_, rfl⟩
    replace H : (if 0 ≤ (IntKind.u64.wrap (64 - (ji3))) then (some (Go.bits .or .u64 (ji5) (shr .u64 a0 (IntKind.u64.wrap (64 - (ji3)))))) else (none)) = some r := by first | (rw [hji5] at H; exact H) | (simp only [hji5] at H ⊢; exact H)
    have hji5_ : (IntKind.u64.wrap (a0 * 2 ^ min (ji3).toNat 64)) = ji5 := hji5
    have hji5z : (ji3) ≤ 64 → (IntKind.u64.wrap (a0 * 2 ^ (ji3).toNat)) = ji5 := shl_small hji5
    obtain ⟨ji6, hji6⟩ : ∃ j_ : Int, (IntKind.u64.wrap (64 - (ji3))) = j_ := ⟨_, rfl⟩
    replace H : (if 0 ≤ (ji6) then (some (Go.bits .or .u64 (ji5) (shr .u64 a0 (ji6)))) else (none)) = some r := by first | (rw [hji6] at H; exact H) | (simp only [hji6] at H ⊢; exact H)
    by_cases c7 : 0 ≤ (ji6)
    · rw [if_pos c7] at H
      have c7b0 := eq_true c7
      have c7b1 : decide (0 ≤ (ji6)) = true := decide_eq_true c7
      clear c7
      obtain ⟨ji8, hji8⟩ : ∃ j_ : Int, (shr .u64 a0 (ji6)) = j_ := ⟨_, rfl⟩
      replace H : (some (Go.bits .or .u64 (ji5) (ji8))) = some r := by first | (rw [hji8] at H; exact H) | (simp only [hji8] at H ⊢; exact H)
      have hji8_ : (a0 / 2 ^ min (ji6).toNat 64) = ji8 := hji8
      have hji8z : (ji6) ≤ 64 → (a0 / 2 ^ (ji6).toNat) = ji8 := shr_small hji8
      obtain rfl := Option.some.inj H
      go_enter Try.func42, Try.ntmps42
      go_wp2
      go_ret
      exact ⟨by first | rfl | (simp; done) | (simp only [← hji3, ← hji5, ← hji6, ← hji8] <;> (first | rfl | simp)) | (simp [*]; done), by repeat (first | exact Drawn0.refl _ | apply Drawn0.step)⟩
    · rw [if_neg c7] at H
      exact absurd H (by simp)
  · rw [if_neg c4] at H
    exact absurd H (by simp)

/-! ### bits_Right64: function 12 -/
def bits_Right64.f (a0 : Int) (a1 : Int) : Option (Int) := (bits_RotateLeft64.f a0 (wrap64 (-(Int.tmod a1 64)))).bind fun t103 => (some t103)
set_option maxHeartbeats 8000000 in
set_option maxRecDepth 100000 in
theorem bits_Right64.calls (a0 : Int) (a1 : Int) (r : Int) (w : World) (h : bits_Right64.f a0 a1 = some r) :
    Calls Try.prog 12 #[.int .u64 a0, .int .i64 a1] w fun e w' => e = .returned (.int .u64 r) ∧ Drawn0 w w' := by
  have H : ((bits_RotateLeft64.f a0 (wrap64 (-(Int.tmod a1 64)))).bind fun t103 => (some t103)) = some r := h
  clear h
  replace H := Option.bind_eq_some_iff.mp H
  obtain ⟨t103, A30, H⟩ := H
  replace H : (some t103) = some r := H
  have A3 := Aside0.mk A30
  clear A30
  obtain rfl := Option.some.inj H
  go_enter Try.func12, Try.ntmps12
  go_wp2_with (first | ((with_reducible refine gate_callee (f := 42) rfl ?_); refine goesL_ (some 9) rfl rfl Try.func42 (by kernel_rfl) rfl #[.int .u64 a0, .int .i64 (wrap64 (-(Int.tmod a1 64)))] rfl (by (try simp only [List.map_toArray, List.map_cons, List.map_nil]); first | done | rfl | (simp only [List.length_drop, List.length_take]; rfl)) ?_; (with_reducible refine (bits_RotateLeft64.calls a0 (wrap64 (-(Int.tmod a1 64))) t103 _ A3.out).mono ?_); rintro e w' ⟨rfl, ⟨nd, rfl⟩⟩; refine ⟨_, rfl, ?_⟩))
  go_ret
  exact ⟨by first | rfl | (simp; done) | (simp [*]; done), by repeat (first | exact Drawn0.refl _ | apply Drawn0.step)⟩

/-! ### ullageref01_Right64: function 13 -/
def ullageref01_Right64.f (a0 : Int) (a1 : Int) : Option (Int) := if (Int.tmod (wrap64 ((Int.tmod a1 64) + 64)) 64) = 0 then (some a0) else (if 0 ≤ (Int.tmod (wrap64 ((Int.tmod a1 64) + 64)) 64) then (if 0 ≤ (wrap64 (64 - (Int.tmod (wrap64 ((Int.tmod a1 64) + 64)) 64))) then (some (Go.bits .or .u64 (shr .u64 a0 (Int.tmod (wrap64 ((Int.tmod a1 64) + 64)) 64)) (shl .u64 a0 (wrap64 (64 - (Int.tmod (wrap64 ((Int.tmod a1 64) + 64)) 64)))))) else (none)) else (none))
set_option maxHeartbeats 8000000 in
set_option maxRecDepth 100000 in
theorem ullageref01_Right64.calls (a0 : Int) (a1 : Int) (r : Int) (w : World) (h : ullageref01_Right64.f a0 a1 = some r) :
    Calls Try.prog 13 #[.int .u64 a0, .int .i64 a1] w fun e w' => e = .returned (.int .u64 r) ∧ Drawn0 w w' := by
  have H : (if (Int.tmod (wrap64 ((Int.tmod a1 64) + 64)) 64) = 0 then (some a0) else (if 0 ≤ (Int.tmod (wrap64 ((Int.tmod a1 64) + 64)) 64) then (if 0 ≤ (wrap64 (64 - (Int.tmod (wrap64 ((Int.tmod a1 64) + 64)) 64))) then (some (Go.bits .or .u64 (shr .u64 a0 (Int.tmod (wrap64 ((Int.tmod a1 64) + 64)) 64)) (shl .u64 a0 (wrap64 (64 - (Int.tmod (wrap64 ((Int.tmod a1 64) + 64)) 64)))))) else (none)) else (none))) = some r := h
  clear h
  by_cases c3 : (Int.tmod (wrap64 ((Int.tmod a1 64) + 64)) 64) = 0
  · rw [if_pos c3] at H
    have c3b0 : ((Int.tmod (wrap64 ((Int.tmod a1 64) + 64)) 64) == 0) = true := beq_iff_eq.mpr c3
    have c3b1 : ((Int.tmod (wrap64 ((Int.tmod a1 64) + 64)) 64) != 0) = false := bne_eq_false_iff_eq.mpr c3
    clear c3
    obtain rfl := Option.some.inj H
    go_enter Try.func13, Try.ntmps13
    go_wp2
    repeat (go_quiet (fail); try go_wp2)
    go_ret
    exact ⟨by first | rfl | (simp; done) | (simp [*]; done), by repeat (first | exact Drawn0.refl _ | apply Drawn0.step)⟩
  · rw [if_neg c3] at H
    have c3b0 : ((Int.tmod (wrap64 ((Int.tmod a1 64) + 64)) 64) == 0) = false := beq_eq_false_iff_ne.mpr c3
    have c3b1 : ((Int.tmod (wrap64 ((Int.tmod a1 64) + 64)) 64) != 0) = true := bne_iff_ne.mpr c3
    obtain ⟨ji4, hji4⟩ : ∃ j_ : Int, (Int.tmod (wrap64 ((Int.tmod a1 64) + 64)) 64) = j_ := ⟨_, rfl⟩
    replace H : (if 0 ≤ (ji4) then (if 0 ≤ (wrap64 (64 - (ji4))) then (some (Go.bits .or .u64 (shr .u64 a0 (ji4)) (shl .u64 a0 (wrap64 (64 - (ji4)))))) else (none)) else (none)) = some r := by first | (rw [hji4] at H; exact H) | (simp only [hji4] at H ⊢; exact H)
    (try rw [hji4] at c3b0)
    (try rw [hji4] at c3b1)
    by_cases c5 : 0 ≤ (ji4)
    · rw [if_pos c5] at H
      have c5b0 := eq_true c5
      have c5b1 : decide (0 ≤ (ji4)) = true := decide_eq_true c5
      clear c5
      obtain ⟨ji6, hji6⟩ : ∃ j_ : Int, (shr .u64 a0 (ji4)) = j_ := ⟨_, rfl⟩
      replace H : (if 0 ≤ (wrap64 (64 - (ji4))) then (some (Go.bits .or .u64 (ji6) (shl .u64 a0 (wrap64 (64 - (ji4)))))) else (none)) = some r := by first | (rw [hji6] at H; exact H) | (simp only [hji6] at H ⊢; exact H)
      have hji6_ : (a0 / 2 ^ min (ji4).toNat 64) = ji6 := hji6
      have hji6z : (ji4) ≤ 64 → (a0 / 2 ^ (ji4).toNat) = ji6 := shr_small hji6
      obtain ⟨ji7, hji7⟩ : ∃ j_ : Int, (wrap64 (64 - (ji4))) = j_ := ⟨_, rfl⟩
      replace H : (if 0 ≤ (ji7) then (some (Go.bits .or .u64 (ji6) (shl .u64 a0 (ji7)))) else (none)) = some r := by first | (rw [hji7] at H; exact H) | (simp only [hji7] at H ⊢; exact H)
      have hji7w : (IntKind.i64.wrap (64 - (ji4))) = ji7 := (i64_w _).trans hji7
      by_cases c8 : 0 ≤ (ji7)
      · rw [if_pos c8] at H
        have c8b0 := eq_true c8
        have c8b1 : decide (0 ≤ (ji7)) = true := decide_eq_true c8
        clear c8
        obtain ⟨ji9, hji9⟩ : ∃ j_ : Int, (shl .u64 a0 (ji7)) = j_ := ⟨_, rfl⟩
        replace H : (some (Go.bits .or .u64 (ji6) (ji9))) = some r := by first | (rw [hji9] at H; exact H) | (simp only [hji9] at H ⊢; exact H)
        have hji9_ : (IntKind.u64.wrap (a0 * 2 ^ min (ji7).toNat 64)) = ji9 := hji9
        have hji9z : (ji7) ≤ 64 → (IntKind.u64.wrap (a0 * 2 ^ (ji7).toNat)) = ji9 := shl_small hji9
        obtain rfl := Option.some.inj H
        go_enter Try.func13, Try.ntmps13
        go_wp2
        repeat (go_quiet (fail); try go_wp2)
        go_ret
        exact ⟨by first | rfl | (simp; done) | (simp only [← hji4, ← hji6, ← hji7, ← hji9] <;> (first | rfl | simp)) | (simp [*]; done), by repeat (first | exact Drawn0.refl _ | apply Drawn0.step)⟩
      · rw [if_neg c8] at H
        exact absurd H (by simp)
    · rw [if_neg c5] at H
      exact absurd H (by simp)

/-! ### ullagelaw01_BitsTurn: function 3 -/
def ullagelaw01_BitsTurn.f (a0 : Int) (a1 : Int) (a2 : Int) : Option (Bool) := (ullagelaw01_awake.f).bind fun t104 => (if t104 = true then ((bits_Right32.f a0 a2).bind fun t105 => ((ullageref01_Right32.f a0 a2).bind fun t106 => (if t105 = t106 then ((bits_Right64.f a1 a2).bind fun t107 => ((ullageref01_Right64.f a1 a2).bind fun t108 => (if t107 = t108 then ((bits_Right32.f a0 (Int.tmod a2 32)).bind fun t109 => ((bits_Right32.f t109 (wrap64 (-(Int.tmod a2 32)))).bind fun t110 => (if t110 = a0 then ((bits_Right64.f a1 (Int.tmod a2 64)).bind fun t111 => ((bits_Right64.f t111 (wrap64 (-(Int.tmod a2 64)))).bind fun t112 => (some (t112 == a1)))) else (some false)))) else (some false)))) else (some false)))) else (some false))
set_option maxHeartbeats 8000000 in
set_option maxRecDepth 100000 in
theorem ullagelaw01_BitsTurn.calls (a0 : Int) (a1 : Int) (a2 : Int) (r : Bool) (w : World) (h : ullagelaw01_BitsTurn.f a0 a1 a2 = some r) :
    Calls Try.prog 3 #[.int .u32 a0, .int .u64 a1, .int .i64 a2] w fun e w' => e = .returned (.bool r) ∧ Drawn0 w w' := by
  have H : ((ullagelaw01_awake.f).bind fun t104 => (if t104 = true then ((bits_Right32.f a0 a2).bind fun t105 => ((ullageref01_Right32.f a0 a2).bind fun t106 => (if t105 = t106 then ((bits_Right64.f a1 a2).bind fun t107 => ((ullageref01_Right64.f a1 a2).bind fun t108 => (if t107 = t108 then ((bits_Right32.f a0 (Int.tmod a2 32)).bind fun t109 => ((bits_Right32.f t109 (wrap64 (-(Int.tmod a2 32)))).bind fun t110 => (if t110 = a0 then ((bits_Right64.f a1 (Int.tmod a2 64)).bind fun t111 => ((bits_Right64.f t111 (wrap64 (-(Int.tmod a2 64)))).bind fun t112 => (some (t112 == a1)))) else (some false)))) else (some false)))) else (some false)))) else (some false))) = some r := h
  clear h
  replace H := Option.bind_eq_some_iff.mp H
  obtain ⟨t104, A40, H⟩ := H
  replace H : (if t104 = true then ((bits_Right32.f a0 a2).bind fun t105 => ((ullageref01_Right32.f a0 a2).bind fun t106 => (if t105 = t106 then ((bits_Right64.f a1 a2).bind fun t107 => ((ullageref01_Right64.f a1 a2).bind fun t108 => (if t107 = t108 then ((bits_Right32.f a0 (Int.tmod a2 32)).bind fun t109 => ((bits_Right32.f t109 (wrap64 (-(Int.tmod a2 32)))).bind fun t110 => (if t110 = a0 then ((bits_Right64.f a1 (Int.tmod a2 64)).bind fun t111 => ((bits_Right64.f t111 (wrap64 (-(Int.tmod a2 64)))).bind fun t112 => (some (t112 == a1)))) else (some false)))) else (some false)))) else (some false)))) else (some false)) = some r := H
  have A4 := Aside0.mk A40
  clear A40
  by_cases c5 : t104 = true
  · subst c5
    have H1 : ((bits_Right32.f a0 a2).bind fun t105 => ((ullageref01_Right32.f a0 a2).bind fun t106 => (if t105 = t106 then ((bits_Right64.f a1 a2).bind fun t107 => ((ullageref01_Right64.f a1 a2).bind fun t108 => (if t107 = t108 then ((bits_Right32.f a0 (Int.tmod a2 32)).bind fun t109 => ((bits_Right32.f t109 (wrap64 (-(Int.tmod a2 32)))).bind fun t110 => (if t110 = a0 then ((bits_Right64.f a1 (Int.tmod a2 64)).bind fun t111 => ((bits_Right64.f t111 (wrap64 (-(Int.tmod a2 64)))).bind fun t112 => (some (t112 == a1)))) else (some false)))) else (some false)))) else (some false)))) = some r := by rw [if_pos rfl] at H; exact H
    clear H
    have H := H1
    clear H1
    replace H := Option.bind_eq_some_iff.mp H
    obtain ⟨t105, A60, H⟩ := H
    replace H : ((ullageref01_Right32.f a0 a2).bind fun t106 => (if t105 = t106 then ((bits_Right64.f a1 a2).bind fun t107 => ((ullageref01_Right64.f a1 a2).bind fun t108 => (if t107 = t108 then ((bits_Right32.f a0 (Int.tmod a2 32)).bind fun t109 => ((bits_Right32.f t109 (wrap64 (-(Int.tmod a2 32)))).bind fun t110 => (if t110 = a0 then ((bits_Right64.f a1 (Int.tmod a2 64)).bind fun t111 => ((bits_Right64.f t111 (wrap64 (-(Int.tmod a2 64)))).bind fun t112 => (some (t112 == a1)))) else (some false)))) else (some false)))) else (some false))) = some r := H
    have A6 := Aside0.mk A60
    clear A60
    replace H := Option.bind_eq_some_iff.mp H
    obtain ⟨t106, A70, H⟩ := H
    replace H : (if t105 = t106 then ((bits_Right64.f a1 a2).bind fun t107 => ((ullageref01_Right64.f a1 a2).bind fun t108 => (if t107 = t108 then ((bits_Right32.f a0 (Int.tmod a2 32)).bind fun t109 => ((bits_Right32.f t109 (wrap64 (-(Int.tmod a2 32)))).bind fun t110 => (if t110 = a0 then ((bits_Right64.f a1 (Int.tmod a2 64)).bind fun t111 => ((bits_Right64.f t111 (wrap64 (-(Int.tmod a2 64)))).bind fun t112 => (some (t112 == a1)))) else (some false)))) else (some false)))) else (some false)) = some r := H
    have A7 := Aside0.mk A70
    clear A70
    by_cases c8 : t105 = t106
    · rw [if_pos c8] at H
      have c8b0 : (t105 == t106) = true := beq_iff_eq.mpr c8
      have c8b1 : (t105 != t106) = false := bne_eq_false_iff_eq.mpr c8
      clear c8
      replace H := Option.bind_eq_some_iff.mp H
      obtain ⟨t107, A90, H⟩ := H
      replace H : ((ullageref01_Right64.f a1 a2).bind fun t108 => (if t107 = t108 then ((bits_Right32.f a0 (Int.tmod a2 32)).bind fun t109 => ((bits_Right32.f t109 (wrap64 (-(Int.tmod a2 32)))).bind fun t110 => (if t110 = a0 then ((bits_Right64.f a1 (Int.tmod a2 64)).bind fun t111 => ((bits_Right64.f t111 (wrap64 (-(Int.tmod a2 64)))).bind fun t112 => (some (t112 == a1)))) else (some false)))) else (some false))) = some r := H
      have A9 := Aside0.mk A90
      clear A90
      replace H := Option.bind_eq_some_iff.mp H
      obtain ⟨t108, A100, H⟩ := H
      replace H : (if t107 = t108 then ((bits_Right32.f a0 (Int.tmod a2 32)).bind fun t109 => ((bits_Right32.f t109 (wrap64 (-(Int.tmod a2 32)))).bind fun t110 => (if t110 = a0 then ((bits_Right64.f a1 (Int.tmod a2 64)).bind fun t111 => ((bits_Right64.f t111 (wrap64 (-(Int.tmod a2 64)))).bind fun t112 => (some (t112 == a1)))) else (some false)))) else (some false)) = some r := H
      have A10 := Aside0.mk A100
      clear A100
      by_cases c11 : t107 = t108
      · rw [if_pos c11] at H
        have c11b0 : (t107 == t108) = true := beq_iff_eq.mpr c11
        have c11b1 : (t107 != t108) = false := bne_eq_false_iff_eq.mpr c11
        clear c11
        replace H := Option.bind_eq_some_iff.mp H
        obtain ⟨t109, A120, H⟩ := H
        replace H : ((bits_Right32.f t109 (wrap64 (-(Int.tmod a2 32)))).bind fun t110 => (if t110 = a0 then ((bits_Right64.f a1 (Int.tmod a2 64)).bind fun t111 => ((bits_Right64.f t111 (wrap64 (-(Int.tmod a2 64)))).bind fun t112 => (some (t112 == a1)))) else (some false))) = some r := H
        have A12 := Aside0.mk A120
        clear A120
        replace H := Option.bind_eq_some_iff.mp H
        obtain ⟨t110, A130, H⟩ := H
        replace H : (if t110 = a0 then ((bits_Right64.f a1 (Int.tmod a2 64)).bind fun t111 => ((bits_Right64.f t111 (wrap64 (-(Int.tmod a2 64)))).bind fun t112 => (some (t112 == a1)))) else (some false)) = some r := H
        have A13 := Aside0.mk A130
        clear A130
        by_cases c14 : t110 = a0
        · rw [if_pos c14] at H
          have c14b0 : (t110 == a0) = true := beq_iff_eq.mpr c14
          have c14b1 : (t110 != a0) = false := bne_eq_false_iff_eq.mpr c14
          clear c14
          replace H := Option.bind_eq_some_iff.mp H
          obtain ⟨t111, A150, H⟩ := H
          replace H : ((bits_Right64.f t111 (wrap64 (-(Int.tmod a2 64)))).bind fun t112 => (some (t112 == a1))) = some r := H
          have A15 := Aside0.mk A150
          clear A150
          replace H := Option.bind_eq_some_iff.mp H
          obtain ⟨t112, A160, H⟩ := H
          replace H : (some (t112 == a1)) = some r := H
          have A16 := Aside0.mk A160
          clear A160
          obtain rfl := Option.some.inj H
          go_enter Try.func3, Try.ntmps3
          go_wp2_with (first | ((with_reducible refine gate_callee (f := 9) rfl ?_); refine goesL_ (some 7) rfl rfl Try.func9 (by kernel_rfl) rfl #[] rfl (by (try simp only [List.map_toArray, List.map_cons, List.map_nil]); first | done | rfl | (simp only [List.length_drop, List.length_take]; rfl)) ?_; (with_reducible refine (ullagelaw01_awake.calls  true _ A4.out).mono ?_); rintro e w' ⟨rfl, ⟨nd, rfl⟩⟩; refine ⟨_, rfl, ?_⟩) | ((with_reducible refine gate_callee (f := 10) rfl ?_); refine goesL_ (some 11) rfl rfl Try.func10 (by kernel_rfl) rfl #[.int .u32 a0, .int .i64 a2] rfl (by (try simp only [List.map_toArray, List.map_cons, List.map_nil]); first | done | rfl | (simp only [List.length_drop, List.length_take]; rfl)) ?_; (with_reducible refine (bits_Right32.calls a0 a2 t105 _ A6.out).mono ?_); rintro e w' ⟨rfl, ⟨nd, rfl⟩⟩; refine ⟨_, rfl, ?_⟩) | ((with_reducible refine gate_callee (f := 11) rfl ?_); refine goesL_ (some 14) rfl rfl Try.func11 (by kernel_rfl) rfl #[.int .u32 a0, .int .i64 a2] rfl (by (try simp only [List.map_toArray, List.map_cons, List.map_nil]); first | done | rfl | (simp only [List.length_drop, List.length_take]; rfl)) ?_; (with_reducible refine (ullageref01_Right32.calls a0 a2 t106 _ A7.out).mono ?_); rintro e w' ⟨rfl, ⟨nd, rfl⟩⟩; refine ⟨_, rfl, ?_⟩) | (go_at_call 12; (with_reducible refine (bits_Right64.calls a1 a2 t107 _ A9.out).mono ?_); rintro e w' ⟨rfl, ⟨nd, rfl⟩⟩) | (go_at_call 13; (with_reducible refine (ullageref01_Right64.calls a1 a2 t108 _ A10.out).mono ?_); rintro e w' ⟨rfl, ⟨nd, rfl⟩⟩) | (go_at_call 10; (with_reducible refine (bits_Right32.calls a0 (Int.tmod a2 32) t109 _ A12.out).mono ?_); rintro e w' ⟨rfl, ⟨nd, rfl⟩⟩) | (go_at_call 10; (with_reducible refine (bits_Right32.calls t109 (wrap64 (-(Int.tmod a2 32))) t110 _ A13.out).mono ?_); rintro e w' ⟨rfl, ⟨nd, rfl⟩⟩) | (go_at_call 12; (with_reducible refine (bits_Right64.calls a1 (Int.tmod a2 64) t111 _ A15.out).mono ?_); rintro e w' ⟨rfl, ⟨nd, rfl⟩⟩) | (go_at_call 12; (with_reducible refine (bits_Right64.calls t111 (wrap64 (-(Int.tmod a2 64))) t112 _ A16.out).mono ?_); rintro e w' ⟨rfl, ⟨nd, rfl⟩⟩))
          go_ret
          exact ⟨by first | rfl | (simp; done) | (simp [*]; done), by repeat (first | exact Drawn0.refl _ | apply Drawn0.step)⟩
        · rw [if_neg c14] at H
          have c14b0 : (t110 == a0) = false := beq_eq_false_iff_ne.mpr c14
          have c14b1 : (t110 != a0) = true := bne_iff_ne.mpr c14
          obtain rfl := Option.some.inj H
          go_enter Try.func3, Try.ntmps3
          go_wp2_with (first | ((with_reducible refine gate_callee (f := 9) rfl ?_); refine goesL_ (some 7) rfl rfl Try.func9 (by kernel_rfl) rfl #[] rfl (by (try simp only [List.map_toArray, List.map_cons, List.map_nil]); first | done | rfl | (simp only [List.length_drop, List.length_take]; rfl)) ?_; (with_reducible refine (ullagelaw01_awake.calls  true _ A4.out).mono ?_); rintro e w' ⟨rfl, ⟨nd, rfl⟩⟩; refine ⟨_, rfl, ?_⟩) | ((with_reducible refine gate_callee (f := 10) rfl ?_); refine goesL_ (some 11) rfl rfl Try.func10 (by kernel_rfl) rfl #[.int .u32 a0, .int .i64 a2] rfl (by (try simp only [List.map_toArray, List.map_cons, List.map_nil]); first | done | rfl | (simp only [List.length_drop, List.length_take]; rfl)) ?_; (with_reducible refine (bits_Right32.calls a0 a2 t105 _ A6.out).mono ?_); rintro e w' ⟨rfl, ⟨nd, rfl⟩⟩; refine ⟨_, rfl, ?_⟩) | ((with_reducible refine gate_callee (f := 11) rfl ?_); refine goesL_ (some 14) rfl rfl Try.func11 (by kernel_rfl) rfl #[.int .u32 a0, .int .i64 a2] rfl (by (try simp only [List.map_toArray, List.map_cons, List.map_nil]); first | done | rfl | (simp only [List.length_drop, List.length_take]; rfl)) ?_; (with_reducible refine (ullageref01_Right32.calls a0 a2 t106 _ A7.out).mono ?_); rintro e w' ⟨rfl, ⟨nd, rfl⟩⟩; refine ⟨_, rfl, ?_⟩) | (go_at_call 12; (with_reducible refine (bits_Right64.calls a1 a2 t107 _ A9.out).mono ?_); rintro e w' ⟨rfl, ⟨nd, rfl⟩⟩) | (go_at_call 13; (with_reducible refine (ullageref01_Right64.calls a1 a2 t108 _ A10.out).mono ?_); rintro e w' ⟨rfl, ⟨nd, rfl⟩⟩) | (go_at_call 10; (with_reducible refine (bits_Right32.calls a0 (Int.tmod a2 32) t109 _ A12.out).mono ?_); rintro e w' ⟨rfl, ⟨nd, rfl⟩⟩) | (go_at_call 10; (with_reducible refine (bits_Right32.calls t109 (wrap64 (-(Int.tmod a2 32))) t110 _ A13.out).mono ?_); rintro e w' ⟨rfl, ⟨nd, rfl⟩⟩))
          go_ret
          exact ⟨by first | rfl | (simp; done) | (simp [*]; done), by repeat (first | exact Drawn0.refl _ | apply Drawn0.step)⟩
      · rw [if_neg c11] at H
        have c11b0 : (t107 == t108) = false := beq_eq_false_iff_ne.mpr c11
        have c11b1 : (t107 != t108) = true := bne_iff_ne.mpr c11
        obtain rfl := Option.some.inj H
        go_enter Try.func3, Try.ntmps3
        go_wp2_with (first | ((with_reducible refine gate_callee (f := 9) rfl ?_); refine goesL_ (some 7) rfl rfl Try.func9 (by kernel_rfl) rfl #[] rfl (by (try simp only [List.map_toArray, List.map_cons, List.map_nil]); first | done | rfl | (simp only [List.length_drop, List.length_take]; rfl)) ?_; (with_reducible refine (ullagelaw01_awake.calls  true _ A4.out).mono ?_); rintro e w' ⟨rfl, ⟨nd, rfl⟩⟩; refine ⟨_, rfl, ?_⟩) | ((with_reducible refine gate_callee (f := 10) rfl ?_); refine goesL_ (some 11) rfl rfl Try.func10 (by kernel_rfl) rfl #[.int .u32 a0, .int .i64 a2] rfl (by (try simp only [List.map_toArray, List.map_cons, List.map_nil]); first | done | rfl | (simp only [List.length_drop, List.length_take]; rfl)) ?_; (with_reducible refine (bits_Right32.calls a0 a2 t105 _ A6.out).mono ?_); rintro e w' ⟨rfl, ⟨nd, rfl⟩⟩; refine ⟨_, rfl, ?_⟩) | ((with_reducible refine gate_callee (f := 11) rfl ?_); refine goesL_ (some 14) rfl rfl Try.func11 (by kernel_rfl) rfl #[.int .u32 a0, .int .i64 a2] rfl (by (try simp only [List.map_toArray, List.map_cons, List.map_nil]); first | done | rfl | (simp only [List.length_drop, List.length_take]; rfl)) ?_; (with_reducible refine (ullageref01_Right32.calls a0 a2 t106 _ A7.out).mono ?_); rintro e w' ⟨rfl, ⟨nd, rfl⟩⟩; refine ⟨_, rfl, ?_⟩) | (go_at_call 12; (with_reducible refine (bits_Right64.calls a1 a2 t107 _ A9.out).mono ?_); rintro e w' ⟨rfl, ⟨nd, rfl⟩⟩) | (go_at_call 13; (with_reducible refine (ullageref01_Right64.calls a1 a2 t108 _ A10.out).mono ?_); rintro e w' ⟨rfl, ⟨nd, rfl⟩⟩))
        go_ret
        exact ⟨by first | rfl | (simp; done) | (simp [*]; done), by repeat (first | exact Drawn0.refl _ | apply Drawn0.step)⟩
    · rw [if_neg c8] at H
      have c8b0 : (t105 == t106) = false := beq_eq_false_iff_ne.mpr c8
      have c8b1 : (t105 != t106) = true := bne_iff_ne.mpr c8
      obtain rfl := Option.some.inj H
      go_enter Try.func3, Try.ntmps3
      go_wp2_with (first | ((with_reducible refine gate_callee (f := 9) rfl ?_); refine goesL_ (some 7) rfl rfl Try.func9 (by kernel_rfl) rfl #[] rfl (by (try simp only [List.map_toArray, List.map_cons, List.map_nil]); first | done | rfl | (simp only [List.length_drop, List.length_take]; rfl)) ?_; (with_reducible refine (ullagelaw01_awake.calls  true _ A4.out).mono ?_); rintro e w' ⟨rfl, ⟨nd, rfl⟩⟩; refine ⟨_, rfl, ?_⟩) | ((with_reducible refine gate_callee (f := 10) rfl ?_); refine goesL_ (some 11) rfl rfl Try.func10 (by kernel_rfl) rfl #[.int .u32 a0, .int .i64 a2] rfl (by (try simp only [List.map_toArray, List.map_cons, List.map_nil]); first | done | rfl | (simp only [List.length_drop, List.length_take]; rfl)) ?_; (with_reducible refine (bits_Right32.calls a0 a2 t105 _ A6.out).mono ?_); rintro e w' ⟨rfl, ⟨nd, rfl⟩⟩; refine ⟨_, rfl, ?_⟩) | ((with_reducible refine gate_callee (f := 11) rfl ?_); refine goesL_ (some 14) rfl rfl Try.func11 (by kernel_rfl) rfl #[.int .u32 a0, .int .i64 a2] rfl (by (try simp only [List.map_toArray, List.map_cons, List.map_nil]); first | done | rfl | (simp only [List.length_drop, List.length_take]; rfl)) ?_; (with_reducible refine (ullageref01_Right32.calls a0 a2 t106 _ A7.out).mono ?_); rintro e w' ⟨rfl, ⟨nd, rfl⟩⟩; refine ⟨_, rfl, ?_⟩))
      go_ret
      exact ⟨by first | rfl | (simp; done) | (simp [*]; done), by repeat (first | exact Drawn0.refl _ | apply Drawn0.step)⟩
  · replace c5 := Bool.eq_false_iff.mpr c5
    subst c5
    have H1 : (some false) = some r := by rw [if_neg (show ¬ (false = true) by decide)] at H; exact H
    clear H
    have H := H1
    clear H1
    obtain rfl := Option.some.inj H
    go_enter Try.func3, Try.ntmps3
    go_wp2_with (first | ((with_reducible refine gate_callee (f := 9) rfl ?_); refine goesL_ (some 7) rfl rfl Try.func9 (by kernel_rfl) rfl #[] rfl (by (try simp only [List.map_toArray, List.map_cons, List.map_nil]); first | done | rfl | (simp only [List.length_drop, List.length_take]; rfl)) ?_; (with_reducible refine (ullagelaw01_awake.calls  false _ A4.out).mono ?_); rintro e w' ⟨rfl, ⟨nd, rfl⟩⟩; refine ⟨_, rfl, ?_⟩))
    go_ret
    exact ⟨by first | rfl | (simp; done) | (simp [*]; done), by repeat (first | exact Drawn0.refl _ | apply Drawn0.step)⟩

/-- THE ONE PURE STATEMENT of ullagelaw01_BitsTurn: yours. -/
def ullagelaw01_BitsTurn.Pure : Prop := ∀ (a0 : Int) (a1 : Int) (a2 : Int), (Lit.int .u32 a0).wf = true → (Lit.int .u64 a1).wf = true → (Lit.int .i64 a2).wf = true → ullagelaw01_BitsTurn.f a0 a1 a2 = some true
theorem ullagelaw01_BitsTurn.walk (P : ullagelaw01_BitsTurn.Pure) (a0 : Int) (a1 : Int) (a2 : Int) (w : World) (w0 : (Lit.int .u32 a0).wf = true) (w1 : (Lit.int .u64 a1).wf = true) (w2 : (Lit.int .i64 a2).wf = true) :
    Calls Try.prog 3 #[.int .u32 a0, .int .u64 a1, .int .i64 a2] w fun e w' => e = .returned (.bool true) ∧ Below w.heap.size w w' := by
  have h := P a0 a1 a2 w0 w1 w2
  refine (ullagelaw01_BitsTurn.calls a0 a1 a2 true w h).mono ?_
  rintro e w' ⟨rfl, hd⟩
  exact ⟨rfl, hd.below⟩

end Go.Proofs.Ytcbogkpgkdijaaa.PBitsTurn
