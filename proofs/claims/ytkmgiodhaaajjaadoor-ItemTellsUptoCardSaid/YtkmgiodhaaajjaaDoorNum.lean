/- Numbers: wraps and bits of whole numbers. No program is named here. -/
import Derived.WalkKit
set_option linter.unusedVariables false
set_option linter.unusedSimpArgs false
namespace Go.Proofs.YtkmgiodhaaajjaaDoor.Num
open Go.RowKit

theorem wrap_u64 (n : Int) : IntKind.u64.wrap n = n % 18446744073709551616 := by simp [IntKind.wrap, IntKind.bits, IntKind.signed]
theorem wrap_u32 (n : Int) : IntKind.u32.wrap n = n % 4294967296 := by simp [IntKind.wrap, IntKind.bits, IntKind.signed]
theorem wrap_u8 (n : Int) : IntKind.u8.wrap n = n % 256 := by simp [IntKind.wrap, IntKind.bits, IntKind.signed]
theorem bits_u64 (a b : Nat) (ha : a < 2 ^ 64) (hb : b < 2 ^ 64) : Go.bits .and .u64 a b = ((a &&& b : Nat) : Int) ∧ Go.bits .or .u64 a b = ((a ||| b : Nat) : Int) :=
  bits_nat .u64 64 (by decide) (fun n h0 h1 => by rw [wrap_u64]; omega) a b ha hb
theorem bits_u32 (a b : Nat) (ha : a < 2 ^ 32) (hb : b < 2 ^ 32) : Go.bits .and .u32 a b = ((a &&& b : Nat) : Int) ∧ Go.bits .or .u32 a b = ((a ||| b : Nat) : Int) :=
  bits_nat .u32 32 (by decide) (fun n h0 h1 => by rw [wrap_u32]; omega) a b ha hb
theorem or_join64 (i : Nat) (x y : Int) (hx0 : 0 ≤ x) (hx : x % 2 ^ i = 0) (hx1 : x < 2 ^ 64) (hy0 : 0 ≤ y) (hy : y < 2 ^ i) (hy1 : y < 2 ^ 64) : Go.bits .or .u64 x y = x + y :=
  bits_join .u64 64 (by decide) (fun n h0 h1 => by rw [wrap_u64]; omega) i x y hx0 hx hx1 hy0 hy hy1
theorem and_mask (i : Nat) (hi : i ≤ 64) (x : Int) (h0 : 0 ≤ x) (h1 : x < 2 ^ 64) : Go.bits .and .u64 x (2 ^ i - 1) = x % 2 ^ i :=
  bits_mask .u64 64 (by decide) (fun n h0 h1 => by rw [wrap_u64]; omega) i hi x h0 h1
theorem or_byte (n c : Int) (c0 : 0 ≤ c) (c1 : c ≤ 255) : Go.bits .or .u64 (IntKind.u64.wrap (n * 256)) (IntKind.u64.wrap c) = (n * 256 + c) % 18446744073709551616 := by
  rw [wrap_u64, wrap_u64, or_join64 8 _ _ (by omega) (by omega) (by omega) (by omega) (by omega) (by omega)]
  omega

/-- A turn to the left by s of W bits. -/
def rot (W s x : Nat) : Nat := (x % 2 ^ (W - s)) * 2 ^ s + x / 2 ^ (W - s)

theorem rot_lt (W s x : Nat) (hs : s ≤ W) (hx : x < 2 ^ W) : rot W s x < 2 ^ W := by
  have hW : 2 ^ W = 2 ^ (W - s) * 2 ^ s := by rw [← Nat.pow_add]; congr 1; omega
  have h1 : x % 2 ^ (W - s) < 2 ^ (W - s) := Nat.mod_lt _ (Nat.two_pow_pos _)
  have h2 : x / 2 ^ (W - s) < 2 ^ s := by rw [Nat.div_lt_iff_lt_mul (Nat.two_pow_pos _), Nat.mul_comm]; omega
  unfold rot
  have h3 : (x % 2 ^ (W - s) + 1) * 2 ^ s ≤ 2 ^ (W - s) * 2 ^ s := Nat.mul_le_mul_right _ h1
  rw [Nat.add_mul] at h3
  omega

theorem rot_back (W s x : Nat) (hs : s ≤ W) (hx : x < 2 ^ W) : rot W (W - s) (rot W s x) = x := by
  have hW : 2 ^ W = 2 ^ (W - s) * 2 ^ s := by rw [← Nat.pow_add]; congr 1; omega
  have h2 : x / 2 ^ (W - s) < 2 ^ s := by rw [Nat.div_lt_iff_lt_mul (Nat.two_pow_pos _), Nat.mul_comm]; omega
  have e : W - (W - s) = s := by omega
  unfold rot
  rw [e, Nat.mul_comm (x % 2 ^ (W - s)), Nat.mul_add_mod, Nat.mod_eq_of_lt h2, Nat.mul_add_div (Nat.two_pow_pos _), Nat.div_eq_of_lt h2, Nat.add_zero, Nat.div_add_mod' ]

theorem rot_zero (W x : Nat) (hx : x < 2 ^ W) : rot W 0 x = x := by
  unfold rot
  simp [Nat.mod_eq_of_lt hx, Nat.div_eq_of_lt hx]

theorem rot_all (W x : Nat) : rot W W x = x := by
  unfold rot
  simp [Nat.mod_one]

/-- What both texts make of a number: a shift each way, joined. -/
theorem or_rot (W s x : Nat) (hs : s ≤ W) (hx : x < 2 ^ W) : (x * 2 ^ s % 2 ^ W) ||| (x / 2 ^ (W - s)) = rot W s x := by
  have hW : 2 ^ W = 2 ^ (W - s) * 2 ^ s := by rw [← Nat.pow_add]; congr 1; omega
  have h2 : x / 2 ^ (W - s) < 2 ^ s := by rw [Nat.div_lt_iff_lt_mul (Nat.two_pow_pos _), Nat.mul_comm]; omega
  have e : x * 2 ^ s % 2 ^ W = 2 ^ s * (x % 2 ^ (W - s)) := by rw [hW, Nat.mul_mod_mul_right, Nat.mul_comm]
  rw [e, ← Nat.two_pow_add_eq_or_of_lt h2]
  unfold rot
  rw [Nat.mul_comm]

theorem tmod_bd (n : Int) (m : Int) (hm : 0 < m) : -m < n.tmod m ∧ n.tmod m < m ∧ (n.tmod m) % m = n % m := by
  refine ⟨Int.lt_tmod_of_pos n hm, Int.tmod_lt_of_pos n hm, ?_⟩
  have h := Int.tmod_add_mul_tdiv n m
  have e : n = n.tmod m + m * n.tdiv m := h.symm
  conv => rhs; rw [e]
  rw [Int.add_mul_emod_self_left]

/-- Turned, and turned back. -/
theorem there_and_back (W x : Nat) (n m : Int) (hW : 0 < W) (hx : x < 2 ^ W) (h : (n + m) % W = 0) : rot W ((-m) % W).toNat (rot W ((-n) % W).toNat x) = x := by
  by_cases h0 : (-n) % (W : Int) = 0
  · have : (-m) % (W : Int) = 0 := by
      have h1 : (W : Int) ∣ n + m := Int.dvd_of_emod_eq_zero h
      have h2 : (W : Int) ∣ -n := Int.dvd_of_emod_eq_zero h0
      have h3 : (W : Int) ∣ -m := by
        have : -m = -(n + m) - (-n) := by omega
        rw [this]; exact Int.dvd_sub (Int.dvd_neg.2 h1) h2
      exact Int.emod_eq_zero_of_dvd h3
    rw [h0, this]
    simp [rot_zero W x hx]
  · have hb : 0 ≤ (-n) % (W : Int) := Int.emod_nonneg _ (by omega)
    have hl : (-n) % (W : Int) < W := Int.emod_lt_of_pos _ (by omega)
    have hs : (-m) % (W : Int) = W - (-n) % W := by
      have h1 : (-m) % (W : Int) = (W - (-n) % (W : Int)) % W := by
        apply Int.emod_eq_emod_iff_emod_sub_eq_zero.2
        have hd : (W : Int) ∣ n + m := Int.dvd_of_emod_eq_zero h
        have hq := Int.emod_add_mul_ediv (-n) W
        apply Int.emod_eq_zero_of_dvd
        have : -m - (W - (-n) % (W : Int)) = -(n + m) - W * (1 + (-n) / W) := by
          rw [Int.mul_add]; omega
        rw [this]
        exact Int.dvd_sub (Int.dvd_neg.2 hd) (Int.dvd_mul_right _ _)
      rw [h1]
      exact Int.emod_eq_of_lt (by omega) (by omega)
    have : ((-m) % (W : Int)).toNat = W - ((-n) % (W : Int)).toNat := by omega
    rw [this]
    exact rot_back W _ x (by omega) hx

/-- A turn to the right by n, as the code counts. -/
def ror (W : Nat) (x n : Int) : Int := (rot W ((-n) % (W : Int)).toNat x.toNat : Nat)

end Go.Proofs.YtkmgiodhaaajjaaDoor.Num
