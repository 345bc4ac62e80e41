/- Layer float, plainly: forms of floats as whole numbers. No program is named here. -/
import Derived.Test.YtkmgiodhaaajjaaDoorMem
set_option linter.unusedVariables false
set_option linter.unusedSimpArgs false
namespace Go.Proofs.YtkmgiodhaaajjaaDoor.FloatP

/-- How great a number is: the place of its first bit. -/
def lg (m : Nat) : Nat := Nat.log2 m
theorem lg_le {m : Nat} (h : m ≠ 0) : 2 ^ lg m ≤ m := Nat.log2_self_le h
theorem lg_lt (m : Nat) : m < 2 ^ (lg m + 1) := Nat.lt_log2_self
theorem lg_uniq {m k : Nat} (h1 : 2 ^ k ≤ m) (h2 : m < 2 ^ (k + 1)) : lg m = k := by
  have h0 : m ≠ 0 := by have := Nat.two_pow_pos k; omega
  unfold lg
  have a := (Nat.le_log2 h0).2 h1
  have b := (Nat.log2_lt h0).2 h2
  omega

def bias (eb : Nat) : Nat := 2 ^ (eb - 1) - 1
def nanB (x : Nat) : Bool := decide (x / 2 ^ 52 % 2 ^ 11 = 2047) && decide (x % 2 ^ 52 ≠ 0)

/-- The double of a form's bits. -/
def widenF (eb fb : Nat) (w8 : Bool) (x : Nat) : Nat :=
  if x / 2 ^ fb % 2 ^ eb = 2 ^ eb - 1 then (if x % 2 ^ fb ≠ 0 then 0x7ff8000000000000 else x / 2 ^ (eb + fb) * 2 ^ 63 + 2047 * 2 ^ 52)
  else if x / 2 ^ fb % 2 ^ eb = 0 then
    (if w8 = true ∨ x % 2 ^ fb = 0 then x / 2 ^ (eb + fb) * 2 ^ 63 + x % 2 ^ fb * 2 ^ (52 - fb)
     else x / 2 ^ (eb + fb) * 2 ^ 63 + (1024 - bias eb + lg (x % 2 ^ fb) - fb) * 2 ^ 52 + (x % 2 ^ fb * 2 ^ (52 - lg (x % 2 ^ fb)) - 2 ^ 52))
  else x / 2 ^ (eb + fb) * 2 ^ 63 + (x / 2 ^ fb % 2 ^ eb + 1023 - bias eb) * 2 ^ 52 + x % 2 ^ fb * 2 ^ (52 - fb)

/-- A double in a narrower form, and whether it has one. -/
def narrowF (eb fb : Nat) (x : Nat) : Nat × Bool :=
  if x / 2 ^ 52 % 2 ^ 11 = 2047 then (x / 2 ^ 63 * 2 ^ (eb + fb) + (2 ^ eb - 1) * 2 ^ fb, true)
  else if x / 2 ^ 52 % 2 ^ 11 = 0 then (x / 2 ^ 63 * 2 ^ (eb + fb), decide (x % 2 ^ 52 = 0))
  else if 1023 + (2 ^ eb - 1) ≤ x / 2 ^ 52 % 2 ^ 11 + bias eb then (0, false)
  else if x / 2 ^ 52 % 2 ^ 11 + bias eb ≤ 1023 then
    (if 53 < 52 - fb + 1 + 1023 - (x / 2 ^ 52 % 2 ^ 11 + bias eb) then (0, false)
     else (x / 2 ^ 63 * 2 ^ (eb + fb) + (x % 2 ^ 52 + 2 ^ 52) / 2 ^ (52 - fb + 1 + 1023 - (x / 2 ^ 52 % 2 ^ 11 + bias eb)),
        decide ((x % 2 ^ 52 + 2 ^ 52) % 2 ^ (52 - fb + 1 + 1023 - (x / 2 ^ 52 % 2 ^ 11 + bias eb)) = 0)))
  else (x / 2 ^ 63 * 2 ^ (eb + fb) + (x / 2 ^ 52 % 2 ^ 11 + bias eb - 1023) * 2 ^ fb + x % 2 ^ 52 / 2 ^ (52 - fb), decide (x % 2 ^ 52 % 2 ^ (52 - fb) = 0))

def shortestF (x : Nat) : Nat × Nat :=
  if nanB x = true then (0x7e00, 2) else if (narrowF 5 10 x).2 = true then ((narrowF 5 10 x).1, 2) else if (narrowF 8 23 x).2 = true then ((narrowF 8 23 x).1, 4) else (x, 8)

/-- A number brought up, bit by bit, up to a bound, or to the least power. -/
def up (lim : Nat) (least : Int) : Nat → Nat → Int → Nat × Int
  | 0, m, p => (m, p)
  | k + 1, m, p => if m < lim ∧ least < p then up lim least k (m * 2) (p - 1) else (m, p)
theorem up_stop (lim : Nat) (least : Int) (k m : Nat) (p : Int) (h : ¬ (m < lim ∧ least < p)) : up lim least k m p = (m, p) := by
  cases k with
  | zero => rfl
  | succ k => simp only [up]; rw [if_neg h]
theorem up_to (lim : Nat) (least : Int) (k : Nat) : ∀ (n m : Nat) (p : Int), k ≤ n → (∀ j, j < k → m * 2 ^ j < lim ∧ least < p - j) → up lim least n m p = up lim least (n - k) (m * 2 ^ k) (p - k) := by
  induction k with
  | zero => intro n m p _ _; simp
  | succ k ih =>
    intro n m p hn h
    obtain ⟨n, rfl⟩ : ∃ n', n = n' + 1 := ⟨n - 1, by omega⟩
    have h0 := h 0 (by omega)
    simp only [up]
    rw [if_pos (by simpa using h0), ih n (m * 2) (p - 1) (by omega) (fun j hj => ?_)]
    · rw [show n + 1 - (k + 1) = n - k from by omega, Nat.pow_succ', Nat.mul_assoc, show p - 1 - (k : Int) = p - ((k + 1 : Nat) : Int) from by omega]
    · have := h (j + 1) (by omega)
      rw [Nat.pow_succ', ← Nat.mul_assoc] at this
      exact ⟨this.1, by have := this.2; omega⟩

/-- The document's bits of a value that isn't infinite. -/
def bitsF (eb fb s m : Nat) (p : Int) : Nat × Bool :=
  if m = 0 then (s * 2 ^ (eb + fb), true)
  else if p < 1 - (bias eb : Int) - fb then (0, false)
  else if 2 ^ (fb + 1) ≤ (up (2 ^ fb) (1 - (bias eb : Int) - fb) 64 m p).1 then (0, false)
  else if (up (2 ^ fb) (1 - (bias eb : Int) - fb) 64 m p).1 < 2 ^ fb then (s * 2 ^ (eb + fb) + (up (2 ^ fb) (1 - (bias eb : Int) - fb) 64 m p).1, true)
  else if ((2 ^ eb - 1 : Nat) : Int) ≤ (up (2 ^ fb) (1 - (bias eb : Int) - fb) 64 m p).2 + bias eb + fb then (0, false)
  else (s * 2 ^ (eb + fb) + ((up (2 ^ fb) (1 - (bias eb : Int) - fb) 64 m p).2 + bias eb + fb).toNat * 2 ^ fb + ((up (2 ^ fb) (1 - (bias eb : Int) - fb) 64 m p).1 - 2 ^ fb), true)

/-- Brought up to fb + 1 bits: a number whose value is M * 2^q. -/
theorem bits_normal (eb fb s m0 t M : Nat) (p0 q : Int) (hM : m0 * 2 ^ t = M) (hp : p0 = q + t) (h1 : 2 ^ fb ≤ M) (h2 : M < 2 ^ (fb + 1)) (hfb : fb ≤ 60) (hq : 1 - (bias eb : Int) - fb ≤ q) (he : q + bias eb + fb < ((2 ^ eb - 1 : Nat) : Int)) :
    bitsF eb fb s m0 p0 = (s * 2 ^ (eb + fb) + (q + bias eb + fb).toNat * 2 ^ fb + (M - 2 ^ fb), true) := by
  have hm0 : m0 ≠ 0 := by rintro rfl; rw [Nat.zero_mul] at hM; subst hM; have := Nat.two_pow_pos fb; omega
  have ht : t ≤ fb := by
    rcases Nat.lt_or_ge fb t with h | h
    · exfalso
      have : 2 ^ (fb + 1) ≤ 2 ^ t := Nat.pow_le_pow_right (by decide) h
      have : 2 ^ t ≤ m0 * 2 ^ t := Nat.le_mul_of_pos_left _ (by omega)
      omega
    · exact h
  have hup : up (2 ^ fb) (1 - (bias eb : Int) - fb) 64 m0 p0 = (M, q) := by
    rw [up_to (2 ^ fb) _ t 64 m0 p0 (by omega) (fun j hj => ⟨?_, by omega⟩), hM, show p0 - (t : Int) = q from by omega, up_stop _ _ _ _ _ (by omega)]
    have h3 : m0 * 2 ^ j * 2 ≤ M := by
      rw [← hM, Nat.mul_assoc, ← Nat.pow_succ]
      exact Nat.mul_le_mul_left _ (Nat.pow_le_pow_right (by decide) hj)
    rw [Nat.pow_succ] at h2
    omega
  unfold bitsF
  rw [hup, if_neg hm0, if_neg (by omega), if_neg (by omega), if_neg (by omega), if_neg (by omega)]

/-- Brought up to the least power. -/
theorem bits_small (eb fb s m0 t M : Nat) (p0 : Int) (hm0 : m0 ≠ 0) (hM : m0 * 2 ^ t = M) (hp : p0 = 1 - (bias eb : Int) - fb + t) (h2 : M < 2 ^ fb) (hfb : fb ≤ 60) :
    bitsF eb fb s m0 p0 = (s * 2 ^ (eb + fb) + M, true) := by
  have ht : t ≤ fb := by
    rcases Nat.lt_or_ge fb t with h | h
    · exfalso
      have : 2 ^ fb ≤ 2 ^ t := Nat.pow_le_pow_right (by decide) (by omega)
      have : 2 ^ t ≤ m0 * 2 ^ t := Nat.le_mul_of_pos_left _ (by omega)
      omega
    · exact h
  have hup : up (2 ^ fb) (1 - (bias eb : Int) - fb) 64 m0 p0 = (M, 1 - (bias eb : Int) - fb) := by
    rw [up_to (2 ^ fb) _ t 64 m0 p0 (by omega) (fun j hj => ⟨?_, by omega⟩), hM, show p0 - (t : Int) = 1 - (bias eb : Int) - fb from by omega, up_stop _ _ _ _ _ (by omega)]
    have h3 : m0 * 2 ^ j ≤ M := by
      rw [← hM]
      exact Nat.mul_le_mul_left _ (Nat.pow_le_pow_right (by decide) (by omega))
    omega
  unfold bitsF
  rw [hup, if_neg hm0, if_neg (by omega), if_neg (by simp only; have : 2 ^ fb ≤ 2 ^ (fb + 1) := Nat.pow_le_pow_right (by decide) (by omega); omega), if_pos h2]

/-- An odd number that is too long, or too small. -/
theorem bits_none (eb fb s m0 : Nat) (p0 : Int) (hm0 : m0 ≠ 0) (h : p0 < 1 - (bias eb : Int) - fb ∨ 2 ^ (fb + 1) ≤ m0) : (bitsF eb fb s m0 p0).2 = false := by
  unfold bitsF
  rw [if_neg hm0]
  by_cases h1 : p0 < 1 - (bias eb : Int) - fb
  · rw [if_pos h1]
  · rw [if_neg h1]
    have h2 := h.resolve_left h1
    have hup : up (2 ^ fb) (1 - (bias eb : Int) - fb) 64 m0 p0 = (m0, p0) := up_stop _ _ _ _ _ (fun h => by have : 2 ^ fb ≤ 2 ^ (fb + 1) := Nat.pow_le_pow_right (by decide) (by omega); omega)
    rw [hup, if_pos h2]
/-- One whose exponent is too great. -/
theorem bits_great (eb fb s m0 t M : Nat) (p0 q : Int) (hM : m0 * 2 ^ t = M) (hp : p0 = q + t) (h1 : 2 ^ fb ≤ M) (h2 : M < 2 ^ (fb + 1)) (hfb : fb ≤ 60) (hq : 1 - (bias eb : Int) - fb ≤ q) (he : ((2 ^ eb - 1 : Nat) : Int) ≤ q + bias eb + fb) :
    (bitsF eb fb s m0 p0).2 = false := by
  have hm0 : m0 ≠ 0 := by rintro rfl; rw [Nat.zero_mul] at hM; subst hM; have := Nat.two_pow_pos fb; omega
  have ht : t ≤ fb := by
    rcases Nat.lt_or_ge fb t with h | h
    · exfalso
      have : 2 ^ (fb + 1) ≤ 2 ^ t := Nat.pow_le_pow_right (by decide) h
      have : 2 ^ t ≤ m0 * 2 ^ t := Nat.le_mul_of_pos_left _ (by omega)
      omega
    · exact h
  have hup : up (2 ^ fb) (1 - (bias eb : Int) - fb) 64 m0 p0 = (M, q) := by
    rw [up_to (2 ^ fb) _ t 64 m0 p0 (by omega) (fun j hj => ⟨?_, by omega⟩), hM, show p0 - (t : Int) = q from by omega, up_stop _ _ _ _ _ (by omega)]
    have h3 : m0 * 2 ^ j * 2 ≤ M := by
      rw [← hM, Nat.mul_assoc, ← Nat.pow_succ]
      exact Nat.mul_le_mul_left _ (Nat.pow_le_pow_right (by decide) hj)
    rw [Nat.pow_succ] at h2
    omega
  unfold bitsF
  rw [hup, if_neg hm0, if_neg (by omega), if_neg (by omega), if_neg (by omega), if_pos he]

end Go.Proofs.YtkmgiodhaaajjaaDoor.FloatP
