/- Layer float, plainly: the document's bits are the code's. No program is named here. -/
import Derived.Test.YtkmgiodhaaajjaaDoorFloatP
set_option linter.unusedVariables false
set_option linter.unusedSimpArgs false
namespace Go.Proofs.YtkmgiodhaaajjaaDoor.FloatP

/-- A number's odd part, and the power. -/
def od (m : Nat) (p : Int) : Nat × Int :=
  if h : m = 0 ∨ m % 2 = 1 then (m, p) else od (m / 2) (p + 1)
termination_by m
decreasing_by omega
theorem od_odd (m : Nat) (p : Int) (h : m % 2 = 1) : od m p = (m, p) := by
  unfold od; rw [dif_pos (Or.inr h)]
theorem od_even (m : Nat) (p : Int) (h0 : m ≠ 0) (h : m % 2 = 0) : od m p = od (m / 2) (p + 1) := by
  rw [od.eq_1, dif_neg (by omega)]
theorem od_spec (n : Nat) : ∀ (m : Nat) (p : Int), m ≤ n → m ≠ 0 → ∃ t : Nat, (od m p).1 * 2 ^ t = m ∧ (od m p).2 = p + t ∧ (od m p).1 % 2 = 1 := by
  induction n with
  | zero => intro m p h h0; omega
  | succ n ih =>
    intro m p h h0
    by_cases h1 : m % 2 = 1
    · rw [od_odd m p h1]; exact ⟨0, by simp, by simp, h1⟩
    · rw [od_even m p h0 (by omega)]
      obtain ⟨t, a, b, c⟩ := ih (m / 2) (p + 1) (by omega) (by omega)
      exact ⟨t + 1, by rw [Nat.pow_succ, ← Nat.mul_assoc, a]; omega, by rw [b]; omega, c⟩

/-- The document's value of a finite form. -/
def valF (eb fb x : Nat) : Nat × Int :=
  if x / 2 ^ fb % 2 ^ eb = 0 then (if x % 2 ^ fb = 0 then (0, 0) else od (x % 2 ^ fb) (1 - (bias eb : Int) - fb))
  else od (x % 2 ^ fb + 2 ^ fb) (((x / 2 ^ fb % 2 ^ eb : Nat) : Int) - bias eb - fb)

theorem dvd_odd {m0 t M k : Nat} (h : m0 * 2 ^ t = M) (ho : m0 % 2 = 1) : M % 2 ^ k = 0 ↔ k ≤ t := by
  constructor
  · intro hk
    rcases Nat.lt_or_ge t k with hl | hl
    · exfalso
      obtain ⟨d, rfl⟩ : ∃ d, k = t + 1 + d := ⟨k - t - 1, by omega⟩
      have h1 : 2 ^ (t + 1) ∣ M := Nat.dvd_trans (Nat.pow_dvd_pow 2 (by omega)) (Nat.dvd_of_mod_eq_zero hk)
      obtain ⟨c, hc⟩ := h1
      rw [← h, Nat.pow_succ, Nat.mul_assoc, Nat.mul_comm m0] at hc
      have := Nat.eq_of_mul_eq_mul_left (Nat.two_pow_pos t) hc
      omega
    · exact hl
  · intro hk
    obtain ⟨d, rfl⟩ : ∃ d, t = k + d := ⟨t - k, by omega⟩
    rw [← h, Nat.pow_add, ← Nat.mul_assoc, Nat.mul_comm m0, Nat.mul_assoc]
    exact Nat.mul_mod_right _ _
theorem div_odd {m0 t M k : Nat} (h : m0 * 2 ^ t = M) (hk : k ≤ t) : m0 * 2 ^ (t - k) = M / 2 ^ k := by
  obtain ⟨d, rfl⟩ : ∃ d, t = k + d := ⟨t - k, by omega⟩
  rw [← h, Nat.pow_add, Nat.add_sub_cancel_left, Nat.mul_left_comm, Nat.mul_div_cancel_left _ (Nat.two_pow_pos k)]
theorem odd_long {m0 t M k n : Nat} (h : m0 * 2 ^ t = M) (hM : 2 ^ n ≤ M) (hk : t + k ≤ n) : 2 ^ k ≤ m0 := by
  obtain ⟨d, rfl⟩ : ∃ d, n = k + t + d := ⟨n - k - t, by omega⟩
  have h1 : 2 ^ k * 2 ^ t ≤ m0 * 2 ^ t := by
    rw [h, ← Nat.pow_add]; exact Nat.le_trans (Nat.pow_le_pow_right (by decide) (by omega)) hM
  exact Nat.le_of_mul_le_mul_right h1 (Nat.two_pow_pos t)
theorem pow_le_of {m0 t M n : Nat} (h : m0 * 2 ^ t = M) (h0 : m0 ≠ 0) (hM : M < 2 ^ n) : t < n := by
  rcases Nat.lt_or_ge t n with hl | hl
  · exact hl
  · exfalso
    have : 2 ^ n ≤ 2 ^ t := Nat.pow_le_pow_right (by decide) hl
    have : 2 ^ t ≤ m0 * 2 ^ t := Nat.le_mul_of_pos_left _ (by omega)
    omega

/-- A normal number of 53 bits in a narrower form. -/
theorem narrow_mid (eb fb s m0 t m e : Nat) (p0 : Int) (hm : m < 2 ^ 52) (h : m0 * 2 ^ t = m + 2 ^ 52) (ho : m0 % 2 = 1) (hp : p0 = (e : Int) - 1075 + t) (hfb : fb ≤ 52)
    (h1 : 1024 ≤ e + bias eb) (h2 : e + bias eb < 1023 + (2 ^ eb - 1)) :
    (bitsF eb fb s m0 p0).2 = decide (m % 2 ^ (52 - fb) = 0) ∧ (m % 2 ^ (52 - fb) = 0 → (bitsF eb fb s m0 p0).1 = s * 2 ^ (eb + fb) + (e + bias eb - 1023) * 2 ^ fb + m / 2 ^ (52 - fb)) := by
  have h52 : (2:Nat) ^ 52 = 2 ^ (52 - fb) * 2 ^ fb := by rw [← Nat.pow_add]; congr 1; omega
  have hmod : (m + 2 ^ 52) % 2 ^ (52 - fb) = m % 2 ^ (52 - fb) := by rw [h52, Nat.add_mul_mod_self_left]
  have hdiv : (m + 2 ^ 52) / 2 ^ (52 - fb) = m / 2 ^ (52 - fb) + 2 ^ fb := by rw [h52, Nat.add_mul_div_left _ _ (Nat.two_pow_pos _)]
  have hlt : m / 2 ^ (52 - fb) < 2 ^ fb := by rw [Nat.div_lt_iff_lt_mul (Nat.two_pow_pos _), Nat.mul_comm, ← h52]; exact hm
  have hiff := dvd_odd (k := 52 - fb) h ho
  rw [hmod] at hiff
  have hdv := fun ht => div_odd (k := 52 - fb) h ht
  rw [hdiv] at hdv
  clear hdiv hmod
  generalize m / 2 ^ (52 - fb) = d at *
  have hlong := fun (hx : t + (fb + 1) ≤ 52) => odd_long (n := 52) (k := fb + 1) h (Nat.le_add_left _ _) hx
  clear h h52
  by_cases ht : 52 - fb ≤ t
  · have hb := bits_normal eb fb s m0 (t - (52 - fb)) (d + 2 ^ fb) p0 ((e : Int) - 1023 - fb) (hdv ht) (by omega) (by omega) (by rw [Nat.pow_succ]; omega) (by omega) (by omega) (by omega)
    rw [hb]
    refine ⟨by simp [hiff, ht], fun _ => ?_⟩
    simp only
    rw [show ((e : Int) - 1023 - fb + bias eb + fb).toNat = e + bias eb - 1023 from by omega, Nat.add_sub_cancel]
  · have hb := bits_none eb fb s m0 p0 (by omega) (Or.inr (hlong (by omega)))
    rw [hb]
    exact ⟨by simp [hiff, ht], fun hh => absurd (hiff.1 hh) ht⟩
theorem narrow_great (eb fb s m0 t m e : Nat) (p0 : Int) (hm : m < 2 ^ 52) (h : m0 * 2 ^ t = m + 2 ^ 52) (ho : m0 % 2 = 1) (hp : p0 = (e : Int) - 1075 + t) (hfb : fb ≤ 52)
    (h1 : 1024 ≤ e + bias eb) (h2 : 1023 + (2 ^ eb - 1) ≤ e + bias eb) : (bitsF eb fb s m0 p0).2 = false := by
  have h52 : (2:Nat) ^ 52 = 2 ^ (52 - fb) * 2 ^ fb := by rw [← Nat.pow_add]; congr 1; omega
  have hdiv : (m + 2 ^ 52) / 2 ^ (52 - fb) = m / 2 ^ (52 - fb) + 2 ^ fb := by rw [h52, Nat.add_mul_div_left _ _ (Nat.two_pow_pos _)]
  have hlt : m / 2 ^ (52 - fb) < 2 ^ fb := by rw [Nat.div_lt_iff_lt_mul (Nat.two_pow_pos _), Nat.mul_comm, ← h52]; exact hm
  have hdv := fun ht => div_odd (k := 52 - fb) h ht
  rw [hdiv] at hdv
  clear hdiv
  generalize m / 2 ^ (52 - fb) = d at *
  have hlong := fun (hx : t + (fb + 1) ≤ 52) => odd_long (n := 52) (k := fb + 1) h (Nat.le_add_left _ _) hx
  clear h h52
  by_cases ht : 52 - fb ≤ t
  · exact bits_great eb fb s m0 (t - (52 - fb)) (d + 2 ^ fb) p0 ((e : Int) - 1023 - fb) (hdv ht) (by omega) (by omega) (by rw [Nat.pow_succ]; omega) (by omega) (by omega) (by omega)
  · exact bits_none eb fb s m0 p0 (by omega) (Or.inr (hlong (by omega)))
theorem narrow_low (eb fb s m0 t m e l : Nat) (p0 : Int) (hm : m < 2 ^ 52) (h : m0 * 2 ^ t = m + 2 ^ 52) (ho : m0 % 2 = 1) (hp : p0 = (e : Int) - 1075 + t) (hfb : fb ≤ 52)
    (h1 : e + bias eb ≤ 1023) (hl : l = 52 - fb + 1 + 1023 - (e + bias eb)) :
    (bitsF eb fb s m0 p0).2 = decide (l ≤ 53 ∧ (m + 2 ^ 52) % 2 ^ l = 0) ∧ ((m + 2 ^ 52) % 2 ^ l = 0 → (bitsF eb fb s m0 p0).1 = s * 2 ^ (eb + fb) + (m + 2 ^ 52) / 2 ^ l) := by
  have hiff := dvd_odd (k := l) h ho
  have ht53 : t < 53 := pow_le_of h (by omega) (by rw [Nat.pow_succ]; omega)
  by_cases ht : l ≤ t
  · have hsm : (m + 2 ^ 52) / 2 ^ l < 2 ^ fb := by
      rw [Nat.div_lt_iff_lt_mul (Nat.two_pow_pos _), ← Nat.pow_add]
      have : (2:Nat) ^ 53 ≤ 2 ^ (fb + l) := Nat.pow_le_pow_right (by decide) (by omega)
      omega
    have hb := bits_small eb fb s m0 (t - l) ((m + 2 ^ 52) / 2 ^ l) p0 (by omega) (div_odd h ht) (by omega) hsm (by omega)
    rw [hb]
    exact ⟨by simp [hiff, ht]; omega, fun _ => rfl⟩
  · have hb := bits_none eb fb s m0 p0 (by omega) (Or.inl (by omega))
    rw [hb]
    exact ⟨by simp only [hiff]; simp [ht], fun hh => absurd (hiff.1 hh) ht⟩

theorem one_le_top {eb : Nat} (h : 1 ≤ eb) : 1 ≤ 2 ^ eb - 1 := by
  have := Nat.pow_le_pow_right (n := 2) (by decide) h
  omega

/-- The document's bits of a finite double are the code's. -/
theorem bits_narrow (eb fb s x : Nat) (hs : s = x / 2 ^ 63) (hf : x / 2 ^ 52 % 2 ^ 11 ≠ 2047) (hfb : fb ≤ 52) (hb : bias eb ≤ 900) (hl : bias eb + fb ≤ 1000) (heb1 : 1 ≤ eb) :
    (bitsF eb fb s (valF 11 52 x).1 (valF 11 52 x).2).2 = (narrowF eb fb x).2 ∧ ((narrowF eb fb x).2 = true → (bitsF eb fb s (valF 11 52 x).1 (valF 11 52 x).2).1 = (narrowF eb fb x).1) := by
  have hb11 : bias 11 = 1023 := by decide
  have hm : x % 2 ^ 52 < 2 ^ 52 := Nat.mod_lt _ (Nat.two_pow_pos _)
  unfold valF narrowF
  rw [← hs]
  clear hs
  generalize x / 2 ^ 52 % 2 ^ 11 = e at *
  generalize x % 2 ^ 52 = m at *
  clear x
  rw [if_neg hf, hb11]
  by_cases h0 : e = 0
  · rw [if_pos h0, if_pos h0]
    by_cases hm0 : m = 0
    · rw [if_pos hm0]; simp [bitsF, hm0]
    · rw [if_neg hm0]
      obtain ⟨t, a, b, c⟩ := od_spec m m (1 - ((1023 : Nat) : Int) - ((52 : Nat) : Int)) (Nat.le_refl _) hm0
      generalize od m (1 - ((1023 : Nat) : Int) - ((52 : Nat) : Int)) = o at *
      obtain ⟨m0, p0⟩ := o
      simp only at a b c
      have ht : t < 52 := pow_le_of a (by omega) hm
      clear a hm
      rw [bits_none eb fb s _ _ (by simp only; omega) (Or.inl (by simp only; omega))]
      simp [hm0]
  · rw [if_neg h0, if_neg h0]
    obtain ⟨t, a, b, c⟩ := od_spec (m + 2 ^ 52) (m + 2 ^ 52) ((e : Int) - ((1023 : Nat) : Int) - ((52 : Nat) : Int)) (Nat.le_refl _) (Nat.ne_of_gt (Nat.lt_of_lt_of_le (Nat.two_pow_pos 52) (Nat.le_add_left _ _)))
    generalize od (m + 2 ^ 52) ((e : Int) - ((1023 : Nat) : Int) - ((52 : Nat) : Int)) = o at *
    obtain ⟨m0, p0⟩ := o
    simp only at a b c
    simp only
    have hp : p0 = (e : Int) - 1075 + t := by clear a hm; omega
    have ht1 := one_le_top heb1
    have hg := narrow_great eb fb s m0 t m e p0 hm a c hp hfb
    have hlo := fun h2 => narrow_low eb fb s m0 t m e _ p0 hm a c hp hfb h2 rfl
    have hmi := narrow_mid eb fb s m0 t m e p0 hm a c hp hfb
    clear a hm b hp hf
    generalize hM : m + 2 ^ 52 = M at *
    clear hM
    generalize bitsF eb fb s m0 p0 = o at *
    by_cases h1 : 1023 + (2 ^ eb - 1) ≤ e + bias eb
    · rw [if_pos h1, hg (by omega) h1]; simp
    · rw [if_neg h1]
      by_cases h2 : e + bias eb ≤ 1023
      · rw [if_pos h2]
        have hn := hlo h2
        by_cases h3 : 53 < 52 - fb + 1 + 1023 - (e + bias eb)
        · rw [if_pos h3, hn.1]
          refine ⟨?_, fun h => by simp at h⟩
          rw [decide_eq_false (fun h => absurd h.1 (Nat.not_le_of_lt h3))]
        · rw [if_neg h3, hn.1]
          refine ⟨?_, fun hh => hn.2 (of_decide_eq_true hh)⟩
          simp only [Nat.le_of_not_lt h3, true_and]
      · rw [if_neg h2]
        have hn := hmi (by omega) (by omega)
        exact ⟨hn.1, fun hh => hn.2 (of_decide_eq_true hh)⟩
end Go.Proofs.YtkmgiodhaaajjaaDoor.FloatP
