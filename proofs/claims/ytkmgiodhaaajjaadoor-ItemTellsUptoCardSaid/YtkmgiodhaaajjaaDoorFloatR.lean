/- Layer float, plainly: widened, and back. No program is named here. -/
import Derived.Test.YtkmgiodhaaajjaaDoorFloatQ
set_option linter.unusedVariables false
set_option linter.unusedSimpArgs false
namespace Go.Proofs.YtkmgiodhaaajjaaDoor.FloatP

/-- The document's bits of a finite form, as a double, are the code's. -/
theorem bits_widen (eb fb x : Nat) (w8 : Bool) (h8 : w8 = true → eb = 11 ∧ fb = 52) (hb : bias eb ≤ 1023) (hfb : fb ≤ 52) (hbl : w8 = false → bias eb + fb ≤ 1000) (heb : 2 ^ eb ≤ bias eb + 1025) (hf : x / 2 ^ fb % 2 ^ eb ≠ 2 ^ eb - 1) :
    (bitsF 11 52 (x / 2 ^ (eb + fb)) (valF eb fb x).1 (valF eb fb x).2).1 = widenF eb fb w8 x := by
  have hb11 : bias 11 = 1023 := by decide
  have hm : x % 2 ^ fb < 2 ^ fb := Nat.mod_lt _ (Nat.two_pow_pos _)
  have he : x / 2 ^ fb % 2 ^ eb < 2 ^ eb := Nat.mod_lt _ (Nat.two_pow_pos _)
  unfold valF widenF
  generalize x / 2 ^ fb % 2 ^ eb = e at *
  generalize x % 2 ^ fb = m at *
  generalize x / 2 ^ (eb + fb) = s at *
  clear x
  rw [if_neg hf]
  by_cases h0 : e = 0
  · rw [if_pos h0, if_pos h0]
    by_cases hm0 : m = 0
    · rw [if_pos hm0, if_pos (Or.inr hm0)]; simp [bitsF, hm0]
    · rw [if_neg hm0]
      obtain ⟨t, a, b, c⟩ := od_spec m m (1 - (bias eb : Int) - fb) (Nat.le_refl _) hm0
      generalize od m (1 - (bias eb : Int) - fb) = o at *
      obtain ⟨m0, p0⟩ := o
      simp only at a b c
      simp only
      by_cases h8' : w8 = true
      · rw [if_pos (Or.inl h8')]
        obtain ⟨rfl, rfl⟩ := h8 h8'
        rw [bits_small 11 52 s m0 t m p0 (by omega) a (by rw [b]) hm (by decide)]
        simp only [Nat.sub_self, Nat.pow_zero, Nat.mul_one, Nat.reduceAdd]
      · rw [if_neg (by intro h; exact h.elim h8' hm0)]
        have hbl' := hbl (by simpa using h8')
        have hl : lg m < fb := by
          rcases Nat.lt_or_ge (lg m) fb with h | h
          · exact h
          · have := lg_le hm0
            have := Nat.pow_le_pow_right (n := 2) (by decide) h
            omega
        have e1 : 2 ^ 52 ≤ m * 2 ^ (52 - lg m) := by
          have := Nat.mul_le_mul_right (2 ^ (52 - lg m)) (lg_le hm0)
          rw [← Nat.pow_add, show lg m + (52 - lg m) = 52 from by omega] at this
          exact this
        have e2 : m * 2 ^ (52 - lg m) < 2 ^ (52 + 1) := by
          have := Nat.mul_lt_mul_of_pos_right (lg_lt m) (Nat.two_pow_pos (52 - lg m))
          rw [← Nat.pow_add, show lg m + 1 + (52 - lg m) = 52 + 1 from by omega] at this
          exact this
        have e3 : m0 * 2 ^ (t + (52 - lg m)) = m * 2 ^ (52 - lg m) := by rw [Nat.pow_add, ← Nat.mul_assoc, a]
        rw [bits_normal 11 52 s m0 (t + (52 - lg m)) (m * 2 ^ (52 - lg m)) p0 (1 - (bias eb : Int) - fb - ((52 - lg m : Nat) : Int)) e3 (by clear a e1 e2 e3 hm; omega) e1 e2 (by decide) (by clear a e1 e2 e3 hm b; rw [hb11]; omega) (by clear a e1 e2 e3 hm b; rw [hb11]; simp only [Nat.reducePow, Nat.reduceSub]; omega)]
        simp only
        rw [show (1 - (bias eb : Int) - fb - ((52 - lg m : Nat) : Int) + bias 11 + (52 : Nat)).toNat = 1024 - bias eb + lg m - fb from by clear a e1 e2 e3 hm b; rw [hb11]; omega]
  · rw [if_neg h0, if_neg h0]
    obtain ⟨t, a, b, c⟩ := od_spec (m + 2 ^ fb) (m + 2 ^ fb) ((e : Int) - bias eb - fb) (Nat.le_refl _) (Nat.ne_of_gt (Nat.lt_of_lt_of_le (Nat.two_pow_pos fb) (Nat.le_add_left _ _)))
    generalize od (m + 2 ^ fb) ((e : Int) - bias eb - fb) = o at *
    obtain ⟨m0, p0⟩ := o
    simp only at a b c
    simp only
    have h52 : (2:Nat) ^ 52 = 2 ^ fb * 2 ^ (52 - fb) := by rw [← Nat.pow_add]; congr 1; omega
    have e3 : m0 * 2 ^ (t + (52 - fb)) = m * 2 ^ (52 - fb) + 2 ^ 52 := by rw [Nat.pow_add, ← Nat.mul_assoc, a, Nat.add_mul, h52]
    have e1 : 2 ^ 52 ≤ m * 2 ^ (52 - fb) + 2 ^ 52 := Nat.le_add_left _ _
    have e2 : m * 2 ^ (52 - fb) + 2 ^ 52 < 2 ^ (52 + 1) := by
      have := Nat.mul_lt_mul_of_pos_right hm (Nat.two_pow_pos (52 - fb))
      rw [← h52] at this
      clear a e3 e1 h52 b
      omega
    rw [bits_normal 11 52 s m0 (t + (52 - fb)) (m * 2 ^ (52 - fb) + 2 ^ 52) p0 ((e : Int) - bias eb - 52) e3 (by clear a e1 e2 e3 hm h52; omega) e1 e2 (by decide) (by clear a e1 e2 e3 hm b h52; rw [hb11]; omega) (by clear a e1 e2 e3 hm b h52; rw [hb11]; simp only [Nat.reducePow, Nat.reduceSub]; omega)]
    simp only
    rw [show ((e : Int) - bias eb - 52 + bias 11 + (52 : Nat)).toNat = e + 1023 - bias eb from by clear a e1 e2 e3 hm b h52; rw [hb11]; omega, Nat.add_sub_cancel]

/-- The parts of a form. -/
theorem form_parts (eb fb s e m : Nat) (he : e < 2 ^ eb) (hm : m < 2 ^ fb) :
    (s * 2 ^ (eb + fb) + e * 2 ^ fb + m) / 2 ^ (eb + fb) = s ∧ (s * 2 ^ (eb + fb) + e * 2 ^ fb + m) / 2 ^ fb % 2 ^ eb = e ∧ (s * 2 ^ (eb + fb) + e * 2 ^ fb + m) % 2 ^ fb = m := by
  have hr : s * 2 ^ (eb + fb) + e * 2 ^ fb + m = (s * 2 ^ eb + e) * 2 ^ fb + m := by rw [Nat.pow_add, Nat.add_mul, Nat.mul_assoc]
  have hd : (s * 2 ^ (eb + fb) + e * 2 ^ fb + m) / 2 ^ fb = s * 2 ^ eb + e := by
    rw [hr, Nat.mul_comm, Nat.mul_add_div (Nat.two_pow_pos _), Nat.div_eq_of_lt hm, Nat.add_zero]
  refine ⟨?_, ?_, ?_⟩
  · rw [Nat.add_comm eb fb, Nat.pow_add, ← Nat.div_div_eq_div_mul, ← Nat.pow_add, Nat.add_comm fb eb, hd, Nat.mul_comm, Nat.mul_add_div (Nat.two_pow_pos _), Nat.div_eq_of_lt he, Nat.add_zero]
  · rw [hd, Nat.mul_comm, Nat.mul_add_mod, Nat.mod_eq_of_lt he]
  · rw [hr, Nat.mul_comm, Nat.mul_add_mod, Nat.mod_eq_of_lt hm]
theorem form_lt (eb fb s e m : Nat) (hs : s < 2) (he : e < 2 ^ eb) (hm : m < 2 ^ fb) : s * 2 ^ (eb + fb) + e * 2 ^ fb + m < 2 ^ (eb + fb + 1) := by
  have h1 : (e + 1) * 2 ^ fb ≤ 2 ^ eb * 2 ^ fb := Nat.mul_le_mul_right _ he
  rw [← Nat.pow_add, Nat.add_mul] at h1
  have h2 : s * 2 ^ (eb + fb) ≤ 1 * 2 ^ (eb + fb) := Nat.mul_le_mul_right _ (by omega)
  rw [Nat.pow_succ 2 (eb + fb)]
  omega
theorem parts (x : Nat) : x / 2 ^ 63 * 2 ^ 63 + x / 2 ^ 52 % 2 ^ 11 * 2 ^ 52 + x % 2 ^ 52 = x := by omega

/-- A narrower form, widened, is the double again. -/
theorem widen_narrow (eb fb x : Nat) (hx : x < 2 ^ 64) (hn : nanB x = false) (heb : 2 ≤ eb) (hb2 : 2 ^ eb = 2 * bias eb + 2) (hb : bias eb ≤ 900) (hbl : bias eb + fb ≤ 1000) (hfb : fb ≤ 50) (hnar : (narrowF eb fb x).2 = true) :
    (narrowF eb fb x).1 < 2 ^ (eb + fb + 1) ∧ widenF eb fb false (narrowF eb fb x).1 = x := by
  have hp := parts x
  have hs : x / 2 ^ 63 < 2 := by clear hp hnar hn; omega
  have he : x / 2 ^ 52 % 2 ^ 11 < 2048 := Nat.mod_lt _ (by decide)
  have hm : x % 2 ^ 52 < 2 ^ 52 := Nat.mod_lt _ (by decide)
  have hnan : x / 2 ^ 52 % 2 ^ 11 = 2047 → x % 2 ^ 52 = 0 := by
    intro h
    unfold nanB at hn
    rw [h] at hn
    simp only [decide_true, Bool.true_and] at hn
    exact Decidable.of_not_not (of_decide_eq_false hn)
  unfold narrowF at hnar ⊢
  clear hn hx
  generalize x / 2 ^ 63 = s at *
  generalize x / 2 ^ 52 % 2 ^ 11 = e at *
  generalize x % 2 ^ 52 = m at *
  have hfp := Nat.two_pow_pos fb
  by_cases h1 : e = 2047
  · rw [if_pos h1]
    have hm0 := hnan h1
    have hf := form_parts eb fb s (2 ^ eb - 1) 0 (by omega) hfp
    have hfl := form_lt eb fb s (2 ^ eb - 1) 0 hs (by omega) hfp
    rw [Nat.add_zero] at hf hfl
    refine ⟨hfl, ?_⟩
    unfold widenF
    simp only
    rw [if_pos hf.2.1, hf.2.2, if_neg (by decide), hf.1, ← hp, hm0, h1, Nat.add_zero]
  · rw [if_neg h1] at hnar ⊢
    by_cases h2 : e = 0
    · rw [if_pos h2] at hnar ⊢
      have hm0 : m = 0 := by simpa using hnar
      have hf := form_parts eb fb s 0 0 (by omega) hfp
      have hfl := form_lt eb fb s 0 0 hs (by omega) hfp
      rw [Nat.add_zero, Nat.zero_mul, Nat.add_zero] at hf hfl
      refine ⟨hfl, ?_⟩
      unfold widenF
      simp only
      rw [hf.2.1, hf.2.2, hf.1, if_neg (by omega), if_pos rfl, if_pos (Or.inr rfl), ← hp, hm0, h2]
      simp
    · rw [if_neg h2] at hnar ⊢
      by_cases h3 : 1023 + (2 ^ eb - 1) ≤ e + bias eb
      · rw [if_pos h3] at hnar; simp at hnar
      · rw [if_neg h3] at hnar ⊢
        by_cases h4 : e + bias eb ≤ 1023
        · rw [if_pos h4] at hnar ⊢
          by_cases h5 : 53 < 52 - fb + 1 + 1023 - (e + bias eb)
          · rw [if_pos h5] at hnar; simp at hnar
          · rw [if_neg h5] at hnar ⊢
            simp only at hnar ⊢
            generalize hl : 52 - fb + 1 + 1023 - (e + bias eb) = l at *
            have hz : (m + 2 ^ 52) % 2 ^ l = 0 := of_decide_eq_true hnar
            have hM : (m + 2 ^ 52) / 2 ^ l * 2 ^ l = m + 2 ^ 52 := Nat.div_mul_cancel (Nat.dvd_of_mod_eq_zero hz)
            have hbig : m + 2 ^ 52 < 2 ^ 53 := by clear hM hz hnar hp; omega
            have hsm : (m + 2 ^ 52) / 2 ^ l < 2 ^ (53 - l) := by
              rw [Nat.div_lt_iff_lt_mul (Nat.two_pow_pos _), ← Nat.pow_add, show 53 - l + l = 53 from by omega]
              exact hbig
            have hlo : 2 ^ (52 - l) ≤ (m + 2 ^ 52) / 2 ^ l ∨ l = 53 := by
              rcases Nat.lt_or_ge l 53 with h | h
              · refine Or.inl ((Nat.le_div_iff_mul_le (Nat.two_pow_pos _)).2 ?_)
                rw [← Nat.pow_add, show 52 - l + l = 52 from by omega]
                exact Nat.le_add_left _ _
              · exact Or.inr (by omega)
            clear hz hnar hbig
            generalize (m + 2 ^ 52) / 2 ^ l = M at *
            have hl52 : l ≤ 52 := by
              rcases hlo with h | h
              · rcases Nat.lt_or_ge 52 l with h' | h'
                · exfalso
                  have h53 : l = 53 := by clear hM hp hsm h; omega
                  subst h53
                  rw [show 53 - 53 = 0 from rfl, Nat.pow_zero] at hsm
                  rw [show M = 0 from by clear hM hp h; omega, Nat.zero_mul] at hM
                  have := Nat.two_pow_pos 52
                  clear hp
                  omega
                · exact h'
              · exfalso
                subst h
                rw [show 53 - 53 = 0 from rfl, Nat.pow_zero] at hsm
                rw [show M = 0 from by clear hM hp; omega, Nat.zero_mul] at hM
                have := Nat.two_pow_pos 52
                clear hp
                omega
            have hlo' : 2 ^ (52 - l) ≤ M := hlo.resolve_right (by clear hM hp hlo hsm; omega)
            have hlg : lg M = 52 - l := lg_uniq hlo' (by rw [show 52 - l + 1 = 53 - l from by clear hM hp hlo hsm hlo'; omega]; exact hsm)
            have hfb2 : M < 2 ^ fb := Nat.lt_of_lt_of_le hsm (Nat.pow_le_pow_right (by decide) (by clear hM hp hlo hsm hlo' hlg; omega))
            have hM0 : M ≠ 0 := by have := Nat.two_pow_pos (52 - l); clear hM hp hlo hsm; omega
            have hf := form_parts eb fb s 0 M (by omega) hfb2
            have hfl := form_lt eb fb s 0 M hs (by omega) hfb2
            rw [Nat.zero_mul, Nat.add_zero] at hf hfl
            refine ⟨hfl, ?_⟩
            unfold widenF
            rw [hf.2.1, hf.2.2, hf.1, if_neg (by clear hM hp hlo hsm hlo' hlg; omega), if_pos rfl, if_neg (by simp [hM0]), hlg, show 52 - (52 - l) = l from by clear hM hp hlo hsm hlo' hlg; omega, hM, Nat.add_sub_cancel, show 1024 - bias eb + (52 - l) - fb = e from by clear hM hp hlo hsm hlo' hlg; omega]
            exact hp
        · rw [if_neg h4] at hnar ⊢
          simp only at hnar ⊢
          have hz : m % 2 ^ (52 - fb) = 0 := of_decide_eq_true hnar
          have hM : m / 2 ^ (52 - fb) * 2 ^ (52 - fb) = m := Nat.div_mul_cancel (Nat.dvd_of_mod_eq_zero hz)
          have hlt : m / 2 ^ (52 - fb) < 2 ^ fb := by
            rw [Nat.div_lt_iff_lt_mul (Nat.two_pow_pos _), ← Nat.pow_add, show fb + (52 - fb) = 52 from by omega]; exact hm
          have hk : e + bias eb - 1023 < 2 ^ eb := by clear hM hp hz hnar hlt; omega
          have hf := form_parts eb fb s (e + bias eb - 1023) _ hk hlt
          have hfl := form_lt eb fb s (e + bias eb - 1023) _ hs hk hlt
          refine ⟨hfl, ?_⟩
          unfold widenF
          rw [hf.2.1, hf.2.2, hf.1, if_neg (by clear hM hp hz hnar hlt hf hfl; omega), if_neg (by clear hM hp hz hnar hlt hf hfl; omega), hM, show e + bias eb - 1023 + 1023 - bias eb = e from by clear hM hp hz hnar hlt hf hfl; omega]
          exact hp

theorem bias5 : bias 5 = 15 := by decide
theorem bias8 : bias 8 = 127 := by decide
theorem bias11 : bias 11 = 1023 := by decide
/-- A double widened is itself. -/
theorem widen_self (x : Nat) (hx : x < 2 ^ 64) (hn : nanB x = false) : widenF 11 52 true x = x := by
  have hp := parts x
  have hnan : x / 2 ^ 52 % 2 ^ 11 = 2047 → x % 2 ^ 52 = 0 := by
    intro h
    unfold nanB at hn
    rw [h] at hn
    simp only [decide_true, Bool.true_and] at hn
    exact Decidable.of_not_not (of_decide_eq_false hn)
  unfold widenF
  rw [show 11 + 52 = 63 from rfl, show 52 - 52 = 0 from rfl, bias11]
  clear hn hx
  generalize x / 2 ^ 63 = s at *
  generalize x / 2 ^ 52 % 2 ^ 11 = e at *
  generalize x % 2 ^ 52 = m at *
  rw [Nat.pow_zero, Nat.mul_one, Nat.add_sub_cancel]
  by_cases h1 : e = 2047
  · have := hnan h1
    rw [if_pos (by rw [h1]), if_neg (by rw [this]; decide)]
    rw [← hp, h1, this, Nat.add_zero]
  · rw [if_neg (fun h => h1 (by rw [h]))]
    by_cases h2 : e = 0
    · rw [if_pos h2, if_pos (Or.inl rfl), ← hp, h2]; simp
    · rw [if_neg h2, hp]

/-- What a shortest form is widened to. -/
def wide (y w : Nat) : Nat := if w = 2 then widenF 5 10 false y else if w = 4 then widenF 8 23 false y else widenF 11 52 true y
theorem back (x : Nat) (hx : x < 2 ^ 64) (hn : nanB x = false) : wide (shortestF x).1 (shortestF x).2 = x ∧ (shortestF x).1 < 2 ^ (8 * (shortestF x).2) := by
  unfold shortestF
  rw [if_neg (by rw [hn]; decide)]
  by_cases h2 : (narrowF 5 10 x).2 = true
  · have := widen_narrow 5 10 x hx hn (by decide) (by decide) (by decide) (by decide) (by decide) h2
    rw [if_pos h2]
    unfold wide
    rw [if_pos rfl]
    exact ⟨this.2, this.1⟩
  · rw [if_neg h2]
    by_cases h4 : (narrowF 8 23 x).2 = true
    · have := widen_narrow 8 23 x hx hn (by decide) (by decide) (by decide) (by decide) (by decide) h4
      rw [if_pos h4]
      unfold wide
      rw [if_neg (by simp), if_pos rfl]
      exact ⟨this.2, this.1⟩
    · rw [if_neg h4]
      unfold wide
      rw [if_neg (by simp), if_neg (by simp)]
      exact ⟨widen_self x hx hn, hx⟩
end Go.Proofs.YtkmgiodhaaajjaaDoor.FloatP
