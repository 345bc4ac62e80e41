/- Numbers and their bytes, there and back. No program is named here. -/
import Derived.Test.YtgdhchknegjpfaaDoorBitsB
set_option linter.unusedVariables false
set_option linter.unusedSimpArgs false
namespace Go.Proofs.YtgdhchknegjpfaaDoor.BitsV
open Go.RowKit Go.Proofs.YtgdhchknegjpfaaDoor.Mem Go.Proofs.YtgdhchknegjpfaaDoor.Num Go.Proofs.YtgdhchknegjpfaaDoor.BitsA Go.Proofs.YtgdhchknegjpfaaDoor.BitsB
theorem val_lt (xs : List Int) (hb : Bytes xs) (n : Nat) (h : xs.length ≤ n) : val xs < 256 ^ n := by
  induction n generalizing xs with
  | zero =>
    have : xs = [] := List.eq_nil_of_length_eq_zero (by omega)
    subst this; decide
  | succ n ih =>
    rcases List.eq_nil_or_concat xs with rfl | ⟨ys, c, rfl⟩
    · have : (0 : Int) < 256 ^ (n + 1) := Int.pow_pos (by decide)
      simpa [val] using this
    · rw [List.concat_eq_append] at *
      rw [val_snoc]
      have h1 := ih ys (fun c hc => hb c (List.mem_append_left _ hc)) (by simp at h; omega)
      have h2 := hb c (by simp)
      have h3 := val_range ys
      rw [Int.pow_succ]
      have h4 : (val ys * 256 + c) % 18446744073709551616 ≤ val ys * 256 + c := by omega
      omega
theorem val_digs (n : Nat) (hn : n ≤ 8) : ∀ x : Int, 0 ≤ x → val (digs x n).reverse = x % 256 ^ n := by
  induction n with
  | zero => intro x hx; simp [digs, val, Int.emod_one]
  | succ n ih =>
    intro x hx
    rw [digs, List.reverse_cons, val_snoc, ih (by omega) (x / 256) (by omega)]
    have hp : (256 : Int) ^ (n + 1) ≤ 18446744073709551616 := by
      have : n = 0 ∨ n = 1 ∨ n = 2 ∨ n = 3 ∨ n = 4 ∨ n = 5 ∨ n = 6 ∨ n = 7 := by omega
      rcases this with rfl | rfl | rfl | rfl | rfl | rfl | rfl | rfl <;> decide
    have hpos : (0 : Int) < 256 ^ n := Int.pow_pos (by decide)
    have e : x % 256 ^ (n + 1) = (x / 256 % 256 ^ n) * 256 + x % 256 := by
      have h1 := Int.mul_ediv_add_emod (x / 256) (256 ^ n)
      have h2 : x % (256 * 256 ^ n) = x - 256 * 256 ^ n * (x / 256 / 256 ^ n) := by rw [Int.emod_def, Int.ediv_ediv_of_nonneg (by decide)]
      rw [Int.pow_succ', h2, Int.mul_assoc]
      omega
    rw [← e]
    exact Int.emod_eq_of_lt (Int.emod_nonneg _ (by omega)) (Int.lt_of_lt_of_le (Int.emod_lt_of_pos _ (by rw [Int.pow_succ]; omega)) hp)

theorem pow_256 (n : Nat) (h : n ≤ 7) : (256 : Int) ^ n * 256 ≤ 18446744073709551616 := by
  have : n = 0 ∨ n = 1 ∨ n = 2 ∨ n = 3 ∨ n = 4 ∨ n = 5 ∨ n = 6 ∨ n = 7 := by omega
  rcases this with rfl | rfl | rfl | rfl | rfl | rfl | rfl | rfl <;> decide
/-- A number's bytes are the bytes that it was read from. -/
theorem digs_val (xs : List Int) (hb : Bytes xs) : xs.length ≤ 8 → (digs (val xs) xs.length).reverse = xs := by
  induction h : xs.length generalizing xs with
  | zero => intro _; rw [List.eq_nil_of_length_eq_zero h]; rfl
  | succ n ih =>
    intro h8
    rcases List.eq_nil_or_concat xs with rfl | ⟨ys, c, rfl⟩
    · simp at h
    · rw [List.concat_eq_append] at h hb ⊢
      have hl : ys.length = n := by rw [List.length_append, List.length_singleton] at h; omega
      have hys : Bytes ys := fun x hx => hb x (List.mem_append_left _ hx)
      have hc := hb c (List.mem_append_right _ (List.mem_singleton.2 rfl))
      have hlt : val ys < 256 ^ n := by
        rw [← hl]
        exact val_lt ys hys _ (Nat.le_refl _)
      have hv0 := (val_range ys).1
      have hp := pow_256 n (by omega)
      have e : val (ys ++ [c]) = val ys * 256 + c := by
        rw [val_snoc]
        exact Int.emod_eq_of_lt (by omega) (by omega)
      rw [digs, List.reverse_cons, e, show (val ys * 256 + c) % 256 = c by omega, show (val ys * 256 + c) / 256 = val ys by omega, ih ys hys hl (by omega)]
end Go.Proofs.YtgdhchknegjpfaaDoor.BitsV
