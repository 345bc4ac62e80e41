/- Walks of layer utf: the document's First, the laws' awake. -/
import Derived.Test.YtkmgiodhaaajjaaDoorUtfC
set_option linter.unusedVariables false
set_option linter.unusedSimpArgs false
namespace Go.Proofs.YtkmgiodhaaajjaaDoor.UtfD
open Go.RowKit Go.Proofs.YtkmgiodhaaajjaaDoor.Mem Go.Proofs.YtkmgiodhaaajjaaDoor.UtfP Go.Proofs.YtkmgiodhaaajjaaDoor.UtfA Go.Proofs.YtkmgiodhaaajjaaDoor.UtfB Go.Proofs.YtkmgiodhaaajjaaDoor.UtfC

def R (l : List Int) (at_ : Nat) : Int × Bool := (fb St.zero (l.drop at_) at_, doneB (run St.zero (l.drop at_)))
theorem R_step (l : List Int) (at_ : Nat) : R l at_ =
    if at_ < l.length then
      if (signS l at_).1 = 0 then ((at_ : Int), false)
      else if (signS l at_).2 < (signS l at_).1 then (if at_ + (signS l at_).2 < l.length then ((at_ + (signS l at_).2 : Nat) : Int) else -1, false)
      else R l (at_ + (signS l at_).1)
    else (-1, true) := by
  have h1 := refS_says l (l.length + 1) at_ St.zero zero_clean (by omega)
  have h2 := refS_says l l.length (at_ + (signS l at_).1) St.zero zero_clean (by omega)
  unfold R
  rw [← h1, ← h2]
  rfl
theorem R_first (s : ByteArray) : R (byt s) 0 = (firstS s, validS s) := rfl

theorem ret_first {a : Int} {b : Bool} {t : Int × Bool} (h : t = (a, b)) : Ending.returned (.tuple #[.int .i64 a, .bool b]) = Ending.returned (.tuple #[.int .i64 t.1, .bool t.2]) := by subst h; rfl

set_option maxHeartbeats 1000000 in
theorem reffirst_calls (s : ByteArray) (w : World) (hs : s.size ≤ 140737488355328) :
    Calls Tryd.prog 99 #[.string s] w fun e w' => e = .returned (.tuple #[.int .i64 (firstS s), .bool (validS s)]) ∧ w = w' := by
  have hR := R_first s
  go_enter Tryd.func99, Tryd.ntmps99
  have HR := hid hR
  clear hR
  go_wp2
  go_loop [4] (fun i => ∃ k : Nat, k ≤ s.size ∧ i = .int .i64 k ∧ R (byt s) k = (firstS s, validS s)) (fun i => s.size - (intOf i).toNat)
  case atStart => exact ⟨0, by omega, rfl, HR.out⟩
  case round =>
    obtain ⟨k, hk, rfl, hq⟩ := hrel
    rw [R_step, byt_length] at hq
    have HQ := hid hq
    clear hq HR
    by_cases hlt : k < s.size
    · have hq := HQ.out
      rw [if_pos hlt] at hq
      obtain ⟨b1, b2, _, b4, _⟩ := sign_says (byt s) k St.zero zero_clean (by rw [byt_length]; exact hlt)
      rw [byt_length] at b2
      have b5 : (signS (byt s) k).1 ≤ 4 := by
        unfold signS
        repeat' split
        · simp
        · simp
        · rcases kind_n ((byt s).getD k 0) with h | h <;> simp only <;> omega
        · rcases kind_n ((byt s).getD k 0) with h | h <;> simp only <;> omega
      by_cases h0 : (signS (byt s) k).1 = 0
      · rw [if_pos h0] at hq
        have HQ2 := hid hq
        have H0 : ((((signS (byt s) k).1 : Nat) : Int) == 0) = true := by rw [h0]; rfl
        clear hq h0 b4
        go_wp2_with ((with_reducible refine (sign_calls _ _ _ hs hlt).mono ?_); rintro e w' ⟨rfl, rfl⟩)
        go_ret2
        injection HQ2.out with e1 e2
        exact ⟨ret_ib e1 e2, rfl⟩
      · rw [if_neg h0] at hq
        have H0 : ((((signS (byt s) k).1 : Nat) : Int) == 0) = false := beq_eq_false_iff_ne.2 (by omega)
        by_cases h1 : (signS (byt s) k).2 < (signS (byt s) k).1
        · rw [if_pos h1] at hq
          have HQ2 := hid hq
          clear hq b4
          by_cases h2 : k + (signS (byt s) k).2 < s.size
          · go_wp2_with ((with_reducible refine (sign_calls _ _ _ hs hlt).mono ?_); rintro e w' ⟨rfl, rfl⟩)
            go_ret2
            have hq := HQ2.out
            rw [if_pos h2] at hq
            injection hq with e1 e2
            exact ⟨ret_ib (by rw [← e1]; omega) e2, rfl⟩
          · go_wp2_with ((with_reducible refine (sign_calls _ _ _ hs hlt).mono ?_); rintro e w' ⟨rfl, rfl⟩)
            go_ret2
            have hq := HQ2.out
            rw [if_neg h2] at hq
            injection hq with e1 e2
            exact ⟨ret_ib e1 e2, rfl⟩
        · rw [if_neg h1] at hq
          have HQ2 := hid hq
          clear hq b4
          go_wp2_with ((with_reducible refine (sign_calls _ _ _ hs hlt).mono ?_); rintro e w' ⟨rfl, rfl⟩)
          go_round
          case rel => exact ⟨k + (signS (byt s) k).1, by omega, by go_num, HQ2.out⟩
          case measure => simp [intOf]; omega
    · go_wp2
      go_ret2
      have hq := HQ.out
      rw [if_neg hlt] at hq
      injection hq with e1 e2
      exact ⟨ret_ib e1 e2, rfl⟩

theorem ex1 : firstS ⟨#[97, 237, 160]⟩ = 2 := by decide +kernel
theorem ex2 : validS ⟨#[97, 195, 169]⟩ = true := by decide +kernel
end Go.Proofs.YtkmgiodhaaajjaaDoor.UtfD
