/- Walks of layer bits: Reverse, Little64. -/
import Derived.Test.YtgdhchknegjpfaaDoorBitsA
set_option linter.unusedVariables false
set_option linter.unusedSimpArgs false
namespace Go.Proofs.YtgdhchknegjpfaaDoor.BitsB
open Go.RowKit Go.Proofs.YtgdhchknegjpfaaDoor.Mem Go.Proofs.YtgdhchknegjpfaaDoor.Num Go.Proofs.YtgdhchknegjpfaaDoor.BitsA

def revRow (xs : List Int) (k : Nat) : List Int := (List.range xs.length).map fun i => if i < k ∨ xs.length - k ≤ i then xs.getD (xs.length - 1 - i) 0 else xs.getD i 0
theorem revRow_length (xs : List Int) (k : Nat) : (revRow xs k).length = xs.length := by simp [revRow]
theorem revRow_get (xs : List Int) (k i : Nat) (h : i < xs.length) : (revRow xs k).getD i 0 = if i < k ∨ xs.length - k ≤ i then xs.getD (xs.length - 1 - i) 0 else xs.getD i 0 := by
  rw [List.getD_eq_getElem?_getD, List.getElem?_eq_getElem (by rw [revRow_length]; exact h)]
  simp [revRow]
theorem ext_getD {xs ys : List Int} (h : xs.length = ys.length) (hi : ∀ i, i < xs.length → xs.getD i 0 = ys.getD i 0) : xs = ys := by
  refine List.ext_getElem h fun i h1 h2 => ?_
  have := hi i h1
  simpa [List.getD_eq_getElem?_getD, List.getElem?_eq_getElem h1, List.getElem?_eq_getElem h2] using this
theorem getD_set (xs : List Int) (i j : Nat) (u : Int) (h : i < xs.length) : (xs.set i u).getD j 0 = if i = j then u else xs.getD j 0 := by
  simp only [List.getD_eq_getElem?_getD, List.getElem?_set]
  split
  · rename_i e; subst e; simp [h]
  · rfl
theorem revRow_zero (xs : List Int) : revRow xs 0 = xs := by
  refine ext_getD (revRow_length _ _) fun i hi => ?_
  rw [revRow_length] at hi
  rw [revRow_get _ _ _ hi, if_neg (by omega)]
theorem revRow_end (xs : List Int) (k : Nat) (h : xs.length ≤ 2 * k + 1) : revRow xs k = xs.reverse := by
  refine ext_getD (by simp [revRow_length]) fun i hi => ?_
  rw [revRow_length] at hi
  rw [revRow_get _ _ _ hi]
  have e : xs.reverse.getD i 0 = xs.getD (xs.length - 1 - i) 0 := by
    rw [List.getD_eq_getElem?_getD, List.getElem?_reverse hi, List.getD_eq_getElem?_getD]
  rw [e]
  split
  · rfl
  · rw [show xs.length - 1 - i = i from by omega]
theorem revRow_step (xs : List Int) (k : Nat) (h : k < xs.length - 1 - k) :
    ((revRow xs k).set k (xs.getD (xs.length - 1 - k) 0)).set (xs.length - 1 - k) (xs.getD k 0) = revRow xs (k + 1) := by
  refine ext_getD (by simp [revRow_length]) fun i hi => ?_
  simp only [List.length_set, revRow_length] at hi
  rw [getD_set _ _ _ _ (by simp [revRow_length]; omega), getD_set _ _ _ _ (by simp [revRow_length]; omega), revRow_get _ _ _ hi, revRow_get _ _ _ hi]
  by_cases h1 : xs.length - 1 - k = i
  · rw [if_pos h1, if_pos (by omega), ← h1, show xs.length - 1 - (xs.length - 1 - k) = k from by omega]
  · rw [if_neg h1]
    by_cases h2 : k = i
    · rw [if_pos h2, if_pos (by omega), h2]
    · rw [if_neg h2]
      by_cases h3 : i < k ∨ xs.length - k ≤ i
      · rw [if_pos h3, if_pos (by omega)]
      · rw [if_neg h3, if_neg (by omega)]

/-- n bytes from a place on, 0 for those that are missing. -/
def win (xs : List Int) (from_ n : Nat) : List Int := (List.range n).map fun i => xs.getD (from_ + i) 0
theorem win_succ (xs : List Int) (from_ n : Nat) : win xs from_ (n + 1) = win xs from_ n ++ [xs.getD (from_ + n) 0] := by simp [win, List.range_succ]
theorem win_length (xs : List Int) (from_ n : Nat) : (win xs from_ n).length = n := by simp [win]

theorem add_wrap (n c : Int) (c0 : 0 ≤ c) (c1 : c ≤ 255) : IntKind.u64.wrap (IntKind.u64.wrap (n * 256) + IntKind.u64.wrap c) = (n * 256 + c) % 18446744073709551616 := by
  simp only [wrap_u64]; omega

set_option maxHeartbeats 1000000 in
theorem number_calls (A : Option Addr) (c : Nat) (xs : List Int) (from_ n : Nat) (w : World) (hr : RdI .u8 w A xs) (hb : Bytes xs) (hl : xs.length ≤ 140737488355328) (hf : from_ ≤ 140737488355328) (hn : n ≤ 140737488355328) :
    Calls Tryd.prog 39 #[.slice A xs.length c, .int .i64 from_, .int .i64 n] w fun e w' => e = .returned (.int .u64 (val (win xs from_ n))) ∧ w = w' := by
  have HR := hid hr
  clear hr
  go_enter Tryd.func39, Tryd.ntmps39
  go_wp2
  go_loop [7, 8] (fun x i => ∃ k : Nat, k ≤ n ∧ i = .int .i64 (from_ + k) ∧ x = .int .u64 (val (win xs from_ k))) (fun _ i => n + from_ - (intOf i).toNat)
  case atStart => exact ⟨0, by omega, by simp, rfl⟩
  case round =>
    obtain ⟨k, hk, rfl, rfl⟩ := hrel
    by_cases hlt : k < n
    · by_cases hin : from_ + k < xs.length
      · obtain ⟨ad, rfl, _, hc⟩ := HR.out (from_ + k) hin
        obtain ⟨c0, c1⟩ := hb.get (from_ + k)
        go_wp2
        go_round
        case rel =>
          refine ⟨k + 1, by omega, by go_num, ?_⟩
          rw [win_succ, val_snoc]
          rw [getD_get hin] at c0 c1 ⊢
          rw [add_wrap _ _ c0 c1]
        case measure => simp [intOf]; omega
      · go_wp2
        go_round
        case rel =>
          refine ⟨k + 1, by omega, by go_num, ?_⟩
          rw [win_succ, val_snoc, List.getD_eq_getElem?_getD, List.getElem?_eq_none (by omega), wrap_u64]
          simp
        case measure => simp [intOf]; omega
    · go_wp2
      go_ret
      exact ⟨ret_int (by rw [show k = n from by omega]), rfl⟩

end Go.Proofs.YtgdhchknegjpfaaDoor.BitsB
