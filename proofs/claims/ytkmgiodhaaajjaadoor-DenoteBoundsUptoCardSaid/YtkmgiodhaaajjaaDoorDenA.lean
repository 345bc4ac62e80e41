/- Layer denote: an item's number; bounds; the nodes that a node names, one by one. -/
import Derived.Test.YtkmgiodhaaajjaaDoorDenP
import Derived.Test.YtkmgiodhaaajjaaDoorSchJ
set_option linter.unusedVariables false
set_option linter.unusedSimpArgs false
namespace Go.Proofs.YtkmgiodhaaajjaaDoor.DenA
open Go.IntWalk Go.RowKit Go.Proofs.YtkmgiodhaaajjaaDoor.Mem Go.Proofs.YtkmgiodhaaajjaaDoor.App Go.Proofs.YtkmgiodhaaajjaaDoor.FloatB Go.Proofs.YtkmgiodhaaajjaaDoor.ItemP Go.Proofs.YtkmgiodhaaajjaaDoor.ItemM Go.Proofs.YtkmgiodhaaajjaaDoor.SchP Go.Proofs.YtkmgiodhaaajjaaDoor.SchM Go.Proofs.YtkmgiodhaaajjaaDoor.SchG Go.Proofs.YtkmgiodhaaajjaaDoor.SchJ Go.Proofs.YtkmgiodhaaajjaaDoor.DenP

/-- What Number tells. -/
def numP (k : Int) (n : Nat) : Int × Bool := if 9223372036854775807 < n then (0, false) else if k = 0 then ((n : Int), true) else if k = 1 then (-1 - (n : Int), true) else (0, false)

set_option maxRecDepth 20000 in
set_option maxHeartbeats 2000000 in
theorem number_calls (k : Int) (n : Nat) (s : ByteArray) (A : Option Addr) (m c : Nat) (w : World) :
    Calls Tryd.prog 47 #[.agg #[.int .i64 k, .int .u64 n, .string s, .slice A m c]] w fun e w' => e = .returned (.tuple #[.int .i64 (numP k n).1, .bool (numP k n).2]) ∧ Fr (fun _ => False) w w' := by
  obtain ⟨p, hp⟩ : ∃ p, numP k n = p := ⟨_, rfl⟩
  have HP := hid hp
  rw [hp]
  clear hp
  obtain ⟨w1, hw1⟩ : ∃ w1, w.alloc (.cells #[.int .i64 k, .int .u64 n, .string s, .slice A m c] 25) = w1 := ⟨_, rfl⟩
  have HF1 := hid (show Fr (fun _ => False) w w1 by rw [← hw1]; exact (Fr.refl _ w).alloc _)
  have HB1 := hid (show Blk w1 w.heap.size 25 #[.int .i64 k, .int .u64 n, .string s, .slice A m c] by rw [← hw1]; exact Blk.new w _ _)
  have HW1 := hid hw1
  clear hw1
  have c0 := HB1.out.cell 0
  have c1 := HB1.out.cell 1
  simp at c0 c1
  by_cases h1 : 9223372036854775807 < n
  · have HE := hid (show p = (0, false) by rw [← HP.out, numP, if_pos h1])
    go_enter Tryd.func47, Tryd.ntmps47
    go_wp2_with fail
    rw [HW1.out]
    go_wp2_with fail
    go_ret2
    exact ⟨by rw [HE.out]; rfl, HF1.out⟩
  · by_cases h2 : k = 0
    · subst h2
      have HE := hid (show p = ((n : Int), true) by rw [← HP.out, numP, if_neg h1, if_pos rfl])
      go_enter Tryd.func47, Tryd.ntmps47
      go_wp2_with fail
      rw [HW1.out]
      go_wp2_with fail
      go_ret2
      exact ⟨by rw [HE.out]; rfl, HF1.out⟩
    · by_cases h3 : k = 1
      · subst h3
        have HE := hid (show p = (-1 - (n : Int), true) by rw [← HP.out, numP, if_neg h1, if_neg h2, if_pos rfl])
        go_enter Tryd.func47, Tryd.ntmps47
        go_wp2_with fail
        rw [HW1.out]
        go_wp2_with fail
        go_ret2
        exact ⟨by rw [HE.out]; rfl, HF1.out⟩
      · have HE := hid (show p = (0, false) by rw [← HP.out, numP, if_neg h1, if_neg h2, if_neg h3])
        go_enter Tryd.func47, Tryd.ntmps47
        go_wp2_with fail
        rw [HW1.out]
        go_wp2_with fail
        go_ret2
        exact ⟨by rw [HE.out]; rfl, HF1.out⟩

set_option maxRecDepth 20000 in
set_option maxHeartbeats 2000000 in
theorem within_calls (a0 a1 a2 a3 a4 a5 a6 a7 a8 : Value) (lo hi x : Int) (h1 : a1 = .int .i64 lo) (h2 : a2 = .int .i64 hi) (w : World) :
    Calls Tryd.prog 111 #[.agg #[a0, a1, a2, a3, a4, a5, a6, a7, a8], .int .i64 x] w fun e w' => e = .returned (.bool (decide (lo ≤ x ∧ x ≤ hi))) ∧ Fr (fun _ => False) w w' := by
  subst h1 h2
  obtain ⟨w1, hw1⟩ : ∃ w1, w.alloc (.cells #[a0, .int .i64 lo, .int .i64 hi, a3, a4, a5, a6, a7, a8] 54) = w1 := ⟨_, rfl⟩
  have HF1 := hid (show Fr (fun _ => False) w w1 by rw [← hw1]; exact (Fr.refl _ w).alloc _)
  have HB1 := hid (show Blk w1 w.heap.size 54 #[a0, .int .i64 lo, .int .i64 hi, a3, a4, a5, a6, a7, a8] by rw [← hw1]; exact Blk.new w _ _)
  have HW1 := hid hw1
  clear hw1
  obtain ⟨_, c1, c2, _, _, _, _, _, _⟩ := blk9 HB1.out
  by_cases h1 : lo ≤ x
  · by_cases h2 : x ≤ hi
    · have HE := hid (show decide (lo ≤ x ∧ x ≤ hi) = true by rw [decide_eq_true]; exact ⟨h1, h2⟩)
      go_enter Tryd.func111, Tryd.ntmps111
      go_wp2_with fail
      rw [HW1.out]
      go_wp2_with fail
      go_ret
      exact ⟨ret_bool (by simp; try omega), HF1.out⟩
    · have HE := hid (show decide (lo ≤ x ∧ x ≤ hi) = false by rw [decide_eq_false]; exact fun h => h2 h.2)
      go_enter Tryd.func111, Tryd.ntmps111
      go_wp2_with fail
      rw [HW1.out]
      go_wp2_with fail
      go_ret
      exact ⟨ret_bool (by simp; try omega), HF1.out⟩
  · have HE := hid (show decide (lo ≤ x ∧ x ≤ hi) = false by rw [decide_eq_false]; exact fun h => h1 h.1)
    go_enter Tryd.func111, Tryd.ntmps111
    go_wp2_with fail
    rw [HW1.out]
    go_wp2_with fail
    go_ret
    exact ⟨ret_bool (by simp; try omega), HF1.out⟩

set_option maxRecDepth 20000 in
set_option maxHeartbeats 2000000 in
theorem two_calls (i : Int) (g : Nat) (A : Option Addr) (m c : Nat) (l : List Int) (w : World) (hm : l.length = m) (h1 : 0 < m) (hc : m ≤ c) (hg : w.cell? ⟨g, 7, none⟩ = some (.slice A m c)) (hl : RdI .i64 w A l) :
    Calls Tryd.prog 112 #[.int .i64 i, .pointer (some ⟨g, 0, none⟩)] w fun e w' => e = .returned (.int .i64 (l.getD 0 0)) ∧ Fr (fun _ => False) w w' := by
  obtain ⟨ax, rfl, _, cx⟩ := hl 0 (by omega)
  obtain ⟨x, hx⟩ : ∃ x, l.getD 0 0 = x := ⟨_, rfl⟩
  rw [hx] at cx ⊢
  have cx : w.cell? ax = some (.int .i64 x) := cx
  have hj0 : (0 : Int) < (m : Int) := by omega
  have hj1 : (0 : Int) < (c : Int) := by omega
  clear hx hl hm h1 hc
  go_enter Tryd.func112, Tryd.ntmps112
  go_wp2_with fail
  go_ret
  exact ⟨rfl, Fr.refl _ _⟩
set_option maxRecDepth 20000 in
set_option maxHeartbeats 2000000 in
theorem three_calls (i g : Nat) (A : Option Addr) (m c : Nat) (l : List Int) (w : World) (hm : l.length = m) (h1 : i < m) (hc : m ≤ c) (hg : w.cell? ⟨g, 7, none⟩ = some (.slice A m c)) (hl : RdI .i64 w A l) :
    Calls Tryd.prog 113 #[.int .i64 i, .pointer (some ⟨g, 0, none⟩)] w fun e w' => e = .returned (.int .i64 (l.getD i 0)) ∧ Fr (fun _ => False) w w' := by
  obtain ⟨ax, rfl, _, cx⟩ := hl i (by omega)
  obtain ⟨x, hx⟩ : ∃ x, l.getD i 0 = x := ⟨_, rfl⟩
  rw [hx] at cx ⊢
  have hj : (0 : Int) ≤ (i : Int) := by omega
  have hj0 : (i : Int) < (m : Int) := by omega
  have hj1 : (i : Int) < (c : Int) := by omega
  clear hx hl hm h1 hc
  go_enter Tryd.func113, Tryd.ntmps113
  go_wp2_with fail
  go_ret
  exact ⟨rfl, Fr.refl _ _⟩

set_option maxRecDepth 20000 in
set_option maxHeartbeats 4000000 in
theorem rnumber_calls (k : Int) (n : Nat) (s : ByteArray) (A : Option Addr) (m c : Nat) (lo hi : Int) (l : List It) (w : World) :
    Calls Tryd.prog 84 #[.agg #[.int .i64 k, .int .u64 n, .string s, .slice A m c], .int .i64 lo, .int .i64 hi] w fun e w' => e = .returned (.bool (numV (.mk k n s l) lo hi)) ∧ Fr (fun _ => False) w w' := by
  obtain ⟨p, hp⟩ : ∃ p, numV (.mk k n s l) lo hi = p := ⟨_, rfl⟩
  have HP := hid hp
  rw [hp]
  clear hp
  have HP := hid (show (if 9223372036854775807 < n then false else if k = 0 then decide (lo ≤ (n : Int) ∧ (n : Int) ≤ hi) else decide (k = 1 ∧ lo ≤ -1 - (n : Int) ∧ -1 - (n : Int) ≤ hi)) = p from HP.out)
  obtain ⟨w1, hw1⟩ : ∃ w1, w.alloc (.cells #[.int .i64 k, .int .u64 n, .string s, .slice A m c] 25) = w1 := ⟨_, rfl⟩
  have HF1 := hid (show Fr (fun _ => False) w w1 by rw [← hw1]; exact (Fr.refl _ w).alloc _)
  have HB1 := hid (show Blk w1 w.heap.size 25 #[.int .i64 k, .int .u64 n, .string s, .slice A m c] by rw [← hw1]; exact Blk.new w _ _)
  have HW1 := hid hw1
  clear hw1
  have c0 := HB1.out.cell 0
  have c1 := HB1.out.cell 1
  simp at c0 c1
  by_cases h1 : 9223372036854775807 < n
  · have HE := hid (show p = false by rw [← HP.out, if_pos h1])
    go_enter Tryd.func84, Tryd.ntmps84
    go_wp2_with fail
    rw [HW1.out]
    go_wp2_with fail
    go_ret
    exact ⟨ret_bool HE.out.symm, HF1.out⟩
  · by_cases h2 : k = 0
    · subst h2
      have HE := hid (show p = decide (lo ≤ (n : Int) ∧ (n : Int) ≤ hi) by rw [← HP.out, if_neg h1, if_pos rfl])
      by_cases g1 : (n : Int) ≥ lo
      · by_cases g2 : (n : Int) ≤ hi
        · go_enter Tryd.func84, Tryd.ntmps84
          go_wp2_with fail
          rw [HW1.out]
          go_wp2_with fail
          go_ret
          exact ⟨ret_bool (by rw [HE.out, decide_eq_true]; exact ⟨g1, g2⟩), HF1.out⟩
        · go_enter Tryd.func84, Tryd.ntmps84
          go_wp2_with fail
          rw [HW1.out]
          go_wp2_with fail
          go_ret
          exact ⟨ret_bool (by rw [HE.out, decide_eq_false]; exact fun h => by omega), HF1.out⟩
      · go_enter Tryd.func84, Tryd.ntmps84
        go_wp2_with fail
        rw [HW1.out]
        go_wp2_with fail
        go_ret
        exact ⟨ret_bool (by rw [HE.out, decide_eq_false]; exact fun h => by omega), HF1.out⟩
    · by_cases h3 : k = 1
      · subst h3
        have HE := hid (show p = decide (lo ≤ -1 - (n : Int) ∧ -1 - (n : Int) ≤ hi) by rw [← HP.out, if_neg h1, if_neg h2]; simp)
        by_cases g1 : (-1 - (n : Int)) ≥ lo
        · by_cases g2 : (-1 - (n : Int)) ≤ hi
          · go_enter Tryd.func84, Tryd.ntmps84
            go_wp2_with fail
            rw [HW1.out]
            go_wp2_with fail
            go_ret
            exact ⟨ret_bool (by rw [HE.out, decide_eq_true]; exact ⟨g1, g2⟩), HF1.out⟩
          · go_enter Tryd.func84, Tryd.ntmps84
            go_wp2_with fail
            rw [HW1.out]
            go_wp2_with fail
            go_ret
            exact ⟨ret_bool (by rw [HE.out, decide_eq_false]; exact fun h => by omega), HF1.out⟩
        · go_enter Tryd.func84, Tryd.ntmps84
          go_wp2_with fail
          rw [HW1.out]
          go_wp2_with fail
          go_ret
          exact ⟨ret_bool (by rw [HE.out, decide_eq_false]; exact fun h => by omega), HF1.out⟩
      · have HE := hid (show p = false by rw [← HP.out, if_neg h1, if_neg h2]; simp [h3])
        go_enter Tryd.func84, Tryd.ntmps84
        go_wp2_with fail
        rw [HW1.out]
        go_wp2_with fail
        go_ret
        exact ⟨ret_bool HE.out.symm, HF1.out⟩
end Go.Proofs.YtkmgiodhaaajjaaDoor.DenA
