/- Layer denote: an item's number; bounds; the nodes that a node names, one by one. Layer denote: all items of a list against nodes. Layer denote: the field of a pair. Layer denote: a map against a record. Layer denote: one of the nodes of a choice. -/
import Derived.Test.YtkmgiodhaaajjaaDoorDenP
import Derived.Test.YtkmgiodhaaajjaaDoorSchGJ
import Derived.Deep.RegionHeld3
import Derived.Deep.QuietTactic
import Derived.BigQuiet
set_option linter.unusedVariables false
set_option linter.unusedSimpArgs false
namespace Go.Proofs.YtkmgiodhaaajjaaDoor.DenA
open Go.IntWalk Go.RowKit Go.Proofs.YtkmgiodhaaajjaaDoor.Mem Go.Proofs.YtkmgiodhaaajjaaDoor.App Go.Proofs.YtkmgiodhaaajjaaDoor.FloatB Go.Proofs.YtkmgiodhaaajjaaDoor.ItemP Go.Proofs.YtkmgiodhaaajjaaDoor.ItemM Go.Proofs.YtkmgiodhaaajjaaDoor.SchP Go.Proofs.YtkmgiodhaaajjaaDoor.SchM Go.Proofs.YtkmgiodhaaajjaaDoor.SchG Go.Proofs.YtkmgiodhaaajjaaDoor.SchJ Go.Proofs.YtkmgiodhaaajjaaDoor.DenP

/-- What Number tells. -/
def numP (k : Int) (n : Nat) : Int × Bool := if 9223372036854775807 < n then (0, false) else if k = 0 then ((n : Int), true) else if k = 1 then (-1 - (n : Int), true) else (0, false)

set_option maxRecDepth 20000 in
set_option maxHeartbeats 2000000 in
theorem number_calls (k : Int) (n : Nat) (s : ByteArray) (A : Option Addr) (m c : Nat) (w : World) :
    Calls Tryd.prog 47 #[.agg #[.int .i64 k, .int .u64 n, .string s, .slice A m c]] w fun e w' => e = .returned (.tuple #[.int .i64 (numP k n).1, .bool (numP k n).2]) ∧ Fr (fun _ => False) w w' := by
  obtain ⟨p, hp⟩ : ∃ p, numP k n = p := ⟨_, rfl⟩
  have HP := hid hp
  rw [hp]
  clear hp
  obtain ⟨w1, hw1⟩ : ∃ w1, w.alloc (.cells #[.int .i64 k, .int .u64 n, .string s, .slice A m c] 25) = w1 := ⟨_, rfl⟩
  have HF1 := hid (show Fr (fun _ => False) w w1 by rw [← hw1]; exact (Fr.refl _ w).alloc _)
  have HB1 := hid (show Blk w1 w.heap.size 25 #[.int .i64 k, .int .u64 n, .string s, .slice A m c] by rw [← hw1]; exact Blk.new w _ _)
  have HW1 := hid hw1
  clear hw1
  have c0 := HB1.out.cell 0
  have c1 := HB1.out.cell 1
  simp at c0 c1
  by_cases h1 : 9223372036854775807 < n
  · have HE := hid (show p = (0, false) by rw [← HP.out, numP, if_pos h1])
    go_enter Tryd.func47, Tryd.ntmps47
    go_wp2_with fail
    rw [HW1.out]
    go_wp2_with fail
    go_ret2
    exact ⟨by rw [HE.out]; rfl, HF1.out⟩
  · by_cases h2 : k = 0
    · subst h2
      have HE := hid (show p = ((n : Int), true) by rw [← HP.out, numP, if_neg h1, if_pos rfl])
      go_enter Tryd.func47, Tryd.ntmps47
      go_wp2_with fail
      rw [HW1.out]
      go_wp2_with fail
      go_ret2
      exact ⟨by rw [HE.out]; rfl, HF1.out⟩
    · by_cases h3 : k = 1
      · subst h3
        have HE := hid (show p = (-1 - (n : Int), true) by rw [← HP.out, numP, if_neg h1, if_neg h2, if_pos rfl])
        go_enter Tryd.func47, Tryd.ntmps47
        go_wp2_with fail
        rw [HW1.out]
        go_wp2_with fail
        go_ret2
        exact ⟨by rw [HE.out]; rfl, HF1.out⟩
      · have HE := hid (show p = (0, false) by rw [← HP.out, numP, if_neg h1, if_neg h2, if_neg h3])
        go_enter Tryd.func47, Tryd.ntmps47
        go_wp2_with fail
        rw [HW1.out]
        go_wp2_with fail
        go_ret2
        exact ⟨by rw [HE.out]; rfl, HF1.out⟩

set_option maxRecDepth 20000 in
set_option maxHeartbeats 2000000 in
theorem within_calls (a0 a1 a2 a3 a4 a5 a6 a7 a8 : Value) (lo hi x : Int) (h1 : a1 = .int .i64 lo) (h2 : a2 = .int .i64 hi) (w : World) :
    Calls Tryd.prog 111 #[.agg #[a0, a1, a2, a3, a4, a5, a6, a7, a8], .int .i64 x] w fun e w' => e = .returned (.bool (decide (lo ≤ x ∧ x ≤ hi))) ∧ Fr (fun _ => False) w w' := by
  subst h1 h2
  obtain ⟨w1, hw1⟩ : ∃ w1, w.alloc (.cells #[a0, .int .i64 lo, .int .i64 hi, a3, a4, a5, a6, a7, a8] 54) = w1 := ⟨_, rfl⟩
  have HF1 := hid (show Fr (fun _ => False) w w1 by rw [← hw1]; exact (Fr.refl _ w).alloc _)
  have HB1 := hid (show Blk w1 w.heap.size 54 #[a0, .int .i64 lo, .int .i64 hi, a3, a4, a5, a6, a7, a8] by rw [← hw1]; exact Blk.new w _ _)
  have HW1 := hid hw1
  clear hw1
  obtain ⟨_, c1, c2, _, _, _, _, _, _⟩ := blk9 HB1.out
  by_cases h1 : lo ≤ x
  · by_cases h2 : x ≤ hi
    · have HE := hid (show decide (lo ≤ x ∧ x ≤ hi) = true by rw [decide_eq_true]; exact ⟨h1, h2⟩)
      go_enter Tryd.func111, Tryd.ntmps111
      go_wp2_with fail
      rw [HW1.out]
      go_wp2_with fail
      go_ret
      exact ⟨ret_bool (by simp; try omega), HF1.out⟩
    · have HE := hid (show decide (lo ≤ x ∧ x ≤ hi) = false by rw [decide_eq_false]; exact fun h => h2 h.2)
      go_enter Tryd.func111, Tryd.ntmps111
      go_wp2_with fail
      rw [HW1.out]
      go_wp2_with fail
      go_ret
      exact ⟨ret_bool (by simp; try omega), HF1.out⟩
  · have HE := hid (show decide (lo ≤ x ∧ x ≤ hi) = false by rw [decide_eq_false]; exact fun h => h1 h.1)
    go_enter Tryd.func111, Tryd.ntmps111
    go_wp2_with fail
    rw [HW1.out]
    go_wp2_with fail
    go_ret
    exact ⟨ret_bool (by simp; try omega), HF1.out⟩

set_option maxRecDepth 20000 in
set_option maxHeartbeats 2000000 in
theorem two_calls (i : Int) (g : Nat) (A : Option Addr) (m c : Nat) (l : List Int) (w : World) (hm : l.length = m) (h1 : 0 < m) (hc : m ≤ c) (hg : w.cell? ⟨g, 7, none⟩ = some (.slice A m c)) (hl : RdI .i64 w A l) :
    Calls Tryd.prog 112 #[.int .i64 i, .pointer (some ⟨g, 0, none⟩)] w fun e w' => e = .returned (.int .i64 (l.getD 0 0)) ∧ Fr (fun _ => False) w w' := by
  obtain ⟨ax, rfl, _, cx⟩ := hl 0 (by omega)
  obtain ⟨x, hx⟩ : ∃ x, l.getD 0 0 = x := ⟨_, rfl⟩
  rw [hx] at cx ⊢
  have cx : w.cell? ax = some (.int .i64 x) := cx
  have hj0 : (0 : Int) < (m : Int) := by omega
  have hj1 : (0 : Int) < (c : Int) := by omega
  clear hx hl hm h1 hc
  go_enter Tryd.func112, Tryd.ntmps112
  go_wp2_with fail
  go_ret
  exact ⟨rfl, Fr.refl _ _⟩
set_option maxRecDepth 20000 in
set_option maxHeartbeats 2000000 in
theorem three_calls (i g : Nat) (A : Option Addr) (m c : Nat) (l : List Int) (w : World) (hm : l.length = m) (h1 : i < m) (hc : m ≤ c) (hg : w.cell? ⟨g, 7, none⟩ = some (.slice A m c)) (hl : RdI .i64 w A l) :
    Calls Tryd.prog 113 #[.int .i64 i, .pointer (some ⟨g, 0, none⟩)] w fun e w' => e = .returned (.int .i64 (l.getD i 0)) ∧ Fr (fun _ => False) w w' := by
  obtain ⟨ax, rfl, _, cx⟩ := hl i (by omega)
  obtain ⟨x, hx⟩ : ∃ x, l.getD i 0 = x := ⟨_, rfl⟩
  rw [hx] at cx ⊢
  have hj : (0 : Int) ≤ (i : Int) := by omega
  have hj0 : (i : Int) < (m : Int) := by omega
  have hj1 : (i : Int) < (c : Int) := by omega
  clear hx hl hm h1 hc
  go_enter Tryd.func113, Tryd.ntmps113
  go_wp2_with fail
  go_ret
  exact ⟨rfl, Fr.refl _ _⟩

set_option maxRecDepth 20000 in
set_option maxHeartbeats 4000000 in
theorem rnumber_calls (k : Int) (n : Nat) (s : ByteArray) (A : Option Addr) (m c : Nat) (lo hi : Int) (l : List It) (w : World) :
    Calls Tryd.prog 84 #[.agg #[.int .i64 k, .int .u64 n, .string s, .slice A m c], .int .i64 lo, .int .i64 hi] w fun e w' => e = .returned (.bool (numV (.mk k n s l) lo hi)) ∧ Fr (fun _ => False) w w' := by
  obtain ⟨p, hp⟩ : ∃ p, numV (.mk k n s l) lo hi = p := ⟨_, rfl⟩
  have HP := hid hp
  rw [hp]
  clear hp
  have HP := hid (show (if 9223372036854775807 < n then false else if k = 0 then decide (lo ≤ (n : Int) ∧ (n : Int) ≤ hi) else decide (k = 1 ∧ lo ≤ -1 - (n : Int) ∧ -1 - (n : Int) ≤ hi)) = p from HP.out)
  obtain ⟨w1, hw1⟩ : ∃ w1, w.alloc (.cells #[.int .i64 k, .int .u64 n, .string s, .slice A m c] 25) = w1 := ⟨_, rfl⟩
  have HF1 := hid (show Fr (fun _ => False) w w1 by rw [← hw1]; exact (Fr.refl _ w).alloc _)
  have HB1 := hid (show Blk w1 w.heap.size 25 #[.int .i64 k, .int .u64 n, .string s, .slice A m c] by rw [← hw1]; exact Blk.new w _ _)
  have HW1 := hid hw1
  clear hw1
  have c0 := HB1.out.cell 0
  have c1 := HB1.out.cell 1
  simp at c0 c1
  by_cases h1 : 9223372036854775807 < n
  · have HE := hid (show p = false by rw [← HP.out, if_pos h1])
    go_enter Tryd.func84, Tryd.ntmps84
    go_wp2_with fail
    rw [HW1.out]
    go_wp2_with fail
    go_ret
    exact ⟨ret_bool HE.out.symm, HF1.out⟩
  · by_cases h2 : k = 0
    · subst h2
      have HE := hid (show p = decide (lo ≤ (n : Int) ∧ (n : Int) ≤ hi) by rw [← HP.out, if_neg h1, if_pos rfl])
      by_cases g1 : (n : Int) ≥ lo
      · by_cases g2 : (n : Int) ≤ hi
        · go_enter Tryd.func84, Tryd.ntmps84
          go_wp2_with fail
          rw [HW1.out]
          go_wp2_with fail
          go_ret
          exact ⟨ret_bool (by rw [HE.out, decide_eq_true]; exact ⟨g1, g2⟩), HF1.out⟩
        · go_enter Tryd.func84, Tryd.ntmps84
          go_wp2_with fail
          rw [HW1.out]
          go_wp2_with fail
          go_ret
          exact ⟨ret_bool (by rw [HE.out, decide_eq_false]; exact fun h => by omega), HF1.out⟩
      · go_enter Tryd.func84, Tryd.ntmps84
        go_wp2_with fail
        rw [HW1.out]
        go_wp2_with fail
        go_ret
        exact ⟨ret_bool (by rw [HE.out, decide_eq_false]; exact fun h => by omega), HF1.out⟩
    · by_cases h3 : k = 1
      · subst h3
        have HE := hid (show p = decide (lo ≤ -1 - (n : Int) ∧ -1 - (n : Int) ≤ hi) by rw [← HP.out, if_neg h1, if_neg h2]; simp)
        by_cases g1 : (-1 - (n : Int)) ≥ lo
        · by_cases g2 : (-1 - (n : Int)) ≤ hi
          · go_enter Tryd.func84, Tryd.ntmps84
            go_wp2_with fail
            rw [HW1.out]
            go_wp2_with fail
            go_ret
            exact ⟨ret_bool (by rw [HE.out, decide_eq_true]; exact ⟨g1, g2⟩), HF1.out⟩
          · go_enter Tryd.func84, Tryd.ntmps84
            go_wp2_with fail
            rw [HW1.out]
            go_wp2_with fail
            go_ret
            exact ⟨ret_bool (by rw [HE.out, decide_eq_false]; exact fun h => by omega), HF1.out⟩
        · go_enter Tryd.func84, Tryd.ntmps84
          go_wp2_with fail
          rw [HW1.out]
          go_wp2_with fail
          go_ret
          exact ⟨ret_bool (by rw [HE.out, decide_eq_false]; exact fun h => by omega), HF1.out⟩
      · have HE := hid (show p = false by rw [← HP.out, if_neg h1, if_neg h2]; simp [h3])
        go_enter Tryd.func84, Tryd.ntmps84
        go_wp2_with fail
        rw [HW1.out]
        go_wp2_with fail
        go_ret
        exact ⟨ret_bool HE.out.symm, HF1.out⟩
end Go.Proofs.YtkmgiodhaaajjaaDoor.DenA

namespace Go.Proofs.YtkmgiodhaaajjaaDoor.DenB
open Go.IntWalk Go.RowKit Go.Proofs.YtkmgiodhaaajjaaDoor.Mem Go.Proofs.YtkmgiodhaaajjaaDoor.App Go.Proofs.YtkmgiodhaaajjaaDoor.FloatB Go.Proofs.YtkmgiodhaaajjaaDoor.ItemP Go.Proofs.YtkmgiodhaaajjaaDoor.ItemM Go.Proofs.YtkmgiodhaaajjaaDoor.SchP Go.Proofs.YtkmgiodhaaajjaaDoor.SchM Go.Proofs.YtkmgiodhaaajjaaDoor.SchG Go.Proofs.YtkmgiodhaaajjaaDoor.SchJ Go.Proofs.YtkmgiodhaaajjaaDoor.DenP

theorem all_snoc {m j : Nat} {B : Nat → Bool} (hj : j < m) (h : B j = false) : (List.range m).all B = false := by
  rw [List.all_eq_false]
  exact ⟨j, List.mem_range.2 hj, by rw [h]; simp⟩
theorem all_yes {m : Nat} {B : Nat → Bool} (h : ∀ q, q < m → B q = true) : (List.range m).all B = true := List.all_eq_true.2 (fun q hq => h q (List.mem_range.1 hq))

set_option maxRecDepth 100000 in
set_option maxHeartbeats 4000000 in
theorem all2_calls (w0 : World) (A : Option Addr) (M c lo hi gs gx g : Nat) (l : List It) (Ax : Option Addr) (m cx : Nat) (T : Nat → Int) (B : Nat → Bool) (hm : l.length = m) (hc : m ≤ cx) (hml : m ≤ 2000000) (hh : hi ≤ w0.heap.size) (hL : ItsAt w0 lo hi l Ax 0)
    (hs : w0.cell? ⟨gs, 0, none⟩ = some (.slice A M c)) (hx : w0.cell? ⟨gx, 3, none⟩ = some (.slice Ax m cx)) (hsb : gs < w0.heap.size)
    (hat : ∀ w', Fr (fun _ => False) w0 w' → ∀ k : Nat, k < m → Calls Tryd.prog 112 #[.int .i64 (k : Int), .pointer (some ⟨g, 0, none⟩)] w' fun e w'' => e = .returned (.int .i64 (T k)) ∧ Fr (fun _ => False) w' w'')
    (hma : ∀ w', Fr (fun _ => False) w0 w' → ∀ k : Nat, k < m → ∀ cs, ItAt w0 lo hi (l.getD k noIt) cs → Calls Tryd.prog 83 #[.agg #[.slice A M c], .int .i64 (T k), .agg cs.toArray] w' fun e w'' => e = .returned (.bool (B k)) ∧ Fr (fun _ => False) w' w'') :
    Calls Tryd.prog 110 #[.func (.func 112) #[] #[.pointer (some ⟨g, 0, none⟩)], .pointer (some ⟨gx, 0, none⟩), .pointer (some ⟨gs, 0, none⟩)] w0 fun e w' => e = .returned (.bool ((List.range m).all B)) ∧ Fr (fun _ => False) w0 w' := by
  have HM := hid hm
  have HL := hid hL
  have HAT := hid hat
  have HMA := hid hma
  have HSC := hid hs
  have HSB := hid hsb
  clear hm hL hat hma hs hsb
  go_enter Tryd.func110, Tryd.ntmps110
  go_wp2_with fail
  go_loopw [10] (fun i wr => ∃ j : Nat, j ≤ m ∧ i = .int .i64 j ∧ Hid (∀ q, q < j → B q = true) ∧ Hid (Fr (fun _ => False) w0 wr)) (fun i _ => m - (intOf i).toNat)
  case atStart => exact ⟨0, Nat.zero_le _, rfl, hid (fun q hq => by omega), hid (Fr.refl _ _)⟩
  case round =>
    obtain ⟨j, hj, rfl, HA, HF⟩ := hrel
    by_cases hlt : j < m
    · obtain ⟨ad, k', n', s', l2, A', c', rfl, hla, hab, hx', b0, b1, b2, b3, hch⟩ := ItsAt.kid HL.out j (by rw [HM.out]; exact hlt)
      have hbk : (ad.add (j * 4)).block < w0.heap.size := by rw [block_of_add]; omega
      have c0 := (HF.out.cell hbk (fun h => h)).trans b0
      have c1 := (HF.out.cell (p := ⟨_, _, none⟩) hbk (fun h => h)).trans b1
      have c2 := (HF.out.cell (p := ⟨_, _, none⟩) hbk (fun h => h)).trans b2
      have c3 := (HF.out.cell (p := ⟨_, _, none⟩) hbk (fun h => h)).trans b3
      have HKM := hid (HMA.out)
      obtain ⟨t, ht⟩ : ∃ t, T j = t := ⟨_, rfl⟩
      obtain ⟨b, hb⟩ : ∃ b, B j = b := ⟨_, rfl⟩
      have HT := hid ht
      have HB := hid hb
      have HCH := hid (show ItAt w0 lo hi (l.getD j noIt) [.int .i64 k', .int .u64 n', .string s', .slice A' l2.length c'] by rw [getD_it (by rw [HM.out]; exact hlt), hx']; exact hch)
      obtain ⟨q2, hq2⟩ : ∃ q, l2.length = q := ⟨_, rfl⟩
      rw [hq2] at c3 HCH
      clear b0 b1 b2 b3 hx' hch hq2 hla hab hbk ht hb
      have hj0 : (0 : Int) ≤ (j : Int) := by omega
      have hjm : (j : Int) < (m : Int) := by omega
      have hjc : (j : Int) < (cx : Int) := by omega
      obtain ⟨w1, hw1⟩ : ∃ w1, wr.alloc (.cells #[.int .i64 k', .int .u64 n', .string s', .slice A' q2 c'] 25) = w1 := ⟨_, rfl⟩
      have HF1 := hid (show Fr (fun _ => False) w0 w1 by rw [← hw1]; exact HF.out.alloc _)
      have HB1 := hid (show Blk w1 wr.heap.size 25 #[.int .i64 k', .int .u64 n', .string s', .slice A' q2 c'] by rw [← hw1]; exact Blk.new wr _ _)
      have HW1 := hid hw1
      clear hw1
      have HS := hid (show ∀ w', Fr (fun _ => False) w1 w' → w'.cell? ⟨gs, 0, none⟩ = some (.slice A M c) ∧ w'.cell? ⟨wr.heap.size, 0, none⟩ = some (.int .i64 k') ∧ w'.cell? ⟨wr.heap.size, 1, none⟩ = some (.int .u64 n') ∧ w'.cell? ⟨wr.heap.size, 2, none⟩ = some (.string s') ∧ w'.cell? ⟨wr.heap.size, 3, none⟩ = some (.slice A' q2 c') ∧ Fr (fun _ => False) w1 w' from fun w' hf => by
        have hB := HB1.out.fr hf (fun h => h)
        have e0 := hB.cell 0
        have e1 := hB.cell 1
        have e2 := hB.cell 2
        have e3 := hB.cell 3
        simp at e0 e1 e2 e3
        exact ⟨((HF1.out.trans hf).cell (p := ⟨_, _, none⟩) HSB.out (fun h => h)).trans HSC.out, e0, e1, e2, e3, hf⟩)
      have HCL := hid (fun wx (hf : wx.cell? ⟨gs, 0, none⟩ = some (.slice A M c) ∧ wx.cell? ⟨wr.heap.size, 0, none⟩ = some (.int .i64 k') ∧ wx.cell? ⟨wr.heap.size, 1, none⟩ = some (.int .u64 n') ∧ wx.cell? ⟨wr.heap.size, 2, none⟩ = some (.string s') ∧ wx.cell? ⟨wr.heap.size, 3, none⟩ = some (.slice A' q2 c') ∧ Fr (fun _ => False) w1 wx) => (HAT.out wx (HF1.out.trans hf.2.2.2.2.2) j hlt).mono (R' := fun e w' => e = .returned (.int .i64 t) ∧ w'.cell? ⟨gs, 0, none⟩ = some (.slice A M c) ∧ w'.cell? ⟨wr.heap.size, 0, none⟩ = some (.int .i64 k') ∧ w'.cell? ⟨wr.heap.size, 1, none⟩ = some (.int .u64 n') ∧ w'.cell? ⟨wr.heap.size, 2, none⟩ = some (.string s') ∧ w'.cell? ⟨wr.heap.size, 3, none⟩ = some (.slice A' q2 c') ∧ Fr (fun _ => False) w1 w') (fun e w' g => ⟨by rw [g.1, HT.out], HS.out w' (hf.2.2.2.2.2.then_ g.2 (fun _ _ h => h))⟩))
      have HCM := hid (fun wx (hf : wx.cell? ⟨gs, 0, none⟩ = some (.slice A M c) ∧ wx.cell? ⟨wr.heap.size, 0, none⟩ = some (.int .i64 k') ∧ wx.cell? ⟨wr.heap.size, 1, none⟩ = some (.int .u64 n') ∧ wx.cell? ⟨wr.heap.size, 2, none⟩ = some (.string s') ∧ wx.cell? ⟨wr.heap.size, 3, none⟩ = some (.slice A' q2 c') ∧ Fr (fun _ => False) w1 wx) => (show Calls Tryd.prog 83 #[.agg #[.slice A M c], .int .i64 t, .agg #[.int .i64 k', .int .u64 n', .string s', .slice A' q2 c']] wx _ from HT.out ▸ HMA.out wx (HF1.out.trans hf.2.2.2.2.2) j hlt _ HCH.out).mono (R' := fun e w' => e = .returned (.bool b) ∧ w'.cell? ⟨gs, 0, none⟩ = some (.slice A M c) ∧ w'.cell? ⟨wr.heap.size, 0, none⟩ = some (.int .i64 k') ∧ w'.cell? ⟨wr.heap.size, 1, none⟩ = some (.int .u64 n') ∧ w'.cell? ⟨wr.heap.size, 2, none⟩ = some (.string s') ∧ w'.cell? ⟨wr.heap.size, 3, none⟩ = some (.slice A' q2 c') ∧ Fr (fun _ => False) w1 w') (fun e w' g => ⟨by rw [g.1, HB.out], HS.out w' (hf.2.2.2.2.2.then_ g.2 (fun _ _ h => h))⟩))
      cases b with
      | true =>
        go_wp2_with fail
        rw [HW1.out]
        go_region_held3 (fun w' => w'.cell? ⟨gs, 0, none⟩ = some (.slice A M c) ∧ w'.cell? ⟨wr.heap.size, 0, none⟩ = some (.int .i64 k') ∧ w'.cell? ⟨wr.heap.size, 1, none⟩ = some (.int .u64 n') ∧ w'.cell? ⟨wr.heap.size, 2, none⟩ = some (.string s') ∧ w'.cell? ⟨wr.heap.size, 3, none⟩ = some (.slice A' q2 c') ∧ Fr (fun _ => False) w1 w')
          (first | exact HS.out _ (Fr.refl _ _) | exact HS.out _ (Fr.refl _ _).drew | assumption)
          (first
            | ((go_at_call 112; with_reducible refine (HCL.out _ (by assumption)).mono ?_; rintro e' w8 ⟨rfl, hS⟩))
            | ((go_at_call 83; with_reducible refine (HCM.out _ (by assumption)).mono ?_; rintro e' w8 ⟨rfl, hS⟩)))
        all_goals
          go_wp2_with fail
          go_roundw
          case rel => exact ⟨j + 1, by omega, by go_num, hid (fun q hq => by
            by_cases h : q < j
            · exact HA.out q h
            · obtain rfl : q = j := by omega
              exact HB.out), hid (HF1.out.trans hS.2.2.2.2.2)⟩
          case measure => simp [intOf]; omega
      | false =>
        go_wp2_with fail
        rw [HW1.out]
        go_region_held3 (fun w' => w'.cell? ⟨gs, 0, none⟩ = some (.slice A M c) ∧ w'.cell? ⟨wr.heap.size, 0, none⟩ = some (.int .i64 k') ∧ w'.cell? ⟨wr.heap.size, 1, none⟩ = some (.int .u64 n') ∧ w'.cell? ⟨wr.heap.size, 2, none⟩ = some (.string s') ∧ w'.cell? ⟨wr.heap.size, 3, none⟩ = some (.slice A' q2 c') ∧ Fr (fun _ => False) w1 w')
          (first | exact HS.out _ (Fr.refl _ _) | exact HS.out _ (Fr.refl _ _).drew | assumption)
          (first
            | ((go_at_call 112; with_reducible refine (HCL.out _ (by assumption)).mono ?_; rintro e' w8 ⟨rfl, hS⟩))
            | ((go_at_call 83; with_reducible refine (HCM.out _ (by assumption)).mono ?_; rintro e' w8 ⟨rfl, hS⟩)))
        all_goals
          go_wp2_with fail
          go_ret
          exact ⟨ret_bool (all_snoc hlt HB.out).symm, HF1.out.trans hS.2.2.2.2.2⟩
    · obtain rfl : j = m := by omega
      go_wp2_with fail
      go_ret
      exact ⟨ret_bool (all_yes HA.out).symm, HF.out⟩

set_option maxRecDepth 100000 in
set_option maxHeartbeats 4000000 in
theorem all3_calls (w0 : World) (A : Option Addr) (M c lo hi gs gx g : Nat) (l : List It) (Ax : Option Addr) (m cx : Nat) (T : Nat → Int) (B : Nat → Bool) (hm : l.length = m) (hc : m ≤ cx) (hml : m ≤ 2000000) (hh : hi ≤ w0.heap.size) (hL : ItsAt w0 lo hi l Ax 0)
    (hs : w0.cell? ⟨gs, 0, none⟩ = some (.slice A M c)) (hx : w0.cell? ⟨gx, 3, none⟩ = some (.slice Ax m cx)) (hsb : gs < w0.heap.size)
    (hat : ∀ w', Fr (fun _ => False) w0 w' → ∀ k : Nat, k < m → Calls Tryd.prog 113 #[.int .i64 (k : Int), .pointer (some ⟨g, 0, none⟩)] w' fun e w'' => e = .returned (.int .i64 (T k)) ∧ Fr (fun _ => False) w' w'')
    (hma : ∀ w', Fr (fun _ => False) w0 w' → ∀ k : Nat, k < m → ∀ cs, ItAt w0 lo hi (l.getD k noIt) cs → Calls Tryd.prog 83 #[.agg #[.slice A M c], .int .i64 (T k), .agg cs.toArray] w' fun e w'' => e = .returned (.bool (B k)) ∧ Fr (fun _ => False) w' w'') :
    Calls Tryd.prog 110 #[.func (.func 113) #[] #[.pointer (some ⟨g, 0, none⟩)], .pointer (some ⟨gx, 0, none⟩), .pointer (some ⟨gs, 0, none⟩)] w0 fun e w' => e = .returned (.bool ((List.range m).all B)) ∧ Fr (fun _ => False) w0 w' := by
  have HM := hid hm
  have HL := hid hL
  have HAT := hid hat
  have HMA := hid hma
  have HSC := hid hs
  have HSB := hid hsb
  clear hm hL hat hma hs hsb
  go_enter Tryd.func110, Tryd.ntmps110
  go_wp2_with fail
  go_loopw [10] (fun i wr => ∃ j : Nat, j ≤ m ∧ i = .int .i64 j ∧ Hid (∀ q, q < j → B q = true) ∧ Hid (Fr (fun _ => False) w0 wr)) (fun i _ => m - (intOf i).toNat)
  case atStart => exact ⟨0, Nat.zero_le _, rfl, hid (fun q hq => by omega), hid (Fr.refl _ _)⟩
  case round =>
    obtain ⟨j, hj, rfl, HA, HF⟩ := hrel
    by_cases hlt : j < m
    · obtain ⟨ad, k', n', s', l2, A', c', rfl, hla, hab, hx', b0, b1, b2, b3, hch⟩ := ItsAt.kid HL.out j (by rw [HM.out]; exact hlt)
      have hbk : (ad.add (j * 4)).block < w0.heap.size := by rw [block_of_add]; omega
      have c0 := (HF.out.cell hbk (fun h => h)).trans b0
      have c1 := (HF.out.cell (p := ⟨_, _, none⟩) hbk (fun h => h)).trans b1
      have c2 := (HF.out.cell (p := ⟨_, _, none⟩) hbk (fun h => h)).trans b2
      have c3 := (HF.out.cell (p := ⟨_, _, none⟩) hbk (fun h => h)).trans b3
      have HKM := hid (HMA.out)
      obtain ⟨t, ht⟩ : ∃ t, T j = t := ⟨_, rfl⟩
      obtain ⟨b, hb⟩ : ∃ b, B j = b := ⟨_, rfl⟩
      have HT := hid ht
      have HB := hid hb
      have HCH := hid (show ItAt w0 lo hi (l.getD j noIt) [.int .i64 k', .int .u64 n', .string s', .slice A' l2.length c'] by rw [getD_it (by rw [HM.out]; exact hlt), hx']; exact hch)
      obtain ⟨q2, hq2⟩ : ∃ q, l2.length = q := ⟨_, rfl⟩
      rw [hq2] at c3 HCH
      clear b0 b1 b2 b3 hx' hch hq2 hla hab hbk ht hb
      have hj0 : (0 : Int) ≤ (j : Int) := by omega
      have hjm : (j : Int) < (m : Int) := by omega
      have hjc : (j : Int) < (cx : Int) := by omega
      obtain ⟨w1, hw1⟩ : ∃ w1, wr.alloc (.cells #[.int .i64 k', .int .u64 n', .string s', .slice A' q2 c'] 25) = w1 := ⟨_, rfl⟩
      have HF1 := hid (show Fr (fun _ => False) w0 w1 by rw [← hw1]; exact HF.out.alloc _)
      have HB1 := hid (show Blk w1 wr.heap.size 25 #[.int .i64 k', .int .u64 n', .string s', .slice A' q2 c'] by rw [← hw1]; exact Blk.new wr _ _)
      have HW1 := hid hw1
      clear hw1
      have HS := hid (show ∀ w', Fr (fun _ => False) w1 w' → w'.cell? ⟨gs, 0, none⟩ = some (.slice A M c) ∧ w'.cell? ⟨wr.heap.size, 0, none⟩ = some (.int .i64 k') ∧ w'.cell? ⟨wr.heap.size, 1, none⟩ = some (.int .u64 n') ∧ w'.cell? ⟨wr.heap.size, 2, none⟩ = some (.string s') ∧ w'.cell? ⟨wr.heap.size, 3, none⟩ = some (.slice A' q2 c') ∧ Fr (fun _ => False) w1 w' from fun w' hf => by
        have hB := HB1.out.fr hf (fun h => h)
        have e0 := hB.cell 0
        have e1 := hB.cell 1
        have e2 := hB.cell 2
        have e3 := hB.cell 3
        simp at e0 e1 e2 e3
        exact ⟨((HF1.out.trans hf).cell (p := ⟨_, _, none⟩) HSB.out (fun h => h)).trans HSC.out, e0, e1, e2, e3, hf⟩)
      have HCL := hid (fun wx (hf : wx.cell? ⟨gs, 0, none⟩ = some (.slice A M c) ∧ wx.cell? ⟨wr.heap.size, 0, none⟩ = some (.int .i64 k') ∧ wx.cell? ⟨wr.heap.size, 1, none⟩ = some (.int .u64 n') ∧ wx.cell? ⟨wr.heap.size, 2, none⟩ = some (.string s') ∧ wx.cell? ⟨wr.heap.size, 3, none⟩ = some (.slice A' q2 c') ∧ Fr (fun _ => False) w1 wx) => (HAT.out wx (HF1.out.trans hf.2.2.2.2.2) j hlt).mono (R' := fun e w' => e = .returned (.int .i64 t) ∧ w'.cell? ⟨gs, 0, none⟩ = some (.slice A M c) ∧ w'.cell? ⟨wr.heap.size, 0, none⟩ = some (.int .i64 k') ∧ w'.cell? ⟨wr.heap.size, 1, none⟩ = some (.int .u64 n') ∧ w'.cell? ⟨wr.heap.size, 2, none⟩ = some (.string s') ∧ w'.cell? ⟨wr.heap.size, 3, none⟩ = some (.slice A' q2 c') ∧ Fr (fun _ => False) w1 w') (fun e w' g => ⟨by rw [g.1, HT.out], HS.out w' (hf.2.2.2.2.2.then_ g.2 (fun _ _ h => h))⟩))
      have HCM := hid (fun wx (hf : wx.cell? ⟨gs, 0, none⟩ = some (.slice A M c) ∧ wx.cell? ⟨wr.heap.size, 0, none⟩ = some (.int .i64 k') ∧ wx.cell? ⟨wr.heap.size, 1, none⟩ = some (.int .u64 n') ∧ wx.cell? ⟨wr.heap.size, 2, none⟩ = some (.string s') ∧ wx.cell? ⟨wr.heap.size, 3, none⟩ = some (.slice A' q2 c') ∧ Fr (fun _ => False) w1 wx) => (show Calls Tryd.prog 83 #[.agg #[.slice A M c], .int .i64 t, .agg #[.int .i64 k', .int .u64 n', .string s', .slice A' q2 c']] wx _ from HT.out ▸ HMA.out wx (HF1.out.trans hf.2.2.2.2.2) j hlt _ HCH.out).mono (R' := fun e w' => e = .returned (.bool b) ∧ w'.cell? ⟨gs, 0, none⟩ = some (.slice A M c) ∧ w'.cell? ⟨wr.heap.size, 0, none⟩ = some (.int .i64 k') ∧ w'.cell? ⟨wr.heap.size, 1, none⟩ = some (.int .u64 n') ∧ w'.cell? ⟨wr.heap.size, 2, none⟩ = some (.string s') ∧ w'.cell? ⟨wr.heap.size, 3, none⟩ = some (.slice A' q2 c') ∧ Fr (fun _ => False) w1 w') (fun e w' g => ⟨by rw [g.1, HB.out], HS.out w' (hf.2.2.2.2.2.then_ g.2 (fun _ _ h => h))⟩))
      cases b with
      | true =>
        go_wp2_with fail
        rw [HW1.out]
        go_region_held3 (fun w' => w'.cell? ⟨gs, 0, none⟩ = some (.slice A M c) ∧ w'.cell? ⟨wr.heap.size, 0, none⟩ = some (.int .i64 k') ∧ w'.cell? ⟨wr.heap.size, 1, none⟩ = some (.int .u64 n') ∧ w'.cell? ⟨wr.heap.size, 2, none⟩ = some (.string s') ∧ w'.cell? ⟨wr.heap.size, 3, none⟩ = some (.slice A' q2 c') ∧ Fr (fun _ => False) w1 w')
          (first | exact HS.out _ (Fr.refl _ _) | exact HS.out _ (Fr.refl _ _).drew | assumption)
          (first
            | ((go_at_call 113; with_reducible refine (HCL.out _ (by assumption)).mono ?_; rintro e' w8 ⟨rfl, hS⟩))
            | ((go_at_call 83; with_reducible refine (HCM.out _ (by assumption)).mono ?_; rintro e' w8 ⟨rfl, hS⟩)))
        all_goals
          go_wp2_with fail
          go_roundw
          case rel => exact ⟨j + 1, by omega, by go_num, hid (fun q hq => by
            by_cases h : q < j
            · exact HA.out q h
            · obtain rfl : q = j := by omega
              exact HB.out), hid (HF1.out.trans hS.2.2.2.2.2)⟩
          case measure => simp [intOf]; omega
      | false =>
        go_wp2_with fail
        rw [HW1.out]
        go_region_held3 (fun w' => w'.cell? ⟨gs, 0, none⟩ = some (.slice A M c) ∧ w'.cell? ⟨wr.heap.size, 0, none⟩ = some (.int .i64 k') ∧ w'.cell? ⟨wr.heap.size, 1, none⟩ = some (.int .u64 n') ∧ w'.cell? ⟨wr.heap.size, 2, none⟩ = some (.string s') ∧ w'.cell? ⟨wr.heap.size, 3, none⟩ = some (.slice A' q2 c') ∧ Fr (fun _ => False) w1 w')
          (first | exact HS.out _ (Fr.refl _ _) | exact HS.out _ (Fr.refl _ _).drew | assumption)
          (first
            | ((go_at_call 113; with_reducible refine (HCL.out _ (by assumption)).mono ?_; rintro e' w8 ⟨rfl, hS⟩))
            | ((go_at_call 83; with_reducible refine (HCM.out _ (by assumption)).mono ?_; rintro e' w8 ⟨rfl, hS⟩)))
        all_goals
          go_wp2_with fail
          go_ret
          exact ⟨ret_bool (all_snoc hlt HB.out).symm, HF1.out.trans hS.2.2.2.2.2⟩
    · obtain rfl : j = m := by omega
      go_wp2_with fail
      go_ret
      exact ⟨ret_bool (all_yes HA.out).symm, HF.out⟩
end Go.Proofs.YtkmgiodhaaajjaaDoor.DenB

namespace Go.Proofs.YtkmgiodhaaajjaaDoor.DenC
open Go.IntWalk Go.RowKit Go.Proofs.YtkmgiodhaaajjaaDoor.Mem Go.Proofs.YtkmgiodhaaajjaaDoor.App Go.Proofs.YtkmgiodhaaajjaaDoor.FloatB Go.Proofs.YtkmgiodhaaajjaaDoor.ItemP Go.Proofs.YtkmgiodhaaajjaaDoor.ItemM Go.Proofs.YtkmgiodhaaajjaaDoor.ItemB Go.Proofs.YtkmgiodhaaajjaaDoor.SchP Go.Proofs.YtkmgiodhaaajjaaDoor.SchM Go.Proofs.YtkmgiodhaaajjaaDoor.SchG Go.Proofs.YtkmgiodhaaajjaaDoor.SchJ Go.Proofs.YtkmgiodhaaajjaaDoor.DenP

set_option maxRecDepth 20000 in
set_option maxHeartbeats 4000000 in
theorem rec1_calls (lo hi gl gi m cx j : Nat) (i : Int) (l : List It) (Ax : Option Addr) (key : ByteArray) (nd : Int) (opt : Bool) (w : World) (hm : l.length = m) (hc : m ≤ cx) (hL : ItsAt w lo hi l Ax 0)
    (hij : i = 2 * (j : Int)) (hj : 2 * j < m) (hh : hi ≤ w.heap.size) (hl : w.cell? ⟨gl, 0, none⟩ = some (.slice Ax m cx)) (hi' : w.cell? ⟨gi, 0, none⟩ = some (.int .i64 i)) :
    Calls Tryd.prog 133 #[.agg #[.string key, .int .i64 nd, .bool opt], .pointer (some ⟨gl, 0, none⟩), .pointer (some ⟨gi, 0, none⟩)] w fun e w' => e = .returned (.bool (keyAt l j key)) ∧ Fr (fun _ => False) w w' := by
  obtain ⟨ad, k', n', s', l2, A', c', rfl, hla, hab, hx', b0, b1, b2, b3, hch⟩ := ItsAt.kid hL (2 * j) (by omega)
  have HK := hid (show keyAt l j key = (decide (k' = 3) && decide (s' = key)) by unfold keyAt; rw [getD_it (by omega), hx']; rfl)
  obtain ⟨q2, hq2⟩ : ∃ q, l2.length = q := ⟨_, rfl⟩
  rw [hq2] at b3
  obtain ⟨i', hi2⟩ : ∃ i' : Nat, i = (i' : Int) := ⟨2 * j, by omega⟩
  obtain rfl : i' = 2 * j := by omega
  clear hx' hch hq2 hla hm hL
  subst hi2
  have hj0 : (0 : Int) ≤ ((2 * j : Nat) : Int) := by omega
  have hjm : ((2 * j : Nat) : Int) < (m : Int) := by omega
  have hjc : ((2 * j : Nat) : Int) < (cx : Int) := by omega
  obtain ⟨z, hz⟩ : ∃ z, 2 * j = z := ⟨_, rfl⟩
  rw [hz] at b0 b1 b2 b3 hi' hj0 hjm hjc
  clear hij hj hz
  have d0 := fun o => cell_a b0 o
  have d2 := fun o => cell_a b2 o
  have dl := fun o => cell_a hl o
  have di := fun o => cell_a hi' o
  obtain ⟨w1, hw1⟩ : ∃ w1, w.alloc (.cells #[.string key, .int .i64 nd, .bool opt] 111) = w1 := ⟨_, rfl⟩
  have HF1 := hid (show Fr (fun _ => False) w w1 by rw [← hw1]; exact (Fr.refl _ w).alloc _)
  have HB1 := hid (show Blk w1 w.heap.size 111 #[.string key, .int .i64 nd, .bool opt] by rw [← hw1]; exact Blk.new w _ _)
  have d0 : w1.cell? (ad.add (z * 4)) = some (.int .i64 k') := by rw [← hw1]; exact d0 _
  have d2 : w1.cell? ⟨(ad.add (z * 4)).block, (ad.add (z * 4)).off + 2, none⟩ = some (.string s') := by rw [← hw1]; exact d2 _
  have dl : w1.cell? ⟨gl, 0, none⟩ = some (.slice (some ad) m cx) := by rw [← hw1]; exact dl _
  have di : w1.cell? ⟨gi, 0, none⟩ = some (.int .i64 z) := by rw [← hw1]; exact di _
  have HW1 := hid hw1
  clear hw1 b0 b1 b2 b3 hl hi'
  obtain ⟨e0, _, _⟩ := blk3 HB1.out
  by_cases h3 : k' = 3
  · subst h3
    by_cases hs : s' = key
    · subst hs
      go_enter Tryd.func133, Tryd.ntmps133
      go_wp2_with fail
      rw [HW1.out]
      go_quiet (fail)
      go_wp2_with fail
      go_ret
      exact ⟨ret_bool (by rw [HK.out]; simp), HF1.out.drewN _⟩
    · have hde := decide_eq_false hs
      have hb := txt_ne hs
      have HE := hid (show keyAt l j key = false by rw [HK.out, hde]; rfl)
      go_enter Tryd.func133, Tryd.ntmps133
      go_wp2_with fail
      rw [HW1.out]
      go_quiet (fail)
      go_wp2_with fail
      go_ret
      exact ⟨ret_bool HE.out.symm, HF1.out.drewN _⟩
  · have hb : (k' == 3) = false := beq_eq_false_iff_ne.2 h3
    go_enter Tryd.func133, Tryd.ntmps133
    go_wp2_with fail
    rw [HW1.out]
    go_quiet (fail)
    go_wp2_with fail
    go_ret
    exact ⟨ret_bool (by rw [HK.out]; simp [h3]), HF1.out.drewN _⟩

set_option maxRecDepth 20000 in
set_option maxHeartbeats 4000000 in
/-- The first field whose key is that of a pair. -/
theorem field_calls (Af : Option Addr) (q cf : Nat) (fs : List Fld) (lo hi gl gi m cx j : Nat) (i : Int) (l : List It) (Ax : Option Addr) (w : World) (hq : fs.length = q) (hqc : q ≤ cf) (hqm : q ≤ 1048576) (hf : RdF w Af fs)
    (hm : l.length = m) (hc : m ≤ cx) (hL : ItsAt w lo hi l Ax 0) (hij : i = 2 * (j : Int)) (hj : 2 * j < m) (hh : hi ≤ w.heap.size) (hl : w.cell? ⟨gl, 0, none⟩ = some (.slice Ax m cx)) (hi' : w.cell? ⟨gi, 0, none⟩ = some (.int .i64 i)) (hgl : gl < w.heap.size) (hgi : gi < w.heap.size) :
    Calls Tryd.prog 132 #[.slice Af q cf, .func (.func 133) #[] #[.pointer (some ⟨gl, 0, none⟩), .pointer (some ⟨gi, 0, none⟩)]] w fun e w' =>
      (∃ r : Int, e = .returned (.int .i64 r) ∧ ((r = -1 ∧ ∀ f ∈ fs, keyAt l j f.key = false) ∨ ∃ k : Nat, r = (k : Int) ∧ ∃ h : k < fs.length, keyAt l j fs[k].key = true)) ∧ Fr (fun _ => False) w w' := by
  have HQ := hid hq
  have HFS := hid hf
  have HC := hid (fun (w' : World) (hfr : Fr (fun _ => False) w w') key nd opt => rec1_calls lo hi gl gi m cx j i l Ax key nd opt w' hm hc (hL.fr0 hfr hh) hij hj (Nat.le_trans hh hfr.size) ((hfr.cell (p := ⟨_, _, none⟩) hgl (fun h => h)).trans hl) ((hfr.cell (p := ⟨_, _, none⟩) hgi (fun h => h)).trans hi'))
  clear hq hf hm hL hl hi' hgl hgi hh hij hj hc
  go_enter Tryd.func132, Tryd.ntmps132
  go_wp2_with fail
  go_loopw [8] (fun v wr => ∃ p : Nat, p ≤ q ∧ v = .int .i64 p ∧ Hid (∀ t (ht : t < fs.length), t < p → keyAt l j fs[t].key = false) ∧ Hid (Fr (fun _ => False) w wr)) (fun v _ => q - (intOf v).toNat)
  case atStart => exact ⟨0, Nat.zero_le _, rfl, hid (fun t ht h => by omega), hid (Fr.refl _ _)⟩
  case round =>
    obtain ⟨p, hp, rfl, HA, HF⟩ := hrel
    by_cases hlt : p < q
    · have hpl : p < fs.length := by rw [HQ.out]; exact hlt
      obtain ⟨af, rfl, hab, hks, hkn, f0, f1, f2⟩ := (HFS.out.fr0 HF.out) p hpl
      obtain ⟨f, hfe⟩ : ∃ f, fs[p] = f := ⟨_, rfl⟩
      rw [hfe] at f0 f1 f2 hkn hks
      have HFE := hid (show ∀ h : p < fs.length, fs[p] = f from fun _ => hfe)
      obtain ⟨key, nd, opt⟩ := f
      simp only at f0 f1 f2 hkn hks
      clear hfe
      have hp0 : (0 : Int) ≤ (p : Int) := by omega
      have hpq : (p : Int) < (q : Int) := by omega
      have hpc : (p : Int) < (cf : Int) := by omega
      obtain ⟨b, hb⟩ : ∃ b, keyAt l j key = b := ⟨_, rfl⟩
      have HB := hid hb
      clear hb
      go_wp2_with fail
      refine (HC.out wr HF.out key nd opt).mono ?_
      rintro e w2 ⟨rfl, hf2⟩
      have HF2 := hid (HF.out.then_ hf2 (fun _ _ h => h))
      rw [HB.out]
      clear hf2
      cases b with
      | true =>
        go_wp2_with fail
        go_ret
        exact ⟨⟨p, rfl, Or.inr ⟨p, rfl, hpl, by rw [HFE.out hpl]; exact HB.out⟩⟩, HF2.out⟩
      | false =>
        go_wp2_with fail
        go_roundw
        case rel => exact ⟨p + 1, by omega, by go_num, hid (fun t ht h => by
          by_cases h' : t < p
          · exact HA.out t ht h'
          · obtain rfl : t = p := by omega
            rw [HFE.out ht]; exact HB.out), HF2⟩
        case measure => simp [intOf]; omega
    · obtain rfl : p = q := by omega
      go_wp2_with fail
      go_ret
      refine ⟨⟨-1, rfl, Or.inl ⟨rfl, fun f hf => ?_⟩⟩, HF.out⟩
      obtain ⟨t, ht, rfl⟩ := List.getElem_of_mem hf
      exact HA.out t ht (by rw [← HQ.out]; exact ht)
end Go.Proofs.YtkmgiodhaaajjaaDoor.DenC

namespace Go.Proofs.YtkmgiodhaaajjaaDoor.DenD
open Go.IntWalk Go.RowKit Go.Proofs.YtkmgiodhaaajjaaDoor.Mem Go.Proofs.YtkmgiodhaaajjaaDoor.App Go.Proofs.YtkmgiodhaaajjaaDoor.FloatB Go.Proofs.YtkmgiodhaaajjaaDoor.ItemP Go.Proofs.YtkmgiodhaaajjaaDoor.ItemM Go.Proofs.YtkmgiodhaaajjaaDoor.ItemB Go.Proofs.YtkmgiodhaaajjaaDoor.SchP Go.Proofs.YtkmgiodhaaajjaaDoor.SchM Go.Proofs.YtkmgiodhaaajjaaDoor.SchG Go.Proofs.YtkmgiodhaaajjaaDoor.SchI Go.Proofs.YtkmgiodhaaajjaaDoor.SchJ Go.Proofs.YtkmgiodhaaajjaaDoor.DenP Go.Proofs.YtkmgiodhaaajjaaDoor.DenC

/-- The number in a box. -/
def boxN (w : World) (v : Value) : Nat := match v with
  | .pointer (some ad) => (match w.cell? ad with | some (.int _ i) => i.toNat | _ => 0)
  | _ => 0
theorem boxN_eq {w : World} {g : Nat} {k : IntKind} {i : Int} (h : w.cell? ⟨g, 0, none⟩ = some (.int k i)) : boxN w (.pointer (some ⟨g, 0, none⟩)) = i.toNat := by
  unfold boxN
  simp only [h]
theorem count_take {fs : List Fld} {p : Nat} (h : p < fs.length) (P : Fld → Bool) : (fs.take (p + 1)).countP P = (fs.take p).countP P + (if P fs[p] = true then 1 else 0) := by
  rw [List.take_succ_eq_append_getElem h, List.countP_append, List.countP_singleton]

set_option maxRecDepth 100000 in
set_option maxHeartbeats 8000000 in
theorem record_calls (w : World) (A : Option Addr) (M c lo hi : Nat) (a0 a1 a2 a3 a4 a5 a6 a7 : Value) (fs : List Fld) (Af : Option Addr) (q cf : Nat) (x : It) (Ax : Option Addr) (m cx : Nat) (B : Nat → Int → Bool)
    (hg : MayBe x) (hk5 : x.k = 5) (hp : fs.Pairwise (fun f g => f.key ≠ g.key)) (hq : fs.length = q) (hqc : q ≤ cf) (hqm : q ≤ 1048576) (hf : RdF w Af fs)
    (hm : x.l.length = m) (hc : m ≤ cx) (hmm : m ≤ 2000000) (hL : ItsAt w lo hi x.l Ax 0) (hh : hi ≤ w.heap.size)
    (hma : ∀ w', Fr (fun _ => False) w w' → ∀ k : Nat, k < m → ∀ f ∈ fs, ∀ cs, ItAt w lo hi (x.l.getD k noIt) cs → Calls Tryd.prog 83 #[.agg #[.slice A M c], .int .i64 f.node, .agg cs.toArray] w' fun e w'' => e = .returned (.bool (B k f.node)) ∧ Fr (fun _ => False) w' w'') :
    Calls Tryd.prog 114 #[.agg #[.slice A M c], .agg #[a0, a1, a2, a3, a4, a5, a6, a7, .slice Af q cf], .slice Ax m cx] w fun e w' => e = .returned (.bool (recV x.l fs B)) ∧ Fr (fun _ => False) w w' := by
  have HGD := hid hg
  have HK5 := hid hk5
  have HP := hid hp
  have HQ := hid hq
  have HFS := hid hf
  have HM := hid hm
  have HL := hid hL
  have HMA := hid hma
  have HH := hid hh
  obtain ⟨P, hP⟩ : ∃ P, m = 2 * P := ⟨m / 2, by have := hg.even hk5; omega⟩
  have HLP := hid (show x.l.length / 2 = P by omega)
  have HPP := hid hP
  clear hg hk5 hp hq hf hm hL hma hP
  obtain ⟨w1, hw1⟩ : ∃ w1, ((w.alloc (.cells #[.slice A M c] 42)).alloc (.cells #[a0, a1, a2, a3, a4, a5, a6, a7, .slice Af q cf] 54)).alloc (.cells #[.slice Ax m cx] 23) = w1 := ⟨_, rfl⟩
  have HF1 := hid (show Fr (fun _ => False) w w1 by rw [← hw1]; exact fr_3 _ _ _ _)
  have HBS := hid (show Blk w1 w.heap.size 42 #[.slice A M c] by rw [← hw1]; exact blk_1of3 _ _ _ _ _)
  have HBN := hid (show Blk w1 (w.heap.size + 1) 54 #[a0, a1, a2, a3, a4, a5, a6, a7, .slice Af q cf] by rw [← hw1]; exact blk_2 _ _ _ _ _)
  have HBL := hid (show Blk w1 (w.heap.size + 1 + 1) 23 #[.slice Ax m cx] by rw [← hw1]; exact blk_3 _ _ _ _ _)
  have HW1 := hid hw1
  clear hw1
  have HSZ := hid (show w.heap.size + 1 + 1 < w1.heap.size from HBL.out.lt)
  have HS := hid (show ∀ w', Fr (fun _ => False) w1 w' → w'.cell? ⟨w.heap.size, 0, none⟩ = some (.slice A M c) ∧ w'.cell? ⟨w.heap.size + 1, 8, none⟩ = some (.slice Af q cf) ∧ w'.cell? ⟨w.heap.size + 1 + 1, 0, none⟩ = some (.slice Ax m cx) from fun w' hf => by
    obtain ⟨_, _, _, _, _, _, _, _, c8⟩ := blk9 (HBN.out.fr hf (fun h => h))
    exact ⟨(blk1 (HBS.out.fr hf (fun h => h))).1, c8, (blk1 (HBL.out.fr hf (fun h => h))).1⟩)
  obtain ⟨c0, c8, cl⟩ := HS.out w1 (Fr.refl _ _)
  go_enter Tryd.func114, Tryd.ntmps114
  go_wp2_with fail
  rw [HW1.out]
  clear c0 c8 cl
  go_loopw [7, 15] (fun mu ix wr => ∃ p u : Nat, p ≤ q ∧ u ≤ p ∧ mu = .int .i64 u ∧ ix = .int .i64 p ∧ Hid (u = (fs.take p).countP (fun f => !f.opt)) ∧ Hid (Fr (fun _ => False) w1 wr)) (fun _ ix _ => q - (intOf ix).toNat)
  case atStart => exact ⟨0, 0, Nat.zero_le _, Nat.le_refl _, rfl, rfl, hid (by simp), hid (Fr.refl _ _)⟩
  case round =>
    obtain ⟨p, u, hpq, hup, rfl, rfl, HU, HF⟩ := hrel
    by_cases hlt : p < q
    · have hpl : p < fs.length := by rw [HQ.out]; exact hlt
      obtain ⟨af, rfl, hab, hks, hkn, f0, f1, f2⟩ := (HFS.out.fr0 (HF1.out.trans HF.out)) p hpl
      have HCT := hid (count_take hpl (fun f => !f.opt))
      obtain ⟨f, hfe⟩ : ∃ f, fs[p] = f := ⟨_, rfl⟩
      rw [hfe] at f0 f1 f2 hkn hks HCT
      obtain ⟨key, nd, opt⟩ := f
      simp only at f0 f1 f2 hkn hks HCT
      clear hfe
      have hp0 : (0 : Int) ≤ (p : Int) := by omega
      have hpq' : (p : Int) < (q : Int) := by omega
      have hpc : (p : Int) < (cf : Int) := by omega
      have hfrz := fun (o : Obj) => (Blk.new wr 111 #[.string key, .int .i64 nd, .bool opt]).frozen 0
      cases opt with
      | true =>
        go_wp2_with fail
        go_roundw
        case rel => exact ⟨p + 1, u, by omega, by omega, rfl, by go_num, hid (by rw [HCT.out, HU.out]; simp), hid (HF.out.alloc _)⟩
        case measure => simp [intOf]; omega
      | false =>
        go_wp2_with fail
        go_roundw
        case rel => exact ⟨p + 1, u + 1, by omega, by omega, by go_num, by go_num, hid (by rw [HCT.out, HU.out]; simp), hid (HF.out.alloc _)⟩
        case measure => simp [intOf]; omega
    · obtain rfl : p = q := by omega
      have HU0 := hid (show u = left x.l fs 0 by rw [left_zero, HU.out, ← HQ.out, List.take_length])
      have HFW := hid HF.out
      have hc0 := HS.out wr HF.out
      obtain ⟨w2, hw2⟩ : ∃ w2, wr.alloc (.cells #[.int .i64 0] 3) = w2 := ⟨_, rfl⟩
      have HF2 := hid (show Fr (fun _ => False) w1 w2 by rw [← hw2]; exact HF.out.alloc _)
      have HI2 := hid (show Blk w2 wr.heap.size 3 #[.int .i64 0] by rw [← hw2]; exact Blk.new wr _ _)
      have HG2 := hid (show w1.heap.size ≤ wr.heap.size from HF.out.size)
      have HW2 := hid hw2
      clear hw2 hc0
      go_wp2_with fail
      rw [HW2.out]
      go_loopw [7, 10] (fun mu ip ws => ∃ j v gi : Nat, j ≤ P ∧ v ≤ p ∧ mu = .int .i64 v ∧ ip = .pointer (some ⟨gi, 0, none⟩) ∧ Hid (v = left x.l fs j) ∧ Hid (Blk ws gi 3 #[.int .i64 (2 * (j : Int))]) ∧ Hid (w1.heap.size ≤ gi) ∧ Hid (∀ t, t < j → ∃ f ∈ fs, keyAt x.l t f.key = true ∧ B (2 * t + 1) f.node = true) ∧ Hid (Fr (fun _ => False) w1 ws)) (fun _ ip ws => m - boxN ws ip)
      case atStart => exact ⟨0, u, _, Nat.zero_le _, hup, rfl, rfl, HU0, HI2, HG2, hid (fun t ht => by omega), HF2⟩
      case round =>
        obtain ⟨j, v, gi, hjP, hvp, rfl, rfl, HV, HBI, HGI, HD, HFR⟩ := hrel
        obtain ⟨c0, c8, cl⟩ := HS.out _ HFR.out
        obtain ⟨ci, fi⟩ := blk1 HBI.out
        have HBX := hid (boxN_eq ci)
        obtain ⟨z, hz⟩ : ∃ z : Nat, 2 * j = z := ⟨_, rfl⟩
        have HZ := hid hz
        rw [show (2 * (j : Int)) = (z : Int) by omega] at ci HBX
        have HCI := hid ci
        by_cases hlt : j < P
        · have hzm : (z : Int) < (m : Int) := by have := HPP.out; omega
          have hz0 : (0 : Int) ≤ (z : Int) := by omega
          have hzc : (z : Int) < (cx : Int) := by omega
          have hz1 : (z : Int) + 1 < (m : Int) := by have := HPP.out; omega
          have hz1c : (z : Int) + 1 < (cx : Int) := by omega
          have hgl : w.heap.size + 1 + 1 < wr.heap.size := Nat.lt_of_lt_of_le HSZ.out HFR.out.size
          go_wp2_with fail
          refine (field_calls Af p cf fs lo hi (w.heap.size + 1 + 1) gi m cx j z x.l Ax wr HQ.out hqc hqm (HFS.out.fr0 (HF1.out.trans HFR.out)) HM.out hc (HL.out.fr0 (HF1.out.trans HFR.out) HH.out) (by have := HZ.out; omega) (by have := HPP.out; omega) (Nat.le_trans HH.out (HF1.out.trans HFR.out).size) cl ci hgl HBI.out.lt).mono ?_
          rintro e w3 ⟨⟨r, rfl, hr⟩, hf3⟩
          have HF3 := hid (HFR.out.then_ hf3 (fun _ _ h => h))
          have HBI3 := hid (HBI.out.fr hf3 (fun h => h))
          clear hf3 ci c0 c8 cl fi
          obtain ⟨c0, c8, cl⟩ := HS.out _ HF3.out
          obtain ⟨ci, fi⟩ := blk1 HBI3.out
          rw [show (2 * (j : Int)) = (z : Int) by omega] at ci
          rcases hr with ⟨rfl, hno⟩ | ⟨k, rfl, hkf, hkk⟩
          · have HNO := hid hno
            clear hno
            go_wp2_with fail
            go_quiet (fail)
            go_wp2_with fail
            go_ret
            exact ⟨ret_bool (by rw [rec_no1 (m := j) (by rw [HLP.out]; exact hlt) HNO.out]), (HF1.out.trans HF3.out).drewN _⟩
          · have hkp : k < p := by rw [← HQ.out]; exact hkf
            obtain ⟨af, rfl, hab, hks, hkn, f0, f1, f2⟩ := (HFS.out.fr0 (HF1.out.trans HF3.out)) k hkf
            obtain ⟨f, hfe⟩ : ∃ f, fs[k] = f := ⟨_, rfl⟩
            have HFE := hid hfe
            have HKK := hid hkk
            have HMF := hid (List.getElem_mem hkf)
            rw [hfe] at f0 f1 f2 hkn hks HMF
            obtain ⟨key, nd, opt⟩ := f
            simp only at f0 f1 f2 hkn hks
            obtain ⟨ad, k', n', s', l2, A', c', rfl, hla, hab2, hx', b0, b1, b2, b3, hch⟩ := ItsAt.kid (HL.out.fr0 (HF1.out.trans HF3.out) HH.out) (2 * j + 1) (by have := HM.out; have := HPP.out; omega)
            have hk0 : (0 : Int) ≤ (k : Int) := by omega
            have hkp' : (k : Int) < (p : Int) := by omega
            have hkc : (k : Int) < (cf : Int) := by omega
            clear hfe hkk hks
            have HCH := hid (show ItAt w lo hi (x.l.getD (2 * j + 1) noIt) [.int .i64 k', .int .u64 n', .string s', .slice A' l2.length c'] by
              obtain ⟨ad', k'', n'', s'', l2', A'', c'', e1, _, _, hx'', d0, d1, d2, d3, hch'⟩ := ItsAt.kid HL.out (2 * j + 1) (by have := HM.out; have := HPP.out; omega)
              rw [getD_it (by have := HM.out; have := HPP.out; omega)]
              injection e1 with e1
              subst e1
              have g0 := cell_fr d0 (HF1.out.trans HF3.out)
              have g1 := cell_fr d1 (HF1.out.trans HF3.out)
              have g2 := cell_fr d2 (HF1.out.trans HF3.out)
              have g3 := cell_fr d3 (HF1.out.trans HF3.out)
              rw [b0] at g0
              rw [b1] at g1
              rw [b2] at g2
              rw [b3] at g3
              simp only [Option.some.injEq, Value.int.injEq, Value.string.injEq, Value.slice.injEq, true_and, Int.natCast_inj] at g0 g1 g2 g3
              obtain ⟨rfl, g3b, rfl⟩ := g3
              subst g0 g1 g2
              rw [hx'', g3b]
              exact hch')
            obtain ⟨q2, hq2⟩ : ∃ q, l2.length = q := ⟨_, rfl⟩
            rw [hq2] at b3 HCH
            rw [show 2 * j + 1 = z + 1 by omega] at b0 b1 b2 b3
            clear hx' hch hq2 hla
            obtain ⟨b, hb⟩ : ∃ b, B (2 * j + 1) nd = b := ⟨_, rfl⟩
            have HB := hid hb
            clear hb
            have HS3 := hid (show ∀ w', Fr (fun _ => False) w3 w' → w'.cell? ⟨w.heap.size, 0, none⟩ = some (.slice A M c) ∧ w'.cell? ⟨w.heap.size + 1, 8, none⟩ = some (.slice (some af) p cf) ∧ w'.cell? ⟨w.heap.size + 1 + 1, 0, none⟩ = some (.slice (some ad) m cx) ∧ w'.cell? ⟨gi, 0, none⟩ = some (.int .i64 (z : Int)) ∧ w'.cell? ⟨(af.add (k * 3)).block, (af.add (k * 3)).off + 1, none⟩ = some (.int .i64 nd) ∧ w'.cell? (ad.add ((z + 1) * 4)) = some (.int .i64 k') ∧ w'.cell? ⟨(ad.add ((z + 1) * 4)).block, (ad.add ((z + 1) * 4)).off + 1, none⟩ = some (.int .u64 n') ∧ w'.cell? ⟨(ad.add ((z + 1) * 4)).block, (ad.add ((z + 1) * 4)).off + 2, none⟩ = some (.string s') ∧ w'.cell? ⟨(ad.add ((z + 1) * 4)).block, (ad.add ((z + 1) * 4)).off + 3, none⟩ = some (.slice A' q2 c') ∧ Fr (fun _ => False) w3 w' from fun w' hf => by
              obtain ⟨g0, g8, gl⟩ := HS.out _ (HF3.out.trans hf)
              exact ⟨g0, g8, gl, cell_fr ci hf, cell_fr f1 hf, cell_fr b0 hf, cell_fr b1 hf, cell_fr b2 hf, cell_fr b3 hf, hf⟩)
            have HCM := hid (fun wx (hf : wx.cell? ⟨w.heap.size, 0, none⟩ = some (.slice A M c) ∧ wx.cell? ⟨w.heap.size + 1, 8, none⟩ = some (.slice (some af) p cf) ∧ wx.cell? ⟨w.heap.size + 1 + 1, 0, none⟩ = some (.slice (some ad) m cx) ∧ wx.cell? ⟨gi, 0, none⟩ = some (.int .i64 (z : Int)) ∧ wx.cell? ⟨(af.add (k * 3)).block, (af.add (k * 3)).off + 1, none⟩ = some (.int .i64 nd) ∧ wx.cell? (ad.add ((z + 1) * 4)) = some (.int .i64 k') ∧ wx.cell? ⟨(ad.add ((z + 1) * 4)).block, (ad.add ((z + 1) * 4)).off + 1, none⟩ = some (.int .u64 n') ∧ wx.cell? ⟨(ad.add ((z + 1) * 4)).block, (ad.add ((z + 1) * 4)).off + 2, none⟩ = some (.string s') ∧ wx.cell? ⟨(ad.add ((z + 1) * 4)).block, (ad.add ((z + 1) * 4)).off + 3, none⟩ = some (.slice A' q2 c') ∧ Fr (fun _ => False) w3 wx) => (HMA.out wx ((HF1.out.trans HF3.out).trans hf.2.2.2.2.2.2.2.2.2) (2 * j + 1) (by have := HPP.out; omega) ⟨key, nd, opt⟩ HMF.out _ HCH.out).mono (R' := fun e w' => e = .returned (.bool b) ∧ w'.cell? ⟨w.heap.size, 0, none⟩ = some (.slice A M c) ∧ w'.cell? ⟨w.heap.size + 1, 8, none⟩ = some (.slice (some af) p cf) ∧ w'.cell? ⟨w.heap.size + 1 + 1, 0, none⟩ = some (.slice (some ad) m cx) ∧ w'.cell? ⟨gi, 0, none⟩ = some (.int .i64 (z : Int)) ∧ w'.cell? ⟨(af.add (k * 3)).block, (af.add (k * 3)).off + 1, none⟩ = some (.int .i64 nd) ∧ w'.cell? (ad.add ((z + 1) * 4)) = some (.int .i64 k') ∧ w'.cell? ⟨(ad.add ((z + 1) * 4)).block, (ad.add ((z + 1) * 4)).off + 1, none⟩ = some (.int .u64 n') ∧ w'.cell? ⟨(ad.add ((z + 1) * 4)).block, (ad.add ((z + 1) * 4)).off + 2, none⟩ = some (.string s') ∧ w'.cell? ⟨(ad.add ((z + 1) * 4)).block, (ad.add ((z + 1) * 4)).off + 3, none⟩ = some (.slice A' q2 c') ∧ Fr (fun _ => False) w3 w') (fun e w' g => ⟨by rw [g.1]; exact ret_bool HB.out, HS3.out w' (hf.2.2.2.2.2.2.2.2.2.then_ g.2 (fun _ _ h => h))⟩))
            have HF2B := hid f2
            clear f0 f1 f2 b0 b1 b2 b3 ci fi c0 c8 cl
            have hwr : IntKind.i64.wrap ((z : Int) + 1) = (z : Int) + 1 := i64_in _ (by omega)
            have hz10 : (0 : Int) ≤ (z : Int) + 1 := by omega
            have hzt : ((z : Int) + 1).toNat = z + 1 := by omega
            cases b with
            | false =>
              go_wp2_with fail
              go_region_held3 (fun w' => w'.cell? ⟨w.heap.size, 0, none⟩ = some (.slice A M c) ∧ w'.cell? ⟨w.heap.size + 1, 8, none⟩ = some (.slice (some af) p cf) ∧ w'.cell? ⟨w.heap.size + 1 + 1, 0, none⟩ = some (.slice (some ad) m cx) ∧ w'.cell? ⟨gi, 0, none⟩ = some (.int .i64 (z : Int)) ∧ w'.cell? ⟨(af.add (k * 3)).block, (af.add (k * 3)).off + 1, none⟩ = some (.int .i64 nd) ∧ w'.cell? (ad.add ((z + 1) * 4)) = some (.int .i64 k') ∧ w'.cell? ⟨(ad.add ((z + 1) * 4)).block, (ad.add ((z + 1) * 4)).off + 1, none⟩ = some (.int .u64 n') ∧ w'.cell? ⟨(ad.add ((z + 1) * 4)).block, (ad.add ((z + 1) * 4)).off + 2, none⟩ = some (.string s') ∧ w'.cell? ⟨(ad.add ((z + 1) * 4)).block, (ad.add ((z + 1) * 4)).off + 3, none⟩ = some (.slice A' q2 c') ∧ Fr (fun _ => False) w3 w')
                (first | exact HS3.out _ (Fr.refl _ _) | exact HS3.out _ (Fr.refl _ _).drew | assumption)
                (first
                  | ((go_at_call 83; with_reducible refine (HCM.out _ (by assumption)).mono ?_; rintro e' w8 ⟨rfl, hS⟩)))
              all_goals
                go_wp2_with fail
                go_ret
                exact ⟨ret_bool (by rw [rec_no2 (m := j) HP.out (by rw [HLP.out]; exact hlt) hkf HKK.out (by rw [HFE.out]; exact HB.out)]), (HF1.out.trans HF3.out).trans hS.2.2.2.2.2.2.2.2.2⟩
            | true =>
              have HST := hid (hit_step HGD.out HK5.out HP.out (j := j) (k := k) (by have := HM.out; have := HPP.out; omega) hkf HKK.out).1
              rw [HFE.out] at HST
              simp only at HST
              have hwr2 : IntKind.i64.wrap ((z : Int) + 2) = (z : Int) + 2 := i64_in _ (by omega)
              have HDN := hid (show ∀ t, t < j + 1 → ∃ f ∈ fs, keyAt x.l t f.key = true ∧ B (2 * t + 1) f.node = true from fun t ht => by
                by_cases h : t < j
                · exact HD.out t h
                · obtain rfl : t = j := by omega
                  exact ⟨⟨key, nd, opt⟩, HMF.out, HFE.out ▸ HKK.out, HB.out⟩)
              cases opt with
              | true =>
                go_wp2_with fail
                go_region_held3 (fun w' => w'.cell? ⟨w.heap.size, 0, none⟩ = some (.slice A M c) ∧ w'.cell? ⟨w.heap.size + 1, 8, none⟩ = some (.slice (some af) p cf) ∧ w'.cell? ⟨w.heap.size + 1 + 1, 0, none⟩ = some (.slice (some ad) m cx) ∧ w'.cell? ⟨gi, 0, none⟩ = some (.int .i64 (z : Int)) ∧ w'.cell? ⟨(af.add (k * 3)).block, (af.add (k * 3)).off + 1, none⟩ = some (.int .i64 nd) ∧ w'.cell? (ad.add ((z + 1) * 4)) = some (.int .i64 k') ∧ w'.cell? ⟨(ad.add ((z + 1) * 4)).block, (ad.add ((z + 1) * 4)).off + 1, none⟩ = some (.int .u64 n') ∧ w'.cell? ⟨(ad.add ((z + 1) * 4)).block, (ad.add ((z + 1) * 4)).off + 2, none⟩ = some (.string s') ∧ w'.cell? ⟨(ad.add ((z + 1) * 4)).block, (ad.add ((z + 1) * 4)).off + 3, none⟩ = some (.slice A' q2 c') ∧ Fr (fun _ => False) w3 w')
                  (first | exact HS3.out _ (Fr.refl _ _) | exact HS3.out _ (Fr.refl _ _).drew | assumption)
                  (first
                    | ((go_at_call 83; with_reducible refine (HCM.out _ (by assumption)).mono ?_; rintro e' w8 ⟨rfl, hS⟩)))
                all_goals
                  have HF8 := hid hS.2.2.2.2.2.2.2.2.2
                  have g2 := cell_fr HF2B.out HF8.out
                  obtain ⟨s0, s8, sl, si, _⟩ := hS
                  go_wp2_with fail
                  go_roundw
                  case rel => exact ⟨j + 1, v, _, by omega, hvp, rfl, rfl, hid (by have := HST.out; have := HV.out; simp only [if_true] at *; omega), hid (by
                    rw [show (2 * ((j + 1 : Nat) : Int)) = (z : Int) + 2 by omega]
                    exact Blk.new w8 _ _), hid (Nat.le_trans (HF3.out.size) HF8.out.size), HDN, hid ((HF3.out.trans HF8.out).alloc _)⟩
                  case measure =>
                    rw [HBX.out, boxN_eq (blk1 (Blk.new w8 _ _)).1]
                    have := HPP.out
                    omega
              | false =>
                go_wp2_with fail
                go_region_held3 (fun w' => w'.cell? ⟨w.heap.size, 0, none⟩ = some (.slice A M c) ∧ w'.cell? ⟨w.heap.size + 1, 8, none⟩ = some (.slice (some af) p cf) ∧ w'.cell? ⟨w.heap.size + 1 + 1, 0, none⟩ = some (.slice (some ad) m cx) ∧ w'.cell? ⟨gi, 0, none⟩ = some (.int .i64 (z : Int)) ∧ w'.cell? ⟨(af.add (k * 3)).block, (af.add (k * 3)).off + 1, none⟩ = some (.int .i64 nd) ∧ w'.cell? (ad.add ((z + 1) * 4)) = some (.int .i64 k') ∧ w'.cell? ⟨(ad.add ((z + 1) * 4)).block, (ad.add ((z + 1) * 4)).off + 1, none⟩ = some (.int .u64 n') ∧ w'.cell? ⟨(ad.add ((z + 1) * 4)).block, (ad.add ((z + 1) * 4)).off + 2, none⟩ = some (.string s') ∧ w'.cell? ⟨(ad.add ((z + 1) * 4)).block, (ad.add ((z + 1) * 4)).off + 3, none⟩ = some (.slice A' q2 c') ∧ Fr (fun _ => False) w3 w')
                  (first | exact HS3.out _ (Fr.refl _ _) | exact HS3.out _ (Fr.refl _ _).drew | assumption)
                  (first
                    | ((go_at_call 83; with_reducible refine (HCM.out _ (by assumption)).mono ?_; rintro e' w8 ⟨rfl, hS⟩)))
                all_goals
                  have HF8 := hid hS.2.2.2.2.2.2.2.2.2
                  have g2 := cell_fr HF2B.out HF8.out
                  obtain ⟨s0, s8, sl, si, _⟩ := hS
                  obtain ⟨v', rfl⟩ : ∃ v', v = v' + 1 := ⟨v - 1, by have := HST.out; have := HV.out; simp only [Bool.false_eq_true, if_false] at *; omega⟩
                  have hwv : IntKind.i64.wrap (((v' + 1 : Nat) : Int) - 1) = (v' : Int) := by rw [show ((v' + 1 : Nat) : Int) - 1 = (v' : Int) by omega]; exact i64_in _ (by omega)
                  go_wp2_with fail
                  go_roundw
                  case rel => exact ⟨j + 1, v', _, by omega, by omega, by go_num, rfl, hid (by have := HST.out; have := HV.out; simp only [Bool.false_eq_true, if_false] at *; omega), hid (by
                    rw [show (2 * ((j + 1 : Nat) : Int)) = (z : Int) + 2 by omega]
                    exact Blk.new w8 _ _), hid (Nat.le_trans (HF3.out.size) HF8.out.size), HDN, hid ((HF3.out.trans HF8.out).alloc _)⟩
                  case measure =>
                    rw [HBX.out, boxN_eq (blk1 (Blk.new w8 _ _)).1]
                    have := HPP.out
                    omega
        · obtain rfl : j = P := by omega
          have hzm : ¬ (z : Int) < (m : Int) := by have := HPP.out; omega
          have HE := hid (show recV x.l fs B = decide (v = 0) by rw [HV.out, rec_yes (fun t ht => HD.out t (by rw [HLP.out] at ht; exact ht)), HLP.out])
          by_cases h0 : v = 0
          · subst h0
            go_wp2_with fail
            go_ret
            exact ⟨ret_bool (by rw [HE.out]; rfl), HF1.out.trans HFR.out⟩
          · have hb : ((v : Int) == 0) = false := beq_eq_false_iff_ne.2 (by omega)
            have HE2 := hid (show recV x.l fs B = false by rw [HE.out]; exact decide_eq_false h0)
            go_wp2_with fail
            go_ret
            exact ⟨ret_bool HE2.out.symm, HF1.out.trans HFR.out⟩
end Go.Proofs.YtkmgiodhaaajjaaDoor.DenD

namespace Go.Proofs.YtkmgiodhaaajjaaDoor.DenE
open Go.IntWalk Go.RowKit Go.Proofs.YtkmgiodhaaajjaaDoor.Mem Go.Proofs.YtkmgiodhaaajjaaDoor.App Go.Proofs.YtkmgiodhaaajjaaDoor.ItemP Go.Proofs.YtkmgiodhaaajjaaDoor.ItemM Go.Proofs.YtkmgiodhaaajjaaDoor.ItemB Go.Proofs.YtkmgiodhaaajjaaDoor.SchP Go.Proofs.YtkmgiodhaaajjaaDoor.SchM Go.Proofs.YtkmgiodhaaajjaaDoor.SchD Go.Proofs.YtkmgiodhaaajjaaDoor.DenP

set_option maxRecDepth 20000 in
set_option maxHeartbeats 2000000 in
theorem four_calls (w0 w : World) (hf : Fr (fun _ => False) w0 w) (A : Option Addr) (M c gs gx : Nat) (x0 x1 x2 x3 : Value) (k : Int) (b : Bool) (hs : w0.cell? ⟨gs, 0, none⟩ = some (.slice A M c)) (hx0 : w0.cell? ⟨gx, 0, none⟩ = some x0) (hx1 : w0.cell? ⟨gx, 1, none⟩ = some x1) (hx2 : w0.cell? ⟨gx, 2, none⟩ = some x2) (hx3 : w0.cell? ⟨gx, 3, none⟩ = some x3)
    (hma : ∀ w', Fr (fun _ => False) w0 w' → Calls Tryd.prog 83 #[.agg #[.slice A M c], .int .i64 k, .agg #[x0, x1, x2, x3]] w' fun e w'' => e = .returned (.bool b) ∧ Fr (fun _ => False) w' w'') :
    Calls Tryd.prog 115 #[.int .i64 k, .pointer (some ⟨gs, 0, none⟩), .pointer (some ⟨gx, 0, none⟩)] w fun e w' => e = .returned (.bool b) ∧ Fr (fun _ => False) w w' := by
  have d0 := cell_fr hs hf
  have d1 := cell_fr hx0 hf
  have d2 := cell_fr hx1 hf
  have d3 := cell_fr hx2 hf
  have d4 := cell_fr hx3 hf
  have HC := hid (hma w hf)
  clear hs hx0 hx1 hx2 hx3 hma hf
  go_enter Tryd.func115, Tryd.ntmps115
  go_wp2_with fail
  refine HC.out.mono ?_
  rintro e w2 ⟨rfl, hf⟩
  have HF := hid hf
  clear hf
  go_wp2_with fail
  go_ret
  exact ⟨rfl, HF.out⟩

set_option maxRecDepth 20000 in
set_option maxHeartbeats 2000000 in
theorem idx4_calls (w0 : World) (Al : Option Addr) (n cl : Nat) (xs : List Int) (A : Option Addr) (M c gs gx : Nat) (x0 x1 x2 x3 : Value) (G : Int → Bool) (hn : xs.length = n) (hc : n ≤ cl) (hl : n ≤ 140737488355328) (hxs : RdI .i64 w0 Al xs)
    (hs : w0.cell? ⟨gs, 0, none⟩ = some (.slice A M c)) (hx0 : w0.cell? ⟨gx, 0, none⟩ = some x0) (hx1 : w0.cell? ⟨gx, 1, none⟩ = some x1) (hx2 : w0.cell? ⟨gx, 2, none⟩ = some x2) (hx3 : w0.cell? ⟨gx, 3, none⟩ = some x3)
    (hma : ∀ w', Fr (fun _ => False) w0 w' → ∀ k ∈ xs, Calls Tryd.prog 83 #[.agg #[.slice A M c], .int .i64 k, .agg #[x0, x1, x2, x3]] w' fun e w'' => e = .returned (.bool (G k)) ∧ Fr (fun _ => False) w' w'') :
    Calls Tryd.prog 131 #[.slice Al n cl, .func (.func 115) #[] #[.pointer (some ⟨gs, 0, none⟩), .pointer (some ⟨gx, 0, none⟩)]] w0 fun e w' => Idx (xs.any G) e ∧ Fr (fun _ => False) w0 w' := by
  have HN := hid hn
  have HX := hid hxs
  have HC := hid (fun w' (hf : Fr (fun _ => False) w0 w') k (hk : k ∈ xs) => four_calls w0 w' hf A M c gs gx x0 x1 x2 x3 k (G k) hs hx0 hx1 hx2 hx3 (fun w'' hf' => hma w'' hf' k hk))
  clear hn hxs hs hx0 hx1 hx2 hx3 hma
  go_enter Tryd.func131, Tryd.ntmps131
  go_wp2_with fail
  go_loopw [8] (fun v wr => ∃ j : Nat, j ≤ n ∧ v = .int .i64 j ∧ Hid (∀ q, q < j → G (xs.getD q 0) = false) ∧ Hid (Fr (fun _ => False) w0 wr)) (fun v _ => n - (intOf v).toNat)
  case atStart => exact ⟨0, Nat.zero_le _, rfl, hid (fun q hq => by omega), hid (Fr.refl _ _)⟩
  case round =>
    obtain ⟨j, hj, rfl, HA, HF⟩ := hrel
    by_cases hlt : j < n
    · obtain ⟨ax, rfl, _, cx⟩ := (HX.out.fr0 HF.out) j (by rw [HN.out]; exact hlt)
      obtain ⟨x, hx⟩ : ∃ x, xs.getD j 0 = x := ⟨_, rfl⟩
      have HXM := hid (show x ∈ xs by rw [← hx]; exact getD_mem (by rw [HN.out]; exact hlt))
      rw [hx] at cx
      have HXE := hid hx
      have hj0 : (0 : Int) ≤ (j : Int) := by omega
      have hjm : (j : Int) < (n : Int) := by omega
      have hjc : (j : Int) < (cl : Int) := by omega
      clear hx
      go_wp2_with fail
      refine (HC.out wr HF.out x HXM.out).mono ?_
      rintro e w2 ⟨rfl, hf⟩
      have HF2 := hid (HF.out.then_ hf (fun _ _ h => h))
      clear hf
      obtain ⟨b, hb⟩ : ∃ b, G x = b := ⟨_, rfl⟩
      have HB := hid hb
      rw [hb]
      clear hb
      cases b with
      | true =>
        go_wp2_with fail
        go_ret
        refine ⟨⟨j, rfl, ?_⟩, HF2.out⟩
        rw [decide_eq_true (by omega)]
        symm
        rw [List.any_eq_true]
        exact ⟨x, HXM.out, HB.out⟩
      | false =>
        go_wp2_with fail
        go_roundw
        case rel => exact ⟨j + 1, by omega, by go_num, hid (fun q hq => by
          by_cases h : q < j
          · exact HA.out q h
          · obtain rfl : q = j := by omega
            rw [HXE.out]; exact HB.out), HF2⟩
        case measure => simp [intOf]; omega
    · obtain rfl : j = n := by omega
      go_wp2_with fail
      go_ret
      refine ⟨⟨-1, rfl, ?_⟩, HF.out⟩
      rw [decide_eq_false (by omega)]
      symm
      rw [List.any_eq_false]
      intro x hx
      obtain ⟨q, hq, rfl⟩ := List.getElem_of_mem hx
      have := HA.out q (by rw [← HN.out]; exact hq)
      simp [List.getD_eq_getElem?_getD, List.getElem?_eq_getElem hq] at this
      simp [this]

set_option maxRecDepth 20000 in
set_option maxHeartbeats 2000000 in
theorem cont4_calls (w0 : World) (Al : Option Addr) (n cl : Nat) (xs : List Int) (A : Option Addr) (M c gs gx : Nat) (x0 x1 x2 x3 : Value) (G : Int → Bool) (hn : xs.length = n) (hc : n ≤ cl) (hl : n ≤ 140737488355328) (hxs : RdI .i64 w0 Al xs)
    (hs : w0.cell? ⟨gs, 0, none⟩ = some (.slice A M c)) (hx0 : w0.cell? ⟨gx, 0, none⟩ = some x0) (hx1 : w0.cell? ⟨gx, 1, none⟩ = some x1) (hx2 : w0.cell? ⟨gx, 2, none⟩ = some x2) (hx3 : w0.cell? ⟨gx, 3, none⟩ = some x3)
    (hma : ∀ w', Fr (fun _ => False) w0 w' → ∀ k ∈ xs, Calls Tryd.prog 83 #[.agg #[.slice A M c], .int .i64 k, .agg #[x0, x1, x2, x3]] w' fun e w'' => e = .returned (.bool (G k)) ∧ Fr (fun _ => False) w' w'') :
    Calls Tryd.prog 103 #[.slice Al n cl, .func (.func 115) #[] #[.pointer (some ⟨gs, 0, none⟩), .pointer (some ⟨gx, 0, none⟩)]] w0 fun e w' => e = .returned (.bool (xs.any G)) ∧ Fr (fun _ => False) w0 w' := by
  have HC := hid (idx4_calls w0 Al n cl xs A M c gs gx x0 x1 x2 x3 G hn hc hl hxs hs hx0 hx1 hx2 hx3 hma)
  obtain ⟨b, hb⟩ : ∃ b, xs.any G = b := ⟨_, rfl⟩
  rw [hb] at HC ⊢
  clear hn hxs hb hs hx0 hx1 hx2 hx3 hma
  go_enter Tryd.func103, Tryd.ntmps103
  go_wp2_with fail
  refine HC.out.mono ?_
  rintro e w2 ⟨⟨r, rfl, hr⟩, hf⟩
  have HR := hid hr
  have HF := hid hf
  clear hr hf
  go_wp2_with fail
  go_ret
  exact ⟨ret_bool HR.out, HF.out⟩
end Go.Proofs.YtkmgiodhaaajjaaDoor.DenE
