/- Layer denote: all items of a list against nodes. -/
import Derived.Test.YtkmgiodhaaajjaaDoorDenA
import Derived.Deep.RegionHeld3
set_option linter.unusedVariables false
set_option linter.unusedSimpArgs false
namespace Go.Proofs.YtkmgiodhaaajjaaDoor.DenB
open Go.IntWalk Go.RowKit Go.Proofs.YtkmgiodhaaajjaaDoor.Mem Go.Proofs.YtkmgiodhaaajjaaDoor.App Go.Proofs.YtkmgiodhaaajjaaDoor.FloatB Go.Proofs.YtkmgiodhaaajjaaDoor.ItemP Go.Proofs.YtkmgiodhaaajjaaDoor.ItemM Go.Proofs.YtkmgiodhaaajjaaDoor.SchP Go.Proofs.YtkmgiodhaaajjaaDoor.SchM Go.Proofs.YtkmgiodhaaajjaaDoor.SchG Go.Proofs.YtkmgiodhaaajjaaDoor.SchJ Go.Proofs.YtkmgiodhaaajjaaDoor.DenP

theorem all_snoc {m j : Nat} {B : Nat → Bool} (hj : j < m) (h : B j = false) : (List.range m).all B = false := by
  rw [List.all_eq_false]
  exact ⟨j, List.mem_range.2 hj, by rw [h]; simp⟩
theorem all_yes {m : Nat} {B : Nat → Bool} (h : ∀ q, q < m → B q = true) : (List.range m).all B = true := List.all_eq_true.2 (fun q hq => h q (List.mem_range.1 hq))

set_option maxRecDepth 100000 in
set_option maxHeartbeats 4000000 in
theorem all2_calls (w0 : World) (A : Option Addr) (M c lo hi gs gx g : Nat) (l : List It) (Ax : Option Addr) (m cx : Nat) (T : Nat → Int) (B : Nat → Bool) (hm : l.length = m) (hc : m ≤ cx) (hml : m ≤ 2000000) (hh : hi ≤ w0.heap.size) (hL : ItsAt w0 lo hi l Ax 0)
    (hs : w0.cell? ⟨gs, 0, none⟩ = some (.slice A M c)) (hx : w0.cell? ⟨gx, 3, none⟩ = some (.slice Ax m cx)) (hsb : gs < w0.heap.size)
    (hat : ∀ w', Fr (fun _ => False) w0 w' → ∀ k : Nat, k < m → Calls Tryd.prog 112 #[.int .i64 (k : Int), .pointer (some ⟨g, 0, none⟩)] w' fun e w'' => e = .returned (.int .i64 (T k)) ∧ Fr (fun _ => False) w' w'')
    (hma : ∀ w', Fr (fun _ => False) w0 w' → ∀ k : Nat, k < m → ∀ cs, ItAt w0 lo hi (l.getD k noIt) cs → Calls Tryd.prog 83 #[.agg #[.slice A M c], .int .i64 (T k), .agg cs.toArray] w' fun e w'' => e = .returned (.bool (B k)) ∧ Fr (fun _ => False) w' w'') :
    Calls Tryd.prog 110 #[.func (.func 112) #[] #[.pointer (some ⟨g, 0, none⟩)], .pointer (some ⟨gx, 0, none⟩), .pointer (some ⟨gs, 0, none⟩)] w0 fun e w' => e = .returned (.bool ((List.range m).all B)) ∧ Fr (fun _ => False) w0 w' := by
  have HM := hid hm
  have HL := hid hL
  have HAT := hid hat
  have HMA := hid hma
  have HSC := hid hs
  have HSB := hid hsb
  clear hm hL hat hma hs hsb
  go_enter Tryd.func110, Tryd.ntmps110
  go_wp2_with fail
  go_loopw [10] (fun i wr => ∃ j : Nat, j ≤ m ∧ i = .int .i64 j ∧ Hid (∀ q, q < j → B q = true) ∧ Hid (Fr (fun _ => False) w0 wr)) (fun i _ => m - (intOf i).toNat)
  case atStart => exact ⟨0, Nat.zero_le _, rfl, hid (fun q hq => by omega), hid (Fr.refl _ _)⟩
  case round =>
    obtain ⟨j, hj, rfl, HA, HF⟩ := hrel
    by_cases hlt : j < m
    · obtain ⟨ad, k', n', s', l2, A', c', rfl, hla, hab, hx', b0, b1, b2, b3, hch⟩ := ItsAt.kid HL.out j (by rw [HM.out]; exact hlt)
      have hbk : (ad.add (j * 4)).block < w0.heap.size := by rw [block_of_add]; omega
      have c0 := (HF.out.cell hbk (fun h => h)).trans b0
      have c1 := (HF.out.cell (p := ⟨_, _, none⟩) hbk (fun h => h)).trans b1
      have c2 := (HF.out.cell (p := ⟨_, _, none⟩) hbk (fun h => h)).trans b2
      have c3 := (HF.out.cell (p := ⟨_, _, none⟩) hbk (fun h => h)).trans b3
      have HKM := hid (HMA.out)
      obtain ⟨t, ht⟩ : ∃ t, T j = t := ⟨_, rfl⟩
      obtain ⟨b, hb⟩ : ∃ b, B j = b := ⟨_, rfl⟩
      have HT := hid ht
      have HB := hid hb
      have HCH := hid (show ItAt w0 lo hi (l.getD j noIt) [.int .i64 k', .int .u64 n', .string s', .slice A' l2.length c'] by rw [getD_it (by rw [HM.out]; exact hlt), hx']; exact hch)
      obtain ⟨q2, hq2⟩ : ∃ q, l2.length = q := ⟨_, rfl⟩
      rw [hq2] at c3 HCH
      clear b0 b1 b2 b3 hx' hch hq2 hla hab hbk ht hb
      have hj0 : (0 : Int) ≤ (j : Int) := by omega
      have hjm : (j : Int) < (m : Int) := by omega
      have hjc : (j : Int) < (cx : Int) := by omega
      obtain ⟨w1, hw1⟩ : ∃ w1, wr.alloc (.cells #[.int .i64 k', .int .u64 n', .string s', .slice A' q2 c'] 25) = w1 := ⟨_, rfl⟩
      have HF1 := hid (show Fr (fun _ => False) w0 w1 by rw [← hw1]; exact HF.out.alloc _)
      have HB1 := hid (show Blk w1 wr.heap.size 25 #[.int .i64 k', .int .u64 n', .string s', .slice A' q2 c'] by rw [← hw1]; exact Blk.new wr _ _)
      have HW1 := hid hw1
      clear hw1
      have HS := hid (show ∀ w', Fr (fun _ => False) w1 w' → w'.cell? ⟨gs, 0, none⟩ = some (.slice A M c) ∧ w'.cell? ⟨wr.heap.size, 0, none⟩ = some (.int .i64 k') ∧ w'.cell? ⟨wr.heap.size, 1, none⟩ = some (.int .u64 n') ∧ w'.cell? ⟨wr.heap.size, 2, none⟩ = some (.string s') ∧ w'.cell? ⟨wr.heap.size, 3, none⟩ = some (.slice A' q2 c') ∧ Fr (fun _ => False) w1 w' from fun w' hf => by
        have hB := HB1.out.fr hf (fun h => h)
        have e0 := hB.cell 0
        have e1 := hB.cell 1
        have e2 := hB.cell 2
        have e3 := hB.cell 3
        simp at e0 e1 e2 e3
        exact ⟨((HF1.out.trans hf).cell (p := ⟨_, _, none⟩) HSB.out (fun h => h)).trans HSC.out, e0, e1, e2, e3, hf⟩)
      have HCL := hid (fun wx (hf : wx.cell? ⟨gs, 0, none⟩ = some (.slice A M c) ∧ wx.cell? ⟨wr.heap.size, 0, none⟩ = some (.int .i64 k') ∧ wx.cell? ⟨wr.heap.size, 1, none⟩ = some (.int .u64 n') ∧ wx.cell? ⟨wr.heap.size, 2, none⟩ = some (.string s') ∧ wx.cell? ⟨wr.heap.size, 3, none⟩ = some (.slice A' q2 c') ∧ Fr (fun _ => False) w1 wx) => (HAT.out wx (HF1.out.trans hf.2.2.2.2.2) j hlt).mono (R' := fun e w' => e = .returned (.int .i64 t) ∧ w'.cell? ⟨gs, 0, none⟩ = some (.slice A M c) ∧ w'.cell? ⟨wr.heap.size, 0, none⟩ = some (.int .i64 k') ∧ w'.cell? ⟨wr.heap.size, 1, none⟩ = some (.int .u64 n') ∧ w'.cell? ⟨wr.heap.size, 2, none⟩ = some (.string s') ∧ w'.cell? ⟨wr.heap.size, 3, none⟩ = some (.slice A' q2 c') ∧ Fr (fun _ => False) w1 w') (fun e w' g => ⟨by rw [g.1, HT.out], HS.out w' (hf.2.2.2.2.2.then_ g.2 (fun _ _ h => h))⟩))
      have HCM := hid (fun wx (hf : wx.cell? ⟨gs, 0, none⟩ = some (.slice A M c) ∧ wx.cell? ⟨wr.heap.size, 0, none⟩ = some (.int .i64 k') ∧ wx.cell? ⟨wr.heap.size, 1, none⟩ = some (.int .u64 n') ∧ wx.cell? ⟨wr.heap.size, 2, none⟩ = some (.string s') ∧ wx.cell? ⟨wr.heap.size, 3, none⟩ = some (.slice A' q2 c') ∧ Fr (fun _ => False) w1 wx) => (show Calls Tryd.prog 83 #[.agg #[.slice A M c], .int .i64 t, .agg #[.int .i64 k', .int .u64 n', .string s', .slice A' q2 c']] wx _ from HT.out ▸ HMA.out wx (HF1.out.trans hf.2.2.2.2.2) j hlt _ HCH.out).mono (R' := fun e w' => e = .returned (.bool b) ∧ w'.cell? ⟨gs, 0, none⟩ = some (.slice A M c) ∧ w'.cell? ⟨wr.heap.size, 0, none⟩ = some (.int .i64 k') ∧ w'.cell? ⟨wr.heap.size, 1, none⟩ = some (.int .u64 n') ∧ w'.cell? ⟨wr.heap.size, 2, none⟩ = some (.string s') ∧ w'.cell? ⟨wr.heap.size, 3, none⟩ = some (.slice A' q2 c') ∧ Fr (fun _ => False) w1 w') (fun e w' g => ⟨by rw [g.1, HB.out], HS.out w' (hf.2.2.2.2.2.then_ g.2 (fun _ _ h => h))⟩))
      cases b with
      | true =>
        go_wp2_with fail
        rw [HW1.out]
        go_region_held3 (fun w' => w'.cell? ⟨gs, 0, none⟩ = some (.slice A M c) ∧ w'.cell? ⟨wr.heap.size, 0, none⟩ = some (.int .i64 k') ∧ w'.cell? ⟨wr.heap.size, 1, none⟩ = some (.int .u64 n') ∧ w'.cell? ⟨wr.heap.size, 2, none⟩ = some (.string s') ∧ w'.cell? ⟨wr.heap.size, 3, none⟩ = some (.slice A' q2 c') ∧ Fr (fun _ => False) w1 w')
          (first | exact HS.out _ (Fr.refl _ _) | exact HS.out _ (Fr.refl _ _).drew | assumption)
          (first
            | ((go_at_call 112; with_reducible refine (HCL.out _ (by assumption)).mono ?_; rintro e' w8 ⟨rfl, hS⟩))
            | ((go_at_call 83; with_reducible refine (HCM.out _ (by assumption)).mono ?_; rintro e' w8 ⟨rfl, hS⟩)))
        all_goals
          go_wp2_with fail
          go_roundw
          case rel => exact ⟨j + 1, by omega, by go_num, hid (fun q hq => by
            by_cases h : q < j
            · exact HA.out q h
            · obtain rfl : q = j := by omega
              exact HB.out), hid (HF1.out.trans hS.2.2.2.2.2)⟩
          case measure => simp [intOf]; omega
      | false =>
        go_wp2_with fail
        rw [HW1.out]
        go_region_held3 (fun w' => w'.cell? ⟨gs, 0, none⟩ = some (.slice A M c) ∧ w'.cell? ⟨wr.heap.size, 0, none⟩ = some (.int .i64 k') ∧ w'.cell? ⟨wr.heap.size, 1, none⟩ = some (.int .u64 n') ∧ w'.cell? ⟨wr.heap.size, 2, none⟩ = some (.string s') ∧ w'.cell? ⟨wr.heap.size, 3, none⟩ = some (.slice A' q2 c') ∧ Fr (fun _ => False) w1 w')
          (first | exact HS.out _ (Fr.refl _ _) | exact HS.out _ (Fr.refl _ _).drew | assumption)
          (first
            | ((go_at_call 112; with_reducible refine (HCL.out _ (by assumption)).mono ?_; rintro e' w8 ⟨rfl, hS⟩))
            | ((go_at_call 83; with_reducible refine (HCM.out _ (by assumption)).mono ?_; rintro e' w8 ⟨rfl, hS⟩)))
        all_goals
          go_wp2_with fail
          go_ret
          exact ⟨ret_bool (all_snoc hlt HB.out).symm, HF1.out.trans hS.2.2.2.2.2⟩
    · obtain rfl : j = m := by omega
      go_wp2_with fail
      go_ret
      exact ⟨ret_bool (all_yes HA.out).symm, HF.out⟩

set_option maxRecDepth 100000 in
set_option maxHeartbeats 4000000 in
theorem all3_calls (w0 : World) (A : Option Addr) (M c lo hi gs gx g : Nat) (l : List It) (Ax : Option Addr) (m cx : Nat) (T : Nat → Int) (B : Nat → Bool) (hm : l.length = m) (hc : m ≤ cx) (hml : m ≤ 2000000) (hh : hi ≤ w0.heap.size) (hL : ItsAt w0 lo hi l Ax 0)
    (hs : w0.cell? ⟨gs, 0, none⟩ = some (.slice A M c)) (hx : w0.cell? ⟨gx, 3, none⟩ = some (.slice Ax m cx)) (hsb : gs < w0.heap.size)
    (hat : ∀ w', Fr (fun _ => False) w0 w' → ∀ k : Nat, k < m → Calls Tryd.prog 113 #[.int .i64 (k : Int), .pointer (some ⟨g, 0, none⟩)] w' fun e w'' => e = .returned (.int .i64 (T k)) ∧ Fr (fun _ => False) w' w'')
    (hma : ∀ w', Fr (fun _ => False) w0 w' → ∀ k : Nat, k < m → ∀ cs, ItAt w0 lo hi (l.getD k noIt) cs → Calls Tryd.prog 83 #[.agg #[.slice A M c], .int .i64 (T k), .agg cs.toArray] w' fun e w'' => e = .returned (.bool (B k)) ∧ Fr (fun _ => False) w' w'') :
    Calls Tryd.prog 110 #[.func (.func 113) #[] #[.pointer (some ⟨g, 0, none⟩)], .pointer (some ⟨gx, 0, none⟩), .pointer (some ⟨gs, 0, none⟩)] w0 fun e w' => e = .returned (.bool ((List.range m).all B)) ∧ Fr (fun _ => False) w0 w' := by
  have HM := hid hm
  have HL := hid hL
  have HAT := hid hat
  have HMA := hid hma
  have HSC := hid hs
  have HSB := hid hsb
  clear hm hL hat hma hs hsb
  go_enter Tryd.func110, Tryd.ntmps110
  go_wp2_with fail
  go_loopw [10] (fun i wr => ∃ j : Nat, j ≤ m ∧ i = .int .i64 j ∧ Hid (∀ q, q < j → B q = true) ∧ Hid (Fr (fun _ => False) w0 wr)) (fun i _ => m - (intOf i).toNat)
  case atStart => exact ⟨0, Nat.zero_le _, rfl, hid (fun q hq => by omega), hid (Fr.refl _ _)⟩
  case round =>
    obtain ⟨j, hj, rfl, HA, HF⟩ := hrel
    by_cases hlt : j < m
    · obtain ⟨ad, k', n', s', l2, A', c', rfl, hla, hab, hx', b0, b1, b2, b3, hch⟩ := ItsAt.kid HL.out j (by rw [HM.out]; exact hlt)
      have hbk : (ad.add (j * 4)).block < w0.heap.size := by rw [block_of_add]; omega
      have c0 := (HF.out.cell hbk (fun h => h)).trans b0
      have c1 := (HF.out.cell (p := ⟨_, _, none⟩) hbk (fun h => h)).trans b1
      have c2 := (HF.out.cell (p := ⟨_, _, none⟩) hbk (fun h => h)).trans b2
      have c3 := (HF.out.cell (p := ⟨_, _, none⟩) hbk (fun h => h)).trans b3
      have HKM := hid (HMA.out)
      obtain ⟨t, ht⟩ : ∃ t, T j = t := ⟨_, rfl⟩
      obtain ⟨b, hb⟩ : ∃ b, B j = b := ⟨_, rfl⟩
      have HT := hid ht
      have HB := hid hb
      have HCH := hid (show ItAt w0 lo hi (l.getD j noIt) [.int .i64 k', .int .u64 n', .string s', .slice A' l2.length c'] by rw [getD_it (by rw [HM.out]; exact hlt), hx']; exact hch)
      obtain ⟨q2, hq2⟩ : ∃ q, l2.length = q := ⟨_, rfl⟩
      rw [hq2] at c3 HCH
      clear b0 b1 b2 b3 hx' hch hq2 hla hab hbk ht hb
      have hj0 : (0 : Int) ≤ (j : Int) := by omega
      have hjm : (j : Int) < (m : Int) := by omega
      have hjc : (j : Int) < (cx : Int) := by omega
      obtain ⟨w1, hw1⟩ : ∃ w1, wr.alloc (.cells #[.int .i64 k', .int .u64 n', .string s', .slice A' q2 c'] 25) = w1 := ⟨_, rfl⟩
      have HF1 := hid (show Fr (fun _ => False) w0 w1 by rw [← hw1]; exact HF.out.alloc _)
      have HB1 := hid (show Blk w1 wr.heap.size 25 #[.int .i64 k', .int .u64 n', .string s', .slice A' q2 c'] by rw [← hw1]; exact Blk.new wr _ _)
      have HW1 := hid hw1
      clear hw1
      have HS := hid (show ∀ w', Fr (fun _ => False) w1 w' → w'.cell? ⟨gs, 0, none⟩ = some (.slice A M c) ∧ w'.cell? ⟨wr.heap.size, 0, none⟩ = some (.int .i64 k') ∧ w'.cell? ⟨wr.heap.size, 1, none⟩ = some (.int .u64 n') ∧ w'.cell? ⟨wr.heap.size, 2, none⟩ = some (.string s') ∧ w'.cell? ⟨wr.heap.size, 3, none⟩ = some (.slice A' q2 c') ∧ Fr (fun _ => False) w1 w' from fun w' hf => by
        have hB := HB1.out.fr hf (fun h => h)
        have e0 := hB.cell 0
        have e1 := hB.cell 1
        have e2 := hB.cell 2
        have e3 := hB.cell 3
        simp at e0 e1 e2 e3
        exact ⟨((HF1.out.trans hf).cell (p := ⟨_, _, none⟩) HSB.out (fun h => h)).trans HSC.out, e0, e1, e2, e3, hf⟩)
      have HCL := hid (fun wx (hf : wx.cell? ⟨gs, 0, none⟩ = some (.slice A M c) ∧ wx.cell? ⟨wr.heap.size, 0, none⟩ = some (.int .i64 k') ∧ wx.cell? ⟨wr.heap.size, 1, none⟩ = some (.int .u64 n') ∧ wx.cell? ⟨wr.heap.size, 2, none⟩ = some (.string s') ∧ wx.cell? ⟨wr.heap.size, 3, none⟩ = some (.slice A' q2 c') ∧ Fr (fun _ => False) w1 wx) => (HAT.out wx (HF1.out.trans hf.2.2.2.2.2) j hlt).mono (R' := fun e w' => e = .returned (.int .i64 t) ∧ w'.cell? ⟨gs, 0, none⟩ = some (.slice A M c) ∧ w'.cell? ⟨wr.heap.size, 0, none⟩ = some (.int .i64 k') ∧ w'.cell? ⟨wr.heap.size, 1, none⟩ = some (.int .u64 n') ∧ w'.cell? ⟨wr.heap.size, 2, none⟩ = some (.string s') ∧ w'.cell? ⟨wr.heap.size, 3, none⟩ = some (.slice A' q2 c') ∧ Fr (fun _ => False) w1 w') (fun e w' g => ⟨by rw [g.1, HT.out], HS.out w' (hf.2.2.2.2.2.then_ g.2 (fun _ _ h => h))⟩))
      have HCM := hid (fun wx (hf : wx.cell? ⟨gs, 0, none⟩ = some (.slice A M c) ∧ wx.cell? ⟨wr.heap.size, 0, none⟩ = some (.int .i64 k') ∧ wx.cell? ⟨wr.heap.size, 1, none⟩ = some (.int .u64 n') ∧ wx.cell? ⟨wr.heap.size, 2, none⟩ = some (.string s') ∧ wx.cell? ⟨wr.heap.size, 3, none⟩ = some (.slice A' q2 c') ∧ Fr (fun _ => False) w1 wx) => (show Calls Tryd.prog 83 #[.agg #[.slice A M c], .int .i64 t, .agg #[.int .i64 k', .int .u64 n', .string s', .slice A' q2 c']] wx _ from HT.out ▸ HMA.out wx (HF1.out.trans hf.2.2.2.2.2) j hlt _ HCH.out).mono (R' := fun e w' => e = .returned (.bool b) ∧ w'.cell? ⟨gs, 0, none⟩ = some (.slice A M c) ∧ w'.cell? ⟨wr.heap.size, 0, none⟩ = some (.int .i64 k') ∧ w'.cell? ⟨wr.heap.size, 1, none⟩ = some (.int .u64 n') ∧ w'.cell? ⟨wr.heap.size, 2, none⟩ = some (.string s') ∧ w'.cell? ⟨wr.heap.size, 3, none⟩ = some (.slice A' q2 c') ∧ Fr (fun _ => False) w1 w') (fun e w' g => ⟨by rw [g.1, HB.out], HS.out w' (hf.2.2.2.2.2.then_ g.2 (fun _ _ h => h))⟩))
      cases b with
      | true =>
        go_wp2_with fail
        rw [HW1.out]
        go_region_held3 (fun w' => w'.cell? ⟨gs, 0, none⟩ = some (.slice A M c) ∧ w'.cell? ⟨wr.heap.size, 0, none⟩ = some (.int .i64 k') ∧ w'.cell? ⟨wr.heap.size, 1, none⟩ = some (.int .u64 n') ∧ w'.cell? ⟨wr.heap.size, 2, none⟩ = some (.string s') ∧ w'.cell? ⟨wr.heap.size, 3, none⟩ = some (.slice A' q2 c') ∧ Fr (fun _ => False) w1 w')
          (first | exact HS.out _ (Fr.refl _ _) | exact HS.out _ (Fr.refl _ _).drew | assumption)
          (first
            | ((go_at_call 113; with_reducible refine (HCL.out _ (by assumption)).mono ?_; rintro e' w8 ⟨rfl, hS⟩))
            | ((go_at_call 83; with_reducible refine (HCM.out _ (by assumption)).mono ?_; rintro e' w8 ⟨rfl, hS⟩)))
        all_goals
          go_wp2_with fail
          go_roundw
          case rel => exact ⟨j + 1, by omega, by go_num, hid (fun q hq => by
            by_cases h : q < j
            · exact HA.out q h
            · obtain rfl : q = j := by omega
              exact HB.out), hid (HF1.out.trans hS.2.2.2.2.2)⟩
          case measure => simp [intOf]; omega
      | false =>
        go_wp2_with fail
        rw [HW1.out]
        go_region_held3 (fun w' => w'.cell? ⟨gs, 0, none⟩ = some (.slice A M c) ∧ w'.cell? ⟨wr.heap.size, 0, none⟩ = some (.int .i64 k') ∧ w'.cell? ⟨wr.heap.size, 1, none⟩ = some (.int .u64 n') ∧ w'.cell? ⟨wr.heap.size, 2, none⟩ = some (.string s') ∧ w'.cell? ⟨wr.heap.size, 3, none⟩ = some (.slice A' q2 c') ∧ Fr (fun _ => False) w1 w')
          (first | exact HS.out _ (Fr.refl _ _) | exact HS.out _ (Fr.refl _ _).drew | assumption)
          (first
            | ((go_at_call 113; with_reducible refine (HCL.out _ (by assumption)).mono ?_; rintro e' w8 ⟨rfl, hS⟩))
            | ((go_at_call 83; with_reducible refine (HCM.out _ (by assumption)).mono ?_; rintro e' w8 ⟨rfl, hS⟩)))
        all_goals
          go_wp2_with fail
          go_ret
          exact ⟨ret_bool (all_snoc hlt HB.out).symm, HF1.out.trans hS.2.2.2.2.2⟩
    · obtain rfl : j = m := by omega
      go_wp2_with fail
      go_ret
      exact ⟨ret_bool (all_yes HA.out).symm, HF.out⟩
end Go.Proofs.YtkmgiodhaaajjaaDoor.DenB
