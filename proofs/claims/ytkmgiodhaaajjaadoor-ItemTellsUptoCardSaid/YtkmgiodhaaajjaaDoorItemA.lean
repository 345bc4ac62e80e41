/- Layer item: how deep, how many; the same. -/
import Derived.Test.YtkmgiodhaaajjaaDoorProg
import Derived.Test.YtkmgiodhaaajjaaDoorItemM
import Derived.Deep.QuietTactic
import Derived.BigQuiet
import Derived.Deep.RegionHeld3
set_option linter.unusedVariables false
set_option linter.unusedSimpArgs false
namespace Go.Proofs.YtkmgiodhaaajjaaDoor.ItemA
open Go.IntWalk Go.RowKit Go.Proofs.YtkmgiodhaaajjaaDoor.Mem Go.Proofs.YtkmgiodhaaajjaaDoor.ItemP Go.Proofs.YtkmgiodhaaajjaaDoor.ItemM Go.Proofs.YtkmgiodhaaajjaaDoor.Own

set_option maxRecDepth 20000 in
set_option maxHeartbeats 2000000 in
theorem depth_calls (N : Nat) : ∀ (x : It), x.size ≤ N → N ≤ 2000000 → ∀ (lo hi : Nat) (cs : List Value) (w : World), hi ≤ w.heap.size → ItAt w lo hi x cs →
    Calls Tryd.prog 18 #[.agg cs.toArray] w fun e w' => e = .returned (.int .i64 x.depth) ∧ Fr (fun _ => False) w w' := by
  induction N with
  | zero => intro x hx; have := size_pos x; omega
  | succ N ih =>
    intro x hx hN lo hi cs w hh hi_
    obtain ⟨k, n, s, l⟩ := x
    obtain ⟨A, c, rfl, hc, hk, hn, hs, hl, hL⟩ := hi_
    have HIH := hid ih
    have HSZ := hid hx
    have HLB := hid (sizes_length l)
    have hl2 : l.length ≤ 2000000 := by have h1 := HSZ.out; have h2 := HLB.out; simp only [It.size] at h1; omega
    obtain ⟨m, hm⟩ : ∃ m, l.length = m := ⟨_, rfl⟩
    have HM := hid hm
    have HL := hid hL
    have HD := hid (show (It.mk k n s l).depth = depths l + 1 by simp [It.depth])
    have HDB := hid (depths_le l)
    rw [hm] at hc hl2 ⊢
    clear ih hx hL hm hk hn hs hl
    obtain ⟨w1, hw1⟩ : ∃ w1, w.alloc (.cells #[.int .i64 k, .int .u64 n, .string s, .slice A m c] 25) = w1 := ⟨_, rfl⟩
    have HF1 := hid (show Fr (fun _ => False) w w1 by rw [← hw1]; exact (Fr.refl _ w).alloc _)
    have HW1 := hid hw1
    clear hw1
    go_enter Tryd.func18, Tryd.ntmps18
    go_wp2_with fail
    rw [HW1.out]
    go_loopw [3, 9] (fun mo i wr => ∃ j : Nat, j ≤ m ∧ i = .int .i64 j ∧ mo = .int .i64 (depths (l.take j)) ∧ Hid (Fr (fun _ => False) w wr)) (fun _ i _ => m - (intOf i).toNat)
    case atStart => exact ⟨0, Nat.zero_le _, rfl, rfl, HF1⟩
    case round =>
      obtain ⟨j, hj, rfl, rfl, HF⟩ := hrel
      by_cases hlt : j < m
      · obtain ⟨ad, k', n', s', l', A', c', rfl, _, hab, hx', c0, c1, c2, c3, hch⟩ := ItsAt.kid (ItsAt.fr0 HL.out HF.out hh) j (by rw [HM.out]; exact hlt)
        have HS := hid (depths_take_succ l j (by rw [HM.out]; exact hlt))
        rw [hx'] at HS
        have HCZ := hid (show (It.mk k' n' s' l').size ≤ N by have := size_get k n s l j (by rw [HM.out]; exact hlt); rw [hx'] at this; have := HSZ.out; omega)
        have HCH := hid hch
        have hj0 : (0 : Int) ≤ (j : Int) := by omega
        have hjm : (j : Int) < (m : Int) := by omega
        have hjc : (j : Int) < (c : Int) := by omega
        have HDJ := hid (show depths (l.take j) ≤ 2000000 by
          have h1 := depths_le (l.take j)
          have h2 := sizes_take_le l j
          have h3 := HSZ.out
          simp only [It.size] at h3; omega)
        have hdj := HDJ.out
        have HSL := hid (show hi ≤ wr.heap.size from Nat.le_trans hh HF.out.size)
        clear hx' hch
        go_wp2_with fail
        refine (HIH.out _ HCZ.out (by omega) lo hi _ _ (by simp; have := HSL.out; omega) (HCH.out.fr0 ((Fr.refl _ wr).alloc _) HSL.out)).mono ?_
        rintro e w2 ⟨rfl, hf⟩
        have HF2 := hid ((HF.out.alloc _).then_ hf (fun _ _ h => h))
        clear hf c0 c1 c2 c3
        go_wp2_with fail
        go_roundw
        case rel => exact ⟨j + 1, by omega, by go_num, congrArg (Value.int .i64) (by rw [HS.out]; split <;> omega), HF2⟩
        case measure => simp [intOf]; omega
      · obtain rfl : j = m := by omega
        have e : depths (l.take j) = depths l := by rw [List.take_of_length_le (by rw [HM.out]; omega)]
        rw [e]
        have hb : depths l ≤ 2000000 := by have h1 := HDB.out; have h3 := HSZ.out; simp only [It.size] at h3; omega
        go_wp2_with fail
        go_ret
        refine ⟨?_, HF.out⟩
        rw [HD.out]
        first | rfl | (simp; done)
end Go.Proofs.YtkmgiodhaaajjaaDoor.ItemA
