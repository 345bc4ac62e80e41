/- Layer hex: the program's Take. -/
import Derived.Test.YtgdhchknegjpfaaDoorHexD
import Derived.Deep.QuietTactic
import Derived.BigQuiet
set_option linter.unusedVariables false
set_option linter.unusedSimpArgs false
namespace Go.Proofs.YtgdhchknegjpfaaDoor.HexE
open Go.IntWalk Go.RowKit Go.Proofs.YtgdhchknegjpfaaDoor.Mem Go.Proofs.YtgdhchknegjpfaaDoor.Num Go.Proofs.YtgdhchknegjpfaaDoor.BitsA Go.Proofs.YtgdhchknegjpfaaDoor.Txt Go.Proofs.YtgdhchknegjpfaaDoor.HexA Go.Proofs.YtgdhchknegjpfaaDoor.HexC Go.Proofs.YtgdhchknegjpfaaDoor.HexD Go.Proofs.YtgdhchknegjpfaaDoor.App

set_option maxRecDepth 100000 in
theorem or16 : ∀ a b : Fin 16, Go.bits .or .i64 ((a.val : Int) * 16) (b.val : Int) = (a.val : Int) * 16 + (b.val : Int) := by decide
theorem or_hex {va vb : Int} (h1 : ¬ va < 0) (h2 : va < 16) (h3 : ¬ vb < 0) (h4 : vb < 16) : Go.bits .or .i64 (va * 16) vb = va * 16 + vb := by
  have := or16 ⟨va.toNat, by omega⟩ ⟨vb.toNat, by omega⟩
  simp only at this
  rwa [show ((va.toNat : Nat) : Int) = va by omega, show ((vb.toNat : Nat) : Int) = vb by omega] at this
set_option maxRecDepth 20000 in
set_option maxHeartbeats 2000000 in
theorem take_calls (s : ByteArray) (w : World) (hs : s.size ≤ 1000000) :
    Calls Tryd.prog 23 #[.string s] w (TakeTo w (takeP (byt s))) := by
  by_cases hodd : s.size % 2 = 1
  · have HT := hid (take_none (takeP_odd (byt s) (by rw [byt_length]; exact hodd)) (Fr.refl (fun _ => False) w))
    have e : ((s.size : Int) % 2 != 0) = true := by rw [bne_iff_ne]; omega
    clear hodd
    go_enter Tryd.func23, Tryd.ntmps23
    go_wp2
    go_ret2
    exact HT.out
  · have e : ((s.size : Int) % 2 != 0) = false := by simp; omega
    have HE := hid hodd
    clear hodd
    go_enter Tryd.func23, Tryd.ntmps23
    go_wp2
    go_loopw [4, 5] (fun v i wr => ∃ j : Nat, i = .int .i64 j ∧ Hid (Half s w v j wr)) (fun _ i _ => s.size - (intOf i).toNat)
    case atStart => exact ⟨0, rfl, hid (Half.start s w)⟩
    case round =>
      obtain ⟨j, rfl, HH⟩ := hrel
      have hj := HH.out.1
      have hj2 := HH.out.2.1
      by_cases hlt : j + 1 < s.size
      · have h0 : (0 : Int) ≤ (j : Int) := by omega
        have h1 : (j : Int) < (s.size : Int) := by omega
        have h2 : (0 : Int) ≤ (j : Int) + 1 := by omega
        have h3 : (j : Int) + 1 < (s.size : Int) := by omega
        have hjl : j < s.size := by omega
        obtain ⟨va, hva⟩ : ∃ va, hv ((s[j]'hjl).toNat : Int) = va := ⟨_, rfl⟩
        obtain ⟨vb, hvb⟩ : ∃ vb, hv ((s[j + 1]'hlt).toNat : Int) = vb := ⟨_, rfl⟩
        have ba := hv_bd ((s[j]'hjl).toNat : Int)
        have bb := hv_bd ((s[j + 1]'hlt).toNat : Int)
        rw [hva] at ba
        rw [hvb] at bb
        have n1 : IntKind.i64.wrap ((j : Int) + 1) = (j : Int) + 1 := IntWalk.i64_in _ (by omega)
        have t1 : ((j : Int) + 1).toNat = j + 1 := by omega
        have HVA := hid hva
        have HVB := hid hvb
        clear hva hvb
        obtain ⟨acc, HA1, HA2, HO, HF⟩ : ∃ acc : List Int, Hid (acc.length * 2 = j) ∧ Hid (takeP (byt s) = (takeP ((byt s).drop j)).map (acc ++ ·)) ∧ Hid (Own .u8 5 wr w.heap.size u4 acc) ∧ Hid (Fr (fun _ => False) w wr) := HH.out.2.2
        by_cases hna : va < 0
        · have HT := hid (HH.out.stop hlt (.inl (by rw [HVA.out]; exact hna)))
          go_wp2
          go_quiet ((go_at_call 45; exact Calls.quiet_of_same (idx_calls _ _)))
          clear n1
          rw [HVA.out]
          go_wp2
          go_ret2
          exact take_none HT.out (HF.out.drewN _)
        · by_cases hnb : vb < 0
          · have HT := hid (HH.out.stop hlt (.inr (by rw [HVB.out]; exact hnb)))
            go_wp2
            go_quiet ((go_at_call 45; exact Calls.quiet_of_same (idx_calls _ _)))
            clear n1
            rw [HVA.out, HVB.out]
            go_wp2
            go_ret2
            exact take_none HT.out (HF.out.drewN _)
          · go_wp2
            go_quiet ((go_at_call 45; exact Calls.quiet_of_same (idx_calls _ _)))
            clear n1
            rw [HVA.out, HVB.out]
            have HOd := hid (HO.out.fr ((Fr.refl (fun _ => False) wr).drewN nq) (fun _ _ h => h))
            have HFd := hid (HF.out.drewN nq)
            have hor := or_hex (by omega) ba.2 (by omega) bb.2
            have HAL := hid (show acc.length ≤ 1000000 by have := HA1.out; omega)
            go_wp2_with (refine wpList_app1 rfl (.tmp 33) (.tmp 39) 32 rfl 1 Tryd.underlying32 infoByte (wr.drewN nq) (va * 16 + vb) 5 _ acc rfl HOd.out rfl (by have := HAL.out; omega) HFd.out.size ?_; intro v7 w7 HO7 HK7)
            go_roundw
            case rel => exact ⟨j + 2, by go_num, hid (Half.step hj2 hlt HA1.out HA2.out HVA.out HVB.out (by omega) (by omega) HO7.out (HK7.out _ _ HFd.out (Nat.le_refl _)))⟩
            case measure => simp [intOf]; omega
      · have hjs : j = s.size := by have := HE.out; omega
        obtain ⟨l, h1, h2, h3⟩ := HH.out.done hjs
        have H1 := hid h1
        have H2 := hid h2
        have H3 := hid h3
        have hge : ¬ j < s.size := by omega
        clear h1 h2 h3 hjs
        go_wp2
        go_ret2
        exact take_some H1.out H2.out H3.out
end Go.Proofs.YtgdhchknegjpfaaDoor.HexE
