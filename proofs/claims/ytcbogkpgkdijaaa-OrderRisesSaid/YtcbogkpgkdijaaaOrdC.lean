/- Walks of layer order: End. -/
import Derived.Test.YtcbogkpgkdijaaaOrdB
set_option linter.unusedVariables false
set_option linter.unusedSimpArgs false
namespace Go.Proofs.Ytcbogkpgkdijaaa.OrdC
open Go.RowKit Go.Proofs.Ytcbogkpgkdijaaa.Mem Go.Proofs.Ytcbogkpgkdijaaa.Num Go.Proofs.Ytcbogkpgkdijaaa.OrdA Go.Proofs.Ytcbogkpgkdijaaa.OrdB

theorem end_nil (w : World) : Calls Try.prog 28 #[.pointer none] w fun e w' => e = .returned (.bool false) ∧ w = w' := by
  go_enter Try.func28, Try.ntmps28
  go_wp2
  go_ret
  exact ⟨rfl, rfl⟩

def okB (k : K) : Bool := !k.ended || lessL k.last k.cur
def endK (k : K) : K := if k.now then ⟨[], k.k1, false, true⟩ else ⟨k.k0, [], true, true⟩

set_option maxHeartbeats 4000000 in
theorem end_calls (g b0 b1 cap : Nat) (k : K) (w : World) (h : KeyAt w g b0 b1 cap k) :
    Calls Try.prog 28 #[.pointer (some ⟨g, 0, none⟩)] w fun e w' => e = .returned (.bool (okB k)) ∧ KeyAt w' g b0 b1 cap (endK k) ∧ Fr (fun i => i = g) w w' := by
  obtain ⟨k0, k1, now, ended⟩ := k
  have c0 := h.blk.cell 0
  have c1 := h.blk.cell 1
  have c2 := h.blk.cell 2
  have c3 := h.blk.cell 3
  have f0 := h.blk.frozen 0
  have f1 := h.blk.frozen 1
  have f2 := h.blk.frozen 2
  have f3 := h.blk.frozen 3
  simp at c0 c1 c2 c3
  have hlt := h.blk.lt
  have H := hid h
  clear h
  cases now
  · simp only [nowI, if_true, if_false, Bool.false_eq_true] at c2
    obtain ⟨v, hv⟩ : ∃ v, lessL k1 k0 = v := ⟨_, rfl⟩
    have HV := hid hv
    clear hv
    have fin : ∀ nq : Nat, KeyAt ((((w.drewN nq).setCell ⟨g, 3, none⟩ (.bool true)).setCell ⟨g, 2, none⟩ (.int .i64 1)).setCell ⟨g, 1, none⟩ (.slice (some ⟨b1, 0, none⟩) 0 cap)).drew g b0 b1 cap ⟨k0, [], true, true⟩ ∧
        Fr (fun i => i = g) w ((((w.drewN nq).setCell ⟨g, 3, none⟩ (.bool true)).setCell ⟨g, 2, none⟩ (.int .i64 1)).setCell ⟨g, 1, none⟩ (.slice (some ⟨b1, 0, none⟩) 0 cap)).drew := by
      intro nq
      have hf : Fr (fun i => i = g) w ((((w.drewN nq).setCell ⟨g, 3, none⟩ (.bool true)).setCell ⟨g, 2, none⟩ (.int .i64 1)).setCell ⟨g, 1, none⟩ (.slice (some ⟨b1, 0, none⟩) 0 cap)).drew := (((((Fr.refl _ w).drewN nq).set1 _ _).set1 _ _).set1 _ _).drew
      refine ⟨⟨?_, H.out.r0.fr hf (row_ne H.out.r0 H.out.blk), (H.out.r1.fr hf (row_ne H.out.r1 H.out.blk)).cut, H.out.ne, H.out.by0, (fun _ h => absurd h (by simp))⟩, hf⟩
      have := ((((H.out.blk.drewN nq).set_ 3 (.bool true)).set_ 2 (.int .i64 1)).set_ 1 (.slice (some ⟨b1, 0, none⟩) 0 cap)).drew
      simpa [nowI] using this
    have FIN := hid fin
    clear fin
    cases ended
    · go_enter Try.func28, Try.ntmps28
      go_wp2
      go_quiet (fail)
      go_wp2
      go_region
      go_wp2
      go_ret
      exact ⟨rfl, FIN.out _⟩
    · go_enter Try.func28, Try.ntmps28
      go_wp2
      go_quiet ((go_at_call 33; exact ahead_q _ _ _ _ _ _ _ _ v _ _ rfl rfl H.out.r1.rd H.out.r0.rd H.out.by1 H.out.by0 HV))
      go_wp2
      go_region
      go_wp2
      go_ret
      exact ⟨ret_bool (by rw [← HV.out]; rfl), FIN.out _⟩
  · simp only [nowI, if_true, if_false, Bool.false_eq_true] at c2
    obtain ⟨v, hv⟩ : ∃ v, lessL k0 k1 = v := ⟨_, rfl⟩
    have HV := hid hv
    clear hv
    have fin : ∀ nq : Nat, KeyAt ((((w.drewN nq).setCell ⟨g, 3, none⟩ (.bool true)).setCell ⟨g, 2, none⟩ (.int .i64 0)).setCell ⟨g, 0, none⟩ (.slice (some ⟨b0, 0, none⟩) 0 cap)).drew g b0 b1 cap ⟨[], k1, false, true⟩ ∧
        Fr (fun i => i = g) w ((((w.drewN nq).setCell ⟨g, 3, none⟩ (.bool true)).setCell ⟨g, 2, none⟩ (.int .i64 0)).setCell ⟨g, 0, none⟩ (.slice (some ⟨b0, 0, none⟩) 0 cap)).drew := by
      intro nq
      have hf : Fr (fun i => i = g) w ((((w.drewN nq).setCell ⟨g, 3, none⟩ (.bool true)).setCell ⟨g, 2, none⟩ (.int .i64 0)).setCell ⟨g, 0, none⟩ (.slice (some ⟨b0, 0, none⟩) 0 cap)).drew := (((((Fr.refl _ w).drewN nq).set1 _ _).set1 _ _).set1 _ _).drew
      refine ⟨⟨?_, (H.out.r0.fr hf (row_ne H.out.r0 H.out.blk)).cut, H.out.r1.fr hf (row_ne H.out.r1 H.out.blk), H.out.ne, (fun _ h => absurd h (by simp)), H.out.by1⟩, hf⟩
      have := ((((H.out.blk.drewN nq).set_ 3 (.bool true)).set_ 2 (.int .i64 0)).set_ 0 (.slice (some ⟨b0, 0, none⟩) 0 cap)).drew
      simpa [nowI] using this
    have FIN := hid fin
    clear fin
    cases ended
    · go_enter Try.func28, Try.ntmps28
      go_wp2
      go_quiet (fail)
      go_wp2
      go_region
      go_wp2
      go_ret
      exact ⟨rfl, FIN.out _⟩
    · go_enter Try.func28, Try.ntmps28
      go_wp2
      go_quiet ((go_at_call 33; exact ahead_q _ _ _ _ _ _ _ _ v _ _ rfl rfl H.out.r0.rd H.out.r1.rd H.out.by0 H.out.by1 HV))
      go_wp2
      go_region
      go_wp2
      go_ret
      exact ⟨ret_bool (by rw [← HV.out]; rfl), FIN.out _⟩

end Go.Proofs.Ytcbogkpgkdijaaa.OrdC
