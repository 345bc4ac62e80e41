/- Walks of layer head: a reader's step. -/
import Derived.Test.YtgdhchknegjpfaaDoorHeadC
set_option linter.unusedVariables false
set_option linter.unusedSimpArgs false
namespace Go.Proofs.YtgdhchknegjpfaaDoor.HeadD
open Go.IntWalk Go.RowKit Go.Proofs.YtgdhchknegjpfaaDoor.Mem Go.Proofs.YtgdhchknegjpfaaDoor.Num Go.Proofs.YtgdhchknegjpfaaDoor.BitsA Go.Proofs.YtgdhchknegjpfaaDoor.BitsB Go.Proofs.YtgdhchknegjpfaaDoor.App Go.Proofs.YtgdhchknegjpfaaDoor.FloatP Go.Proofs.YtgdhchknegjpfaaDoor.FloatB Go.Proofs.YtgdhchknegjpfaaDoor.FloatG Go.Proofs.YtgdhchknegjpfaaDoor.FloatI Go.Proofs.YtgdhchknegjpfaaDoor.HeadP Go.Proofs.YtgdhchknegjpfaaDoor.HeadA Go.Proofs.YtgdhchknegjpfaaDoor.HeadB Go.Proofs.YtgdhchknegjpfaaDoor.HeadC

def Z9 (w : World) (g : Nat) : Prop := RB w g 0 0 0 0 0 0 0 false 0
set_option maxHeartbeats 1000000 in
theorem step_err (g M I : Nat) (c : Int) (w : World) (hc : c = 32 * (M : Int) + (I : Int)) (hM : M < 8) (hI : I < 32) (h28 : 28 ≤ I) (h : RB w g 0 0 0 0 0 0 0 false 0) :
    Calls Tryd.prog 12 #[.pointer (some ⟨g, 0, none⟩), .int .u8 c] w (StepTo g w false (begE M I) (fun _ => True)) := by
  obtain ⟨d0, d1, d2, d3, d4, d5, d6, d7, d8⟩ := h.cells
  obtain ⟨z0, z1, z2, z3, z4, z5, z6, z7, z8⟩ := h.froz
  have H := hid h
  have HC := hid hc
  have hE : (begE M I : Int) = 5 ∨ (begE M I : Int) = 2 := by
    unfold begE
    rw [if_pos h28]
    split
    · exact .inl rfl
    · exact .inr rfl
  obtain ⟨E, hEe⟩ : ∃ E : Int, (begE M I : Int) = E := ⟨_, rfl⟩
  have HE := hid hEe
  rw [hEe] at hE ⊢
  have e0 : (E != 0) = true := by rw [bne_iff_ne]; omega
  have e1 : (E == 0) = false := by rw [beq_eq_false_iff_ne]; omega
  obtain ⟨W, hW⟩ : ∃ W, begW I = W := ⟨_, rfl⟩
  obtain ⟨A, hA⟩ : ∃ A, begA I = A := ⟨_, rfl⟩
  have HW := hid hW
  have HA := hid hA
  clear h hc hE hEe hW hA h28
  go_enter Tryd.func12, Tryd.ntmps12
  go_wp2_with fail
  refine (begin_calls M I c HC.out hM hI _).mono ?_
  rintro e w3 ⟨rfl, hf⟩
  rw [HW.out, HA.out, HE.out]
  have h3 := hid (RB.fr (S := fun _ => False) (show RB _ g 0 0 0 0 0 0 0 true 0 from Blk.set_ (Blk.set_ (Blk.set_ (Blk.set_ H.out 7 (.bool true)) 3 (.int .i64 0)) 4 (.int .i64 0)) 5 (.int .u64 0)) hf id)
  have f3 := hid ((fr9 (fr9 (fr9 (fr9 (Fr.refl (fun i => i = g) w) 7 (.bool true)) 3 (.int .i64 0)) 4 (.int .i64 0)) 5 (.int .u64 0)).then_ hf (fun _ _ h => h.elim))
  clear hf d0 d1 d2 d3 d4 d5 d6 d7 d8 z0 z1 z2 z3 z4 z5 z6 z7 z8
  obtain ⟨d0, d1, d2, d3, d4, d5, d6, d7, d8⟩ := h3.out.cells
  obtain ⟨z0, z1, z2, z3, z4, z5, z6, z7, z8⟩ := h3.out.froz
  go_wp2_with fail
  go_quiet (fail)
  go_wp2_with fail
  go_ret2
  refine ⟨rfl, trivial, ?_⟩
  exact (fr9 (fr9 (fr9 (fr9 (fr9 f3.out 0 _) 1 _) 2 _) 8 _) 6 _).drewN _
set_option maxHeartbeats 1000000 in
theorem step_wide (g M I : Nat) (c : Int) (w : World) (hc : c = 32 * (M : Int) + (I : Int)) (hM : M < 8) (hI : I < 32) (h24 : 24 ≤ I) (h27 : I ≤ 27) (h : RB w g 0 0 0 0 0 0 0 false 0) :
    Calls Tryd.prog 12 #[.pointer (some ⟨g, 0, none⟩), .int .u8 c] w (StepTo g w false 0 (fun w' => RB w' g M (begW I) 0 0 0 0 (begW I) true 0)) := by
  obtain ⟨d0, d1, d2, d3, d4, d5, d6, d7, d8⟩ := h.cells
  obtain ⟨z0, z1, z2, z3, z4, z5, z6, z7, z8⟩ := h.froz
  have H := hid h
  have HC := hid hc
  have HE := hid (show ((begE M I : Nat) : Int) = 0 by unfold begE; rw [if_neg (by omega), if_neg (by omega)]; rfl)
  have HA := hid (show ((begA I : Nat) : Int) = 0 by unfold begA; rw [if_pos ⟨h24, h27⟩]; rfl)
  have hWc := begW_cases h24 h27
  obtain ⟨W, hW⟩ : ∃ W, begW I = W := ⟨_, rfl⟩
  have HW := hid hW
  rw [hW] at hWc ⊢
  have w0 : 0 < (W : Int) := by omega
  have w1 : decide ((W : Int) > 0) = true := decide_eq_true (by omega)
  clear h hc hW hWc
  go_enter Tryd.func12, Tryd.ntmps12
  go_wp2_with fail
  refine (begin_calls M I c HC.out hM hI _).mono ?_
  rintro e w3 ⟨rfl, hf⟩
  rw [HW.out, HA.out, HE.out]
  have h3 := hid (RB.fr (S := fun _ => False) (show RB _ g 0 0 0 0 0 0 0 true 0 from Blk.set_ (Blk.set_ (Blk.set_ (Blk.set_ H.out 7 (.bool true)) 3 (.int .i64 0)) 4 (.int .i64 0)) 5 (.int .u64 0)) hf id)
  have f3 := hid ((fr9 (fr9 (fr9 (fr9 (Fr.refl (fun i => i = g) w) 7 (.bool true)) 3 (.int .i64 0)) 4 (.int .i64 0)) 5 (.int .u64 0)).then_ hf (fun _ _ h => h.elim))
  clear hf d0 d1 d2 d3 d4 d5 d6 d7 d8 z0 z1 z2 z3 z4 z5 z6 z7 z8
  obtain ⟨d0, d1, d2, d3, d4, d5, d6, d7, d8⟩ := h3.out.cells
  obtain ⟨z0, z1, z2, z3, z4, z5, z6, z7, z8⟩ := h3.out.froz
  go_wp2_with fail
  go_ret2
  refine ⟨rfl, ?_, ?_⟩
  · exact Blk.set_ (Blk.set_ (Blk.set_ (Blk.set_ (Blk.set_ h3.out 0 (.int .i64 M)) 1 (.int .i64 W)) 2 (.int .u64 0)) 8 (.int .i64 0)) 6 (.int .i64 W)
  · exact fr9 (fr9 (fr9 (fr9 (fr9 f3.out 0 _) 1 _) 2 _) 8 _) 6 _
set_option maxHeartbeats 1000000 in
theorem step_low (g M I : Nat) (c : Int) (w : World) (hc : c = 32 * (M : Int) + (I : Int)) (hM : M < 8) (hI : I < 32) (h24 : I < 24) (hd : Dbl w) (hg : ¬ g = 1) (h : RB w g 0 0 0 0 0 0 0 false 0) :
    Calls Tryd.prog 12 #[.pointer (some ⟨g, 0, none⟩), .int .u8 c] w (StepTo g w true 0 (fun w' => RB w' g M 0 I M 0 I 0 false 0)) := by
  obtain ⟨d0, d1, d2, d3, d4, d5, d6, d7, d8⟩ := h.cells
  obtain ⟨z0, z1, z2, z3, z4, z5, z6, z7, z8⟩ := h.froz
  have H := hid h
  have HC := hid hc
  have HD := hid hd
  have HE := hid (show ((begE M I : Nat) : Int) = 0 by unfold begE; rw [if_neg (by omega), if_neg (by omega)]; rfl)
  have HA := hid (show begA I = I by unfold begA; rw [if_neg (by omega)])
  have HW := hid (show ((begW I : Nat) : Int) = 0 by unfold begW; rw [if_neg (by omega), if_neg (by omega), if_neg (by omega), if_neg (by omega)]; rfl)
  clear h hc hd
  go_enter Tryd.func12, Tryd.ntmps12
  go_wp2_with fail
  refine (begin_calls M I c HC.out hM hI _).mono ?_
  rintro e w3 ⟨rfl, hf⟩
  rw [HW.out, HA.out, HE.out]
  have h3 := hid (RB.fr (S := fun _ => False) (show RB _ g 0 0 0 0 0 0 0 true 0 from Blk.set_ (Blk.set_ (Blk.set_ (Blk.set_ H.out 7 (.bool true)) 3 (.int .i64 0)) 4 (.int .i64 0)) 5 (.int .u64 0)) hf id)
  have f3 := hid ((fr9 (fr9 (fr9 (fr9 (Fr.refl (fun i => i = g) w) 7 (.bool true)) 3 (.int .i64 0)) 4 (.int .i64 0)) 5 (.int .u64 0)).then_ hf (fun _ _ h => h.elim))
  clear hf d0 d1 d2 d3 d4 d5 d6 d7 d8 z0 z1 z2 z3 z4 z5 z6 z7 z8
  obtain ⟨d0, d1, d2, d3, d4, d5, d6, d7, d8⟩ := h3.out.cells
  obtain ⟨z0, z1, z2, z3, z4, z5, z6, z7, z8⟩ := h3.out.froz
  go_wp2_with fail
  obtain ⟨w4, hw4⟩ : ∃ w4, ((((w3.setCell ⟨g, 0, none⟩ (.int .i64 M)).setCell ⟨g, 1, none⟩ (.int .i64 0)).setCell ⟨g, 2, none⟩ (.int .u64 I)).setCell ⟨g, 8, none⟩ (.int .i64 0)).setCell ⟨g, 6, none⟩ (.int .i64 0) = w4 := ⟨_, rfl⟩
  have h4 : RB w4 g M (0 : Nat) I 0 0 0 0 true 0 := by rw [← hw4]; exact Blk.set_ (Blk.set_ (Blk.set_ (Blk.set_ (Blk.set_ h3.out 0 (.int .i64 M)) 1 (.int .i64 0)) 2 (.int .u64 I)) 8 (.int .i64 0)) 6 (.int .i64 0)
  have f4 : Fr (fun i => i = g) w w4 := by rw [← hw4]; exact fr9 (fr9 (fr9 (fr9 (fr9 f3.out 0 _) 1 _) 2 _) 8 _) 6 _
  have HF4 := hid f4
  have HEND := hid (end_good g M 0 I 0 0 0 0 true w4 (.inl rfl) (by omega) (by omega) (HD.out.fr f4 (fun e => hg e.symm)) hg h4)
  rw [hw4]
  clear hw4 h4 f4
  refine HEND.out.mono ?_
  rintro e w5 ⟨rfl, hr, hf⟩
  have HR := hid hr
  have HF := hid (HF4.out.then_ hf (fun _ _ h => h))
  clear hr hf d0 d1 d2 d3 d4 d5 d6 d7 d8 z0 z1 z2 z3 z4 z5 z6 z7 z8
  rw [show longB M 0 I = false from rfl]
  go_wp2_with fail
  go_ret2
  exact ⟨rfl, HR.out, HF.out⟩
end Go.Proofs.YtgdhchknegjpfaaDoor.HeadD
