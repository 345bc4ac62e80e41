/- Walks of layer head: a reader's end, its step. -/
import Derived.Test.YtgdhchknegjpfaaDoorHeadB
set_option linter.unusedVariables false
set_option linter.unusedSimpArgs false
namespace Go.Proofs.YtgdhchknegjpfaaDoor.HeadC
open Go.IntWalk Go.RowKit Go.Proofs.YtgdhchknegjpfaaDoor.Mem Go.Proofs.YtgdhchknegjpfaaDoor.Num Go.Proofs.YtgdhchknegjpfaaDoor.BitsA Go.Proofs.YtgdhchknegjpfaaDoor.BitsB Go.Proofs.YtgdhchknegjpfaaDoor.App Go.Proofs.YtgdhchknegjpfaaDoor.FloatP Go.Proofs.YtgdhchknegjpfaaDoor.FloatB Go.Proofs.YtgdhchknegjpfaaDoor.FloatG Go.Proofs.YtgdhchknegjpfaaDoor.FloatI Go.Proofs.YtgdhchknegjpfaaDoor.HeadP Go.Proofs.YtgdhchknegjpfaaDoor.HeadA Go.Proofs.YtgdhchknegjpfaaDoor.HeadB

/-- What a step leaves. -/
def StepTo (g : Nat) (w : World) (d : Bool) (er : Int) (R : World → Prop) (e : Ending) (w' : World) : Prop := e = .returned (.tuple #[.bool d, .int .i64 er]) ∧ R w' ∧ Fr (fun i => i = g) w w'
theorem fr9 {w w' : World} {g : Nat} (h : Fr (fun i => i = g) w w') (i : Nat) (v : Value) : Fr (fun i => i = g) w (w'.setCell ⟨g, i, none⟩ v) := h.set1 i v
set_option maxHeartbeats 1000000 in
theorem end_bad (g : Nat) (A : Nat) (lM lW lA left : Int) (op : Bool) (bad : Int) (w : World) (hA : A < 32) (h : RB w g 7 1 A lM lW lA left op bad) :
    Calls Tryd.prog 38 #[.pointer (some ⟨g, 0, none⟩)] w (StepTo g w false 2 (fun _ => True)) := by
  obtain ⟨d0, d1, d2, d3, d4, d5, d6, d7, d8⟩ := h.cells
  obtain ⟨z0, z1, z2, z3, z4, z5, z6, z7, z8⟩ := h.froz
  have hlt := Blk.lt h
  clear h
  have e1 : decide ((A : Int) < 32) = true := decide_eq_true (by omega)
  have e2 : (A : Int) < 32 := by omega
  clear hA
  go_enter Tryd.func38, Tryd.ntmps38
  go_wp2_with fail
  go_quiet (fail)
  go_wp2_with fail
  go_ret2
  refine ⟨rfl, trivial, ?_⟩
  exact (fr9 (fr9 (fr9 (fr9 (fr9 (fr9 (fr9 (fr9 (fr9 (Fr.refl _ w) 7 _) 3 _) 4 _) 5 _) 7 _) 3 _) 4 _) 5 _) 8 _).drewN _
set_option maxHeartbeats 1000000 in
theorem end_a (g : Nat) (M W : Nat) (A : Nat) (lM lW lA left : Int) (op : Bool) (w : World) (hW : W = 0 ∨ W = 1 ∨ W = 2 ∨ W = 4 ∨ W = 8) (h7 : M ≠ 7) (hA : A < 2 ^ 64) (hd : Dbl w) (hg : ¬ g = 1) (h : RB w g M W A lM lW lA left op 0) :
    Calls Tryd.prog 38 #[.pointer (some ⟨g, 0, none⟩)] w (StepTo g w true (if longB M W A then 5 else 0) (fun w' => RB w' g M W A M W A left false 0)) := by
  obtain ⟨d0, d1, d2, d3, d4, d5, d6, d7, d8⟩ := h.cells
  obtain ⟨z0, z1, z2, z3, z4, z5, z6, z7, z8⟩ := h.froz
  have e7 : ((M : Int) == 7) = false := beq_eq_false_iff_ne.2 (by omega)
  have H := hid h
  have HD := hid hd
  have HA := hid hA
  obtain ⟨w2, hw2⟩ : ∃ w2, ((((w.setCell ⟨g, 7, none⟩ (.bool false)).setCell ⟨g, 3, none⟩ (.int .i64 M)).setCell ⟨g, 4, none⟩ (.int .i64 W)).setCell ⟨g, 5, none⟩ (.int .u64 A)) = w2 := ⟨_, rfl⟩
  have h2 : RB w2 g M W A M W A left false 0 := by rw [← hw2]; exact Blk.set_ (Blk.set_ (Blk.set_ (Blk.set_ h 7 (.bool false)) 3 (.int .i64 M)) 4 (.int .i64 W)) 5 (.int .u64 A)
  have f2 : Fr (fun i => i = g) w w2 := by rw [← hw2]; exact fr9 (fr9 (fr9 (fr9 (Fr.refl _ w) 7 _) 3 _) 4 _) 5 _
  have H2 := hid h2
  have HF2 := hid f2
  have HD2 := hid (hd.fr f2 (fun e => hg e.symm))
  have HW2 := hid hw2
  have HLG := hid (long_calls M W A (by exact hW) hA w2 HD2.out)
  obtain ⟨b, hb⟩ : ∃ b, longB M W A = b := ⟨_, rfl⟩
  rw [hb] at HLG ⊢
  clear h hd hA h2 f2 hw2 hb hW h7
  go_enter Tryd.func38, Tryd.ntmps38
  go_wp2_with fail
  rw [HW2.out]
  refine HLG.out.mono ?_
  rintro e w3 ⟨rfl, hf⟩
  have HR := hid (H2.out.fr hf id)
  have HF := hid (HF2.out.then_ hf (fun _ _ h => h.elim))
  clear hf d0 d1 d2 d3 d4 d5 d6 d7 d8 z0 z1 z2 z3 z4 z5 z6 z7 z8
  cases b
  · go_wp2_with fail
    go_ret2
    exact ⟨rfl, HR.out, HF.out⟩
  · go_wp2_with fail
    go_ret2
    exact ⟨rfl, HR.out, HF.out⟩
set_option maxHeartbeats 1000000 in
theorem end_b (g : Nat) (W : Nat) (A : Nat) (lM lW lA left : Int) (op : Bool) (w : World) (hW : W = 0 ∨ W = 2 ∨ W = 4 ∨ W = 8) (hA : A < 2 ^ 64) (hd : Dbl w) (hg : ¬ g = 1) (h : RB w g 7 W A lM lW lA left op 0) :
    Calls Tryd.prog 38 #[.pointer (some ⟨g, 0, none⟩)] w (StepTo g w true (if longB 7 W A then 5 else 0) (fun w' => RB w' g 7 W A 7 W A left false 0)) := by
  obtain ⟨d0, d1, d2, d3, d4, d5, d6, d7, d8⟩ := h.cells
  obtain ⟨z0, z1, z2, z3, z4, z5, z6, z7, z8⟩ := h.froz
  have e1 : ((W : Int) == 1) = false := beq_eq_false_iff_ne.2 (by omega)
  have H := hid h
  have HD := hid hd
  have HA := hid hA
  obtain ⟨w2, hw2⟩ : ∃ w2, ((((w.setCell ⟨g, 7, none⟩ (.bool false)).setCell ⟨g, 3, none⟩ (.int .i64 7)).setCell ⟨g, 4, none⟩ (.int .i64 W)).setCell ⟨g, 5, none⟩ (.int .u64 A)) = w2 := ⟨_, rfl⟩
  have h2 : RB w2 g 7 W A 7 W A left false 0 := by rw [← hw2]; exact Blk.set_ (Blk.set_ (Blk.set_ (Blk.set_ h 7 (.bool false)) 3 (.int .i64 7)) 4 (.int .i64 W)) 5 (.int .u64 A)
  have f2 : Fr (fun i => i = g) w w2 := by rw [← hw2]; exact fr9 (fr9 (fr9 (fr9 (Fr.refl _ w) 7 _) 3 _) 4 _) 5 _
  have H2 := hid h2
  have HF2 := hid f2
  have HD2 := hid (hd.fr f2 (fun e => hg e.symm))
  have HW2 := hid hw2
  have HLG := hid (long_calls 7 W A (by omega) hA w2 HD2.out)
  obtain ⟨b, hb⟩ : ∃ b, longB 7 W A = b := ⟨_, rfl⟩
  rw [hb] at HLG ⊢
  clear h hd hA h2 f2 hw2 hb hW
  go_enter Tryd.func38, Tryd.ntmps38
  go_wp2_with fail
  rw [HW2.out]
  refine HLG.out.mono ?_
  rintro e w3 ⟨rfl, hf⟩
  have HR := hid (H2.out.fr hf id)
  have HF := hid (HF2.out.then_ hf (fun _ _ h => h.elim))
  clear hf d0 d1 d2 d3 d4 d5 d6 d7 d8 z0 z1 z2 z3 z4 z5 z6 z7 z8
  cases b
  · go_wp2_with fail
    go_ret2
    exact ⟨rfl, HR.out, HF.out⟩
  · go_wp2_with fail
    go_ret2
    exact ⟨rfl, HR.out, HF.out⟩
set_option maxHeartbeats 1000000 in
theorem end_c (g : Nat) (A : Nat) (lM lW lA left : Int) (op : Bool) (w : World) (hA32 : ¬ A < 32) (hA : A < 2 ^ 64) (hd : Dbl w) (hg : ¬ g = 1) (h : RB w g 7 1 A lM lW lA left op 0) :
    Calls Tryd.prog 38 #[.pointer (some ⟨g, 0, none⟩)] w (StepTo g w true (if longB 7 1 A then 5 else 0) (fun w' => RB w' g 7 1 A 7 1 A left false 0)) := by
  obtain ⟨d0, d1, d2, d3, d4, d5, d6, d7, d8⟩ := h.cells
  obtain ⟨z0, z1, z2, z3, z4, z5, z6, z7, z8⟩ := h.froz
  have e3 : decide ((A : Int) < 32) = false := decide_eq_false (by omega)
  have e4 : ¬ (A : Int) < 32 := by omega
  have H := hid h
  have HD := hid hd
  have HA := hid hA
  obtain ⟨w2, hw2⟩ : ∃ w2, ((((w.setCell ⟨g, 7, none⟩ (.bool false)).setCell ⟨g, 3, none⟩ (.int .i64 7)).setCell ⟨g, 4, none⟩ (.int .i64 1)).setCell ⟨g, 5, none⟩ (.int .u64 A)) = w2 := ⟨_, rfl⟩
  have h2 : RB w2 g 7 1 A 7 1 A left false 0 := by rw [← hw2]; exact Blk.set_ (Blk.set_ (Blk.set_ (Blk.set_ h 7 (.bool false)) 3 (.int .i64 7)) 4 (.int .i64 1)) 5 (.int .u64 A)
  have f2 : Fr (fun i => i = g) w w2 := by rw [← hw2]; exact fr9 (fr9 (fr9 (fr9 (Fr.refl _ w) 7 _) 3 _) 4 _) 5 _
  have H2 := hid h2
  have HF2 := hid f2
  have HD2 := hid (hd.fr f2 (fun e => hg e.symm))
  have HW2 := hid hw2
  have HLG := hid (long_calls 7 1 A (by omega) hA w2 HD2.out)
  obtain ⟨b, hb⟩ : ∃ b, longB 7 1 A = b := ⟨_, rfl⟩
  rw [hb] at HLG ⊢
  clear h hd hA h2 f2 hw2 hb hA32
  go_enter Tryd.func38, Tryd.ntmps38
  go_wp2_with fail
  rw [HW2.out]
  refine HLG.out.mono ?_
  rintro e w3 ⟨rfl, hf⟩
  have HR := hid (H2.out.fr hf id)
  have HF := hid (HF2.out.then_ hf (fun _ _ h => h.elim))
  clear hf d0 d1 d2 d3 d4 d5 d6 d7 d8 z0 z1 z2 z3 z4 z5 z6 z7 z8
  cases b
  · go_wp2_with fail
    go_ret2
    exact ⟨rfl, HR.out, HF.out⟩
  · go_wp2_with fail
    go_ret2
    exact ⟨rfl, HR.out, HF.out⟩
theorem end_good (g : Nat) (M W A : Nat) (lM lW lA left : Int) (op : Bool) (w : World) (hW : W = 0 ∨ W = 1 ∨ W = 2 ∨ W = 4 ∨ W = 8) (hA : A < 2 ^ 64) (hn : ¬ (M = 7 ∧ W = 1 ∧ A < 32)) (hd : Dbl w) (hg : ¬ g = 1) (h : RB w g M W A lM lW lA left op 0) :
    Calls Tryd.prog 38 #[.pointer (some ⟨g, 0, none⟩)] w (StepTo g w true (if longB M W A then 5 else 0) (fun w' => RB w' g M W A M W A left false 0)) := by
  by_cases h7 : M = 7
  · subst h7
    by_cases h1 : W = 1
    · subst h1
      exact end_c g A lM lW lA left op w (by omega) hA hd hg h
    · exact end_b g W A lM lW lA left op w (by omega) hA hd hg h
  · exact end_a g M W A lM lW lA left op w hW h7 hA hd hg h
end Go.Proofs.YtgdhchknegjpfaaDoor.HeadC
