/- Walks of layer head: a reader's steps. -/
import Derived.Test.YtgdhchknegjpfaaDoorHeadA
set_option linter.unusedVariables false
set_option linter.unusedSimpArgs false
namespace Go.Proofs.YtgdhchknegjpfaaDoor.HeadB
open Go.IntWalk Go.RowKit Go.Proofs.YtgdhchknegjpfaaDoor.Mem Go.Proofs.YtgdhchknegjpfaaDoor.Num Go.Proofs.YtgdhchknegjpfaaDoor.BitsA Go.Proofs.YtgdhchknegjpfaaDoor.BitsB Go.Proofs.YtgdhchknegjpfaaDoor.App Go.Proofs.YtgdhchknegjpfaaDoor.FloatP Go.Proofs.YtgdhchknegjpfaaDoor.FloatB Go.Proofs.YtgdhchknegjpfaaDoor.FloatG Go.Proofs.YtgdhchknegjpfaaDoor.FloatI Go.Proofs.YtgdhchknegjpfaaDoor.HeadP Go.Proofs.YtgdhchknegjpfaaDoor.HeadA

theorem long_zero (M A : Int) (w : World) : Calls Tryd.prog 56 #[hd M 0 A] w fun e w' => e = .returned (.bool false) ∧ Fr (fun _ => False) w w' := by
  go_enter Tryd.func56, Tryd.ntmps56
  go_wp2_with fail
  go_ret
  exact ⟨rfl, (Fr.refl _ _).alloc _⟩
theorem long_7_1 (A : Int) (w : World) : Calls Tryd.prog 56 #[hd 7 1 A] w fun e w' => e = .returned (.bool false) ∧ Fr (fun _ => False) w w' := by
  go_enter Tryd.func56, Tryd.ntmps56
  go_wp2_with fail
  go_ret
  exact ⟨rfl, (Fr.refl _ _).alloc _⟩
theorem long_7 (W : Int) (hW : W = 2 ∨ W = 4 ∨ W = 8) (A : Nat) (hA : A < 2 ^ 64) (w : World) (hd : Dbl w) : Calls Tryd.prog 56 #[HeadA.hd 7 W A] w fun e w' => e = .returned (.bool (!shortR A W)) ∧ Fr (fun _ => False) w w' := by
  have HD := hid (hd.fr0 ((Fr.refl _ w).alloc (.cells #[.int .i64 7, .int .i64 W, .int .u64 A] 29)))
  have HA := hid hA
  clear hd hA
  obtain ⟨b, hb⟩ : ∃ b, shortR A W = b := ⟨_, rfl⟩
  rw [hb]
  have HBB := hid hb
  clear hb
  have e0 : (W == 0) = false := beq_eq_false_iff_ne.2 (by omega)
  have e1 : decide (W > 1) = true := decide_eq_true (by omega)
  have e2 : decide (1 < W) = true := decide_eq_true (by omega)
  clear hW
  go_enter Tryd.func56, Tryd.ntmps56
  go_wp2_with fail
  refine (short_calls _ A W HA.out HD.out).mono ?_
  rintro e w1 ⟨rfl, hf⟩
  have HF := hid (((Fr.refl (fun _ => False) w).alloc (.cells #[.int .i64 7, .int .i64 W, .int .u64 A] 29)).then_ hf (fun _ _ h => h))
  clear hf
  rw [HBB.out]
  go_wp2_with fail
  all_goals
    go_ret
    exact ⟨rfl, HF.out⟩
theorem long_1 (M : Int) (hM : M ≠ 7) (A : Nat) (w : World) : Calls Tryd.prog 56 #[hd M 1 A] w fun e w' => e = .returned (.bool (decide (A < 24))) ∧ Fr (fun _ => False) w w' := by
  have e7 : (M == 7) = false := beq_eq_false_iff_ne.2 hM
  clear hM
  obtain ⟨b, hb⟩ : ∃ b, decide (A < 24) = b := ⟨_, rfl⟩
  have hb2 : decide ((A : Int) < 24) = b := by rw [← hb]; exact decide_eq_decide.2 (by omega)
  rw [hb]
  clear hb
  go_enter Tryd.func56, Tryd.ntmps56
  go_wp2_with fail
  all_goals
    go_ret
    exact ⟨rfl, (Fr.refl _ _).alloc _⟩
theorem long_other (M : Int) (hM : M ≠ 7) (W : Nat) (hW : W = 2 ∨ W = 4 ∨ W = 8) (A : Nat) (hA : A < 2 ^ 64) (w : World) : Calls Tryd.prog 56 #[hd M W A] w fun e w' => e = .returned (.bool (decide (A / 2 ^ (4 * W) = 0))) ∧ Fr (fun _ => False) w w' := by
  have e7 : (M == 7) = false := beq_eq_false_iff_ne.2 hM
  clear hM
  rcases hW with rfl | rfl | rfl
  · obtain ⟨q, hq⟩ : ∃ q, A / 2 ^ (4 * 2) = q := ⟨_, rfl⟩
    rw [hq]
    obtain ⟨b, hb⟩ : ∃ b, decide (q = 0) = b := ⟨_, rfl⟩
    have hb2 : ((q : Int) == 0) = b := by rw [← hb, Bool.eq_iff_iff, beq_iff_eq, decide_eq_true_eq]; omega
    rw [hb]
    have hs : (A : Int) / 256 = (q : Int) := by omega
    clear hq hb
    go_enter Tryd.func56, Tryd.ntmps56
    go_wp2_with fail
    all_goals
      go_ret
      exact ⟨rfl, (Fr.refl _ _).alloc _⟩
  · obtain ⟨q, hq⟩ : ∃ q, A / 2 ^ (4 * 4) = q := ⟨_, rfl⟩
    rw [hq]
    obtain ⟨b, hb⟩ : ∃ b, decide (q = 0) = b := ⟨_, rfl⟩
    have hb2 : ((q : Int) == 0) = b := by rw [← hb, Bool.eq_iff_iff, beq_iff_eq, decide_eq_true_eq]; omega
    rw [hb]
    have hs : (A : Int) / 65536 = (q : Int) := by omega
    clear hq hb
    go_enter Tryd.func56, Tryd.ntmps56
    go_wp2_with fail
    all_goals
      go_ret
      exact ⟨rfl, (Fr.refl _ _).alloc _⟩
  · obtain ⟨q, hq⟩ : ∃ q, A / 2 ^ (4 * 8) = q := ⟨_, rfl⟩
    rw [hq]
    obtain ⟨b, hb⟩ : ∃ b, decide (q = 0) = b := ⟨_, rfl⟩
    have hb2 : ((q : Int) == 0) = b := by rw [← hb, Bool.eq_iff_iff, beq_iff_eq, decide_eq_true_eq]; omega
    rw [hb]
    have hs : (A : Int) / 4294967296 = (q : Int) := by omega
    clear hq hb
    go_enter Tryd.func56, Tryd.ntmps56
    go_wp2_with fail
    all_goals
      go_ret
      exact ⟨rfl, (Fr.refl _ _).alloc _⟩
theorem long_calls (M W A : Nat) (hW : W = 0 ∨ W = 1 ∨ W = 2 ∨ W = 4 ∨ W = 8) (hA : A < 2 ^ 64) (w : World) (hd : Dbl w) : Calls Tryd.prog 56 #[HeadA.hd M W A] w fun e w' => e = .returned (.bool (longB M W A)) ∧ Fr (fun _ => False) w w' := by
  unfold longB
  by_cases h0 : W = 0
  · subst h0
    rw [if_pos rfl]
    exact long_zero M A w
  · rw [if_neg h0]
    by_cases h7 : M = 7
    · subst h7
      rw [if_pos rfl]
      by_cases h1 : W = 1
      · subst h1
        exact long_7_1 A w
      · rw [decide_eq_true (by omega), Bool.true_and]
        exact long_7 W (by omega) A hA w hd
    · rw [if_neg h7]
      by_cases h1 : W = 1
      · subst h1
        rw [if_pos rfl]
        exact long_1 M (by omega) A w
      · rw [if_neg h1]
        exact long_other M (by omega) W (by omega) A hA w

/-- A reader's cells. -/
def rcells (nM nW nA lM lW lA left : Int) (op : Bool) (bad : Int) : Array Value := #[.int .i64 nM, .int .i64 nW, .int .u64 nA, .int .i64 lM, .int .i64 lW, .int .u64 lA, .int .i64 left, .bool op, .int .i64 bad]
def RB (w : World) (g : Nat) (nM nW nA lM lW lA left : Int) (op : Bool) (bad : Int) : Prop := Blk w g 63 (rcells nM nW nA lM lW lA left op bad)
section
variable {w : World} {g : Nat} {nM nW nA lM lW lA left : Int} {op : Bool} {bad : Int}
theorem RB.cells (h : RB w g nM nW nA lM lW lA left op bad) :
    w.cell? ⟨g, 0, none⟩ = some (.int .i64 nM) ∧ w.cell? ⟨g, 1, none⟩ = some (.int .i64 nW) ∧ w.cell? ⟨g, 2, none⟩ = some (.int .u64 nA) ∧ w.cell? ⟨g, 3, none⟩ = some (.int .i64 lM) ∧ w.cell? ⟨g, 4, none⟩ = some (.int .i64 lW) ∧ w.cell? ⟨g, 5, none⟩ = some (.int .u64 lA) ∧ w.cell? ⟨g, 6, none⟩ = some (.int .i64 left) ∧ w.cell? ⟨g, 7, none⟩ = some (.bool op) ∧ w.cell? ⟨g, 8, none⟩ = some (.int .i64 bad) :=
  ⟨Blk.cell h 0, Blk.cell h 1, Blk.cell h 2, Blk.cell h 3, Blk.cell h 4, Blk.cell h 5, Blk.cell h 6, Blk.cell h 7, Blk.cell h 8⟩
theorem RB.froz (h : RB w g nM nW nA lM lW lA left op bad) :
    w.frozen? ⟨g, 0, none⟩ = false ∧ w.frozen? ⟨g, 1, none⟩ = false ∧ w.frozen? ⟨g, 2, none⟩ = false ∧ w.frozen? ⟨g, 3, none⟩ = false ∧ w.frozen? ⟨g, 4, none⟩ = false ∧ w.frozen? ⟨g, 5, none⟩ = false ∧ w.frozen? ⟨g, 6, none⟩ = false ∧ w.frozen? ⟨g, 7, none⟩ = false ∧ w.frozen? ⟨g, 8, none⟩ = false :=
  ⟨Blk.frozen h 0, Blk.frozen h 1, Blk.frozen h 2, Blk.frozen h 3, Blk.frozen h 4, Blk.frozen h 5, Blk.frozen h 6, Blk.frozen h 7, Blk.frozen h 8⟩
theorem RB.fr {w' : World} {S : Nat → Prop} (h : RB w g nM nW nA lM lW lA left op bad) (hf : Fr S w w') (hg : ¬ S g) : RB w' g nM nW nA lM lW lA left op bad := Blk.fr h hf hg
theorem RB.set (h : RB w g nM nW nA lM lW lA left op bad) (i : Nat) (v : Value) : Blk (w.setCell ⟨g, i, none⟩ v) g 63 ((rcells nM nW nA lM lW lA left op bad).setIfInBounds i v) := Blk.set_ h i v
end
theorem step_nil (c : Int) (w : World) : Calls Tryd.prog 12 #[.pointer none, .int .u8 c] w fun e w' => e = .returned (.tuple #[.bool false, .int .i64 10]) ∧ w = w' := by
  go_enter Tryd.func12, Tryd.ntmps12
  go_wp2_with fail
  go_ret2
  exact ⟨rfl, rfl⟩
theorem reset_nil (w : World) : Calls Tryd.prog 11 #[.pointer none] w fun e w' => e = .returned (.tuple #[]) ∧ w = w' := by
  go_enter Tryd.func11, Tryd.ntmps11
  go_wp2_with fail
  go_end0
  exact ⟨rfl, rfl⟩
theorem open_nil (w : World) : Calls Tryd.prog 14 #[.pointer none] w fun e w' => e = .returned (.bool false) ∧ w = w' := by
  go_enter Tryd.func14, Tryd.ntmps14
  go_wp2_with fail
  go_ret
  exact ⟨rfl, rfl⟩
theorem results_cell {fn : Func} {p : Tmp} {ty : TypeId} (h : fn.results = #[.cell p ty]) (tmps : Array Value) (P : Program) (w : World) :
    (results fn tmps).run P w = ((asAddr (tmps.getD p undef)).run P w).andThen fun a w₁ => (loadVar ty a).run P w₁ := by
  simp only [results, h]
  simp [Sem.run_bind, Result.andThen]
theorem load_one (w : World) (a b c : Int) : Sem.run Tryd.prog (loadCells { block := w.heap.size, off := 0 } 3) (w.alloc (.cells #[.int .i64 a, .int .i64 b, .int .u64 c] 29)) = .ok #[.int .i64 a, .int .i64 b, .int .u64 c] (w.alloc (.cells #[.int .i64 a, .int .i64 b, .int .u64 c] 29)) :=
  run_loadCells_list _ _ [.int .i64 a, .int .i64 b, .int .u64 c] (fun j v h => by
    have hb := Blk.cell (Blk.new w 29 #[.int .i64 a, .int .i64 b, .int .u64 c]) j
    rw [add_plain]
    simp only [Nat.zero_add]
    rw [hb]
    simpa using h)
theorem head_nil (w : World) : Calls Tryd.prog 13 #[.pointer none] w fun e w' => e = .returned (hd 0 0 0) ∧ Fr (fun _ => False) w w' := by
  go_enter Tryd.func13, Tryd.ntmps13
  go_wp2_with fail
  refine bodyPost_ret (v := hd 0 0 0) ?_ rfl ?_
  · rw [results_cell rfl]
    simp [Result.andThen, asAddr, loadVar, load_one w 0 0 0]
  · exact ⟨rfl, (Fr.refl _ _).alloc _⟩
theorem head_calls (g : Nat) (nM nW nA lM lW lA left : Int) (op : Bool) (bad : Int) (w : World) (h : RB w g nM nW nA lM lW lA left op bad) : Calls Tryd.prog 13 #[.pointer (some ⟨g, 0, none⟩)] w fun e w' => e = .returned (hd lM lW lA) ∧ Fr (fun _ => False) w w' := by
  obtain ⟨d0, d1, d2, d3, d4, d5, d6, d7, d8⟩ := h.cells
  have hlt := Blk.lt h
  clear h d0 d1 d2 d6 d7 d8
  go_enter Tryd.func13, Tryd.ntmps13
  go_wp2_with fail
  refine bodyPost_ret (v := hd lM lW lA) ?_ rfl ?_
  · rw [results_cell rfl]
    simp [Result.andThen, asAddr, loadVar, load_one w lM lW lA]
  · exact ⟨rfl, (Fr.refl _ _).alloc _⟩
end Go.Proofs.YtgdhchknegjpfaaDoor.HeadB
