/- Walks of layer utf: begin, Step, Done, Reset. -/
import Derived.Test.YtkmgiodhaaajjaaDoorProg
import Derived.Test.YtkmgiodhaaajjaaDoorUtfP
import Derived.Deep.QuietTactic
import Derived.BigQuiet
import Derived.RegionTactic
set_option linter.unusedVariables false
set_option linter.unusedSimpArgs false
namespace Go.Proofs.YtkmgiodhaaajjaaDoor.UtfA
open Go.RowKit Go.Proofs.YtkmgiodhaaajjaaDoor.Mem Go.Proofs.YtkmgiodhaaajjaaDoor.UtfP

set_option maxHeartbeats 1000000 in
theorem begin_calls (c : Int) (w : World) :
    Calls Tryd.prog 141 #[.int .u8 c] w fun e w' => e = .returned (.tuple #[.int .i64 (beginS c).1, .int .u8 (beginS c).2.1, .int .u8 (beginS c).2.2]) ∧ w = w' := by
  go_enter Tryd.func141, Tryd.ntmps141
  go_wp2
  all_goals
    go_ret3
    refine ⟨ret3_eq ?_, rfl⟩
    try simp only [beq_iff_eq, beq_eq_false_iff_ne, ne_eq] at *
    unfold beginS
    repeat (first | rw [if_pos (by omega)] | rw [if_neg (by omega)])

theorem step_nil (c : Int) (w : World) : Calls Tryd.prog 128 #[.pointer none, .int .u8 c] w fun e w' => e = .returned (.bool false) ∧ w = w' := by
  go_enter Tryd.func128, Tryd.ntmps128
  go_wp2
  go_ret
  exact ⟨rfl, rfl⟩

/-- What a step leaves. -/
def StepTo (w w' : World) (g : Nat) (s : St) : Prop := Blk w' g 174 s.cells ∧ Fr (· = g) w w'

set_option maxHeartbeats 1000000 in
theorem step_calls (g : Nat) (s : St) (c : Int) (w : World) (hs : s.Ok) (hg : Blk w g 174 s.cells) :
    Calls Tryd.prog 128 #[.pointer (some ⟨g, 0, none⟩), .int .u8 c] w fun e w' => e = .returned (.bool (!(stepS s c).bad)) ∧ StepTo w w' g (stepS s c) := by
  obtain ⟨left, lo, hi, bad⟩ := s
  have c0 := hg.cell 0
  have c1 := hg.cell 1
  have c2 := hg.cell 2
  have c3 := hg.cell 3
  have f0 := hg.frozen 0
  have f1 := hg.frozen 1
  have f2 := hg.frozen 2
  have f3 := hg.frozen 3
  simp [St.cells] at c0 c1 c2 c3
  have HG := hid hg
  clear hg
  obtain ⟨h1, h2, _⟩ := hs
  simp only at h1 h2
  cases bad
  · by_cases hl : left = 0
    · subst hl
      have hS : stepS ⟨0, lo, hi, false⟩ c = ⟨(beginS c).1, (beginS c).2.1, (beginS c).2.2, decide ((beginS c).1 < 0)⟩ := rfl
      rw [hS]
      clear hS
      obtain ⟨b1, b2⟩ := beginS_bd c
      go_enter Tryd.func128, Tryd.ntmps128
      go_wp2_with ((with_reducible refine (begin_calls _ _).mono ?_); rintro e w' ⟨rfl, rfl⟩)
      go_ret
      refine ⟨rfl, ?_, ((((Fr.refl _ w).set1 _ _).set1 _ _).set1 _ _).set1 _ _⟩
      have := (((HG.out.set_ 0 (.int .i64 (beginS c).1)).set_ 1 (.int .u8 (beginS c).2.1)).set_ 2 (.int .u8 (beginS c).2.2)).set_ 3 (.bool (decide ((beginS c).1 < 0)))
      simpa [St.cells] using this
    · have hl' : (left == 0) = false := beq_eq_false_iff_ne.2 hl
      by_cases hc : c < lo ∨ hi < c
      · have hS : stepS ⟨left, lo, hi, false⟩ c = ⟨left, lo, hi, true⟩ := by simp [stepS, hl, hc]
        rw [hS]
        clear hS
        have fin : StepTo w (w.setCell ⟨g, 3, none⟩ (.bool true)) g ⟨left, lo, hi, true⟩ := by
          refine ⟨?_, (Fr.refl _ w).set1 _ _⟩
          have := HG.out.set_ 3 (.bool true)
          simpa [St.cells] using this
        have FIN := hid fin
        clear fin
        by_cases hlo : c < lo
        · clear hc
          go_enter Tryd.func128, Tryd.ntmps128
          go_wp2
          go_ret
          exact ⟨rfl, FIN.out⟩
        · have hhi : hi < c := by omega
          clear hc
          go_enter Tryd.func128, Tryd.ntmps128
          go_wp2
          go_ret
          exact ⟨rfl, FIN.out⟩
      · have hS : stepS ⟨left, lo, hi, false⟩ c = ⟨left - 1, 128, 191, false⟩ := by simp [stepS, hl, hc]
        rw [hS]
        clear hS
        have hlo : ¬ c < lo := by omega
        have hhi : ¬ hi < c := by omega
        clear hc
        go_enter Tryd.func128, Tryd.ntmps128
        go_wp2
        go_ret
        refine ⟨rfl, ?_, (((Fr.refl _ w).set1 _ _).set1 _ _).set1 _ _⟩
        have := ((HG.out.set_ 0 (.int .i64 (left - 1))).set_ 1 (.int .u8 128)).set_ 2 (.int .u8 191)
        simpa [St.cells] using this
  · go_enter Tryd.func128, Tryd.ntmps128
    go_wp2
    go_ret
    exact ⟨rfl, HG.out, Fr.refl _ _⟩

theorem done_nil (w : World) : Calls Tryd.prog 129 #[.pointer none] w fun e w' => e = .returned (.bool false) ∧ w = w' := by
  go_enter Tryd.func129, Tryd.ntmps129
  go_wp2
  go_ret
  exact ⟨rfl, rfl⟩

theorem done_calls (g : Nat) (s : St) (w : World) (hg : Blk w g 174 s.cells) :
    Calls Tryd.prog 129 #[.pointer (some ⟨g, 0, none⟩)] w fun e w' => e = .returned (.bool (doneB s)) ∧ w = w' := by
  obtain ⟨left, lo, hi, bad⟩ := s
  have c0 := hg.cell 0
  have c3 := hg.cell 3
  simp [St.cells] at c0 c3
  clear hg
  go_enter Tryd.func129, Tryd.ntmps129
  cases bad
  all_goals
    go_wp2
    go_ret
    exact ⟨rfl, rfl⟩

end Go.Proofs.YtkmgiodhaaajjaaDoor.UtfA
