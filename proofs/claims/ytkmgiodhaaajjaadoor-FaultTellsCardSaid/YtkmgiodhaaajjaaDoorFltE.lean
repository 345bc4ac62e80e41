/- Layer fault: the variable errorType, out of a row's list; the law FaultOthers. -/
import Derived.Test.YtkmgiodhaaajjaaDoorFltD
import Derived.Test.YtkmgiodhaaajjaaDoorCards
import Derived.Test.YtkmgiodhaaajjaaDoorTie
import Derived.WalkKit
import Derived.ProofKit
import Derived.OpenShut
import Derived.Below
import Derived.LaidHandle
import Derived.Deep.DeepHandedRow
import Derived.Lib.LaidTab
set_option linter.unusedVariables false
set_option linter.unusedSimpArgs false
namespace Go.Proofs.YtkmgiodhaaajjaaDoor.FltE
open Go.ChangeShapes Go.RowKit Go.Proofs.YtkmgiodhaaajjaaDoor.Mem Go.Proofs.YtkmgiodhaaajjaaDoor.FltC
theorem et : Tryd.prog.globalNamed "errors.errorType" = some 0 := by kernel_rfl
theorem rt_ : (Tryd.prog.cutTypes.find? (·.1 == "internal/reflectlite.rtype")).map (·.2) = some 182 := by kernel_rfl
theorem oneRow : ((List.range 244).filter fun t => Tryd.prog.rowNamed t [101, 114, 114, 111, 114]) = [84] := by kernel_rfl
theorem tsize : Tryd.prog.types.size = 244 := by kernel_rfl
theorem errT {W : World} (h : handlesMet Tryd.prog [("errors.errorType", Rows.laid_errors_errorType)] W) : ErrT W := by
  obtain ⟨name, u, ty, e1, e2, e3, e4, e5⟩ := h _ (List.mem_singleton.2 rfl)
  have en : name = [101, 114, 114, 111, 114] := (Option.some.inj e1).symm
  subst en
  obtain rfl := Option.some.inj (rt_.symm.trans e2)
  have hm : ty ∈ (List.range 244).filter fun t => Tryd.prog.rowNamed t [101, 114, 114, 111, 114] := List.mem_filter.2 ⟨List.mem_range.2 (by rw [← tsize]; exact e3), e4⟩
  rw [oneRow] at hm
  obtain rfl := List.mem_singleton.1 hm
  have hh : typeHandle Tryd.prog 84 = .pointer (some ⟨5, 84, none⟩) := by kernel_rfl
  rw [hh] at e5
  have hc := World.var?_cell et e5 0
  simp at hc
  exact ⟨hc, World.block_lt_of_cell? W ⟨0, 0, none⟩ hc⟩
theorem others_law (a : Int) (W : World) (ha : (Lit.int .i64 a).wf = true) (hL : laidMetH Tryd.prog Rows.faultOthersRow.laid W) :
    Calls Tryd.prog 11 #[.int .i64 a] W fun e W' => e = .returned (.bool true) ∧ Below W.heap.size W W' := by
  have h' : laidMet Tryd.prog _ W ∧ handlesMet Tryd.prog [("errors.errorType", Rows.laid_errors_errorType)] W := hL
  have hg := errT h'.2
  by_cases h0 : a = 0
  · subst h0
    exact (FltD.others_ok W hg).mono fun e w' h => ⟨h.1, h.2.toBelow (fun _ _ h => h)⟩
  · exact (FltD.others_num a W hg h0).mono fun e w' h => ⟨h.1, h.2.toBelow (fun _ _ h => h)⟩
end Go.Proofs.YtkmgiodhaaajjaaDoor.FltE
