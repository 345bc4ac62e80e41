/- Layer float: the variable double, out of a row's list. -/
import Derived.Test.YtkmgiodhaaajjaaDoorFloatB
import Derived.Test.YtkmgiodhaaajjaaDoorCards
import Derived.Test.YtkmgiodhaaajjaaDoorTie
import Derived.WalkKit
import Derived.ProofKit
import Derived.OpenShut
import Derived.Below
import Derived.Deep.DeepHandedRow
import Derived.Lib.LaidTab
set_option linter.unusedVariables false
set_option linter.unusedSimpArgs false
namespace Go.Proofs.YtkmgiodhaaajjaaDoor.Dbl
open Go.ChangeShapes Go.RowKit Go.Proofs.YtkmgiodhaaajjaaDoor.Mem Go.Proofs.YtkmgiodhaaajjaaDoor.FloatB
theorem gDbl : Tryd.prog.globalNamed "ullage/float.double" = some 2 := by kernel_rfl
theorem gDblType : (Tryd.prog.globals[2]?).map (·.type) = some 170 := by kernel_rfl
theorem cellsF : Tryd.prog.cellsOf 170 = 2 := by kernel_rfl
theorem cellsI : Tryd.prog.cellsOf 3 = 1 := by kernel_rfl
theorem dbl {W : World} (h : laidMetH Tryd.prog (("ullage/float.double", Rows.laid_ullage_float_double) :: []) W) : Dbl W := by
  obtain ⟨ps, ⟨g', t', cs, fuel, p, q, hg', ht', hvar, hd, _, rfl⟩, _, hcells⟩ := (show laidMet _ _ W from h)
  obtain rfl := Option.some.inj (gDbl.symm.trans hg')
  obtain rfl := Option.some.inj (gDblType.symm.trans ht')
  have hv := World.var?_cell gDbl hvar
  obtain ⟨y0, y1, n, hx, hl, h0, h1⟩ := trod_struct2 Tryd.underlying170 hd
  obtain ⟨a, ha, rfl, _⟩ := DataW.trod_int Tryd.underlying3 h0
  obtain ⟨b, hb, rfl, _⟩ := DataW.trod_int Tryd.underlying3 h1
  rw [cellsF] at hl
  rw [cellsI] at ha hb
  have hx1 := congrArg Prod.fst hx
  unfold Rows.laid_ullage_float_double at hx1
  injection hx1 with hx1
  injection hx1 with e0 hx1
  injection hx1 with e1 _
  injection e0 with e0
  injection e1 with e1
  injection e0 with _ e0
  injection e1 with _ e1
  subst e0 e1
  obtain ⟨l⟩ := cs
  simp only at ha hb hl
  obtain ⟨c0, c1, rfl⟩ : ∃ c0 c1, l = [c0, c1] := by
    rcases l with _ | ⟨c0, _ | ⟨c1, _ | ⟨c2, l⟩⟩⟩
    · exact absurd hl (by simp)
    · exact absurd hl (by simp)
    · exact ⟨c0, c1, rfl⟩
    · exact absurd hl (by simp)
  simp at ha hb
  subst ha hb
  refine ⟨(hv 0).trans (by simp), (hv 1).trans (by simp), ?_⟩
  exact World.block_lt_of_cell? W ⟨2, 0, none⟩ ((hv 0).trans (by simp) : _ = some (.int .i64 11))
end Go.Proofs.YtkmgiodhaaajjaaDoor.Dbl
