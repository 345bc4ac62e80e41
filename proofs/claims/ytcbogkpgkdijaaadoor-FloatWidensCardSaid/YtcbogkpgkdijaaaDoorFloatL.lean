/- Layer float: the variable double, out of the row's list. -/
import Derived.Test.YtcbogkpgkdijaaaDoorFloatJ
import Derived.Test.YtcbogkpgkdijaaaDoorCards
import Derived.Test.YtcbogkpgkdijaaaDoorTie
import Derived.WalkKit
import Derived.ProofKit
import Derived.OpenShut
import Derived.Below
import Derived.Deep.DeepHandedRow
import Derived.Lib.LaidTab
set_option linter.unusedVariables false
set_option linter.unusedSimpArgs false
namespace Go.Proofs.YtcbogkpgkdijaaaDoor.FloatL
open Go.ChangeShapes Go.RowKit Go.Proofs.YtcbogkpgkdijaaaDoor.Mem Go.Proofs.YtcbogkpgkdijaaaDoor.FloatB
theorem gDbl : Tryd.prog.globalNamed "ullage/float.double" = some 0 := by kernel_rfl
theorem gDblType : (Tryd.prog.globals[0]?).map (·.type) = some 58 := by kernel_rfl
theorem cellsF : Tryd.prog.cellsOf 58 = 2 := by kernel_rfl
theorem cellsI : Tryd.prog.cellsOf 3 = 1 := by kernel_rfl
theorem dbl {W : World} (h : laidMetH Tryd.prog (("ullage/float.double", Rows.laid_ullage_float_double) :: []) W) : Dbl W := by
  obtain ⟨ps, ⟨g', t', cs, fuel, p, q, hg', ht', hvar, hd, _, rfl⟩, _, hcells⟩ := (show laidMet _ _ W from h)
  obtain rfl := Option.some.inj (gDbl.symm.trans hg')
  obtain rfl := Option.some.inj (gDblType.symm.trans ht')
  have hv := World.var?_cell gDbl hvar
  obtain ⟨y0, y1, n, hx, hl, h0, h1⟩ := trod_struct2 Tryd.underlying58 hd
  obtain ⟨a, ha, rfl, _⟩ := DataW.trod_int Tryd.underlying3 h0
  obtain ⟨b, hb, rfl, _⟩ := DataW.trod_int Tryd.underlying3 h1
  rw [cellsF] at hl
  rw [cellsI] at ha hb
  have hx1 := congrArg Prod.fst hx
  unfold Rows.laid_ullage_float_double at hx1
  injection hx1 with hx1
  injection hx1 with e0 hx1
  injection hx1 with e1 _
  injection e0 with e0
  injection e1 with e1
  injection e0 with _ e0
  injection e1 with _ e1
  subst e0 e1
  obtain ⟨l⟩ := cs
  simp only at ha hb hl
  obtain ⟨c0, c1, rfl⟩ : ∃ c0 c1, l = [c0, c1] := by
    match l, hl with
    | [c0, c1], _ => exact ⟨c0, c1, rfl⟩
  simp at ha hb
  subst ha hb
  refine ⟨(hv 0).trans (by simp), (hv 1).trans (by simp), ?_⟩
  have := hv 0
  rcases Nat.eq_zero_or_pos W.heap.size with hz | hz
  · exfalso
    simp [World.cell?, Array.getElem?_eq_none (show W.heap.size ≤ 0 by omega)] at this
  · exact hz
theorem nat_of (x : Int) (h : (Lit.int .u64 x).wf = true) : ∃ n : Nat, x = n ∧ n < 2 ^ 64 := by
  simp [Lit.wf, IntKind.min, IntKind.max, IntKind.bits, IntKind.signed] at h
  exact ⟨x.toNat, by omega, by omega⟩
theorem shortest_law (x : Int) (W : World) (h : (Lit.int .u64 x).wf = true) (hL : laidMetH Tryd.prog Rows.floatShortestRow.laid W) :
    Calls Tryd.prog 3 #[.int .u64 x] W fun e W' => e = .returned (.bool true) ∧ Below W.heap.size W W' := by
  obtain ⟨n, rfl, hn⟩ := nat_of x h
  refine (FloatJ.law_shortest_calls W n hn (dbl hL)).mono ?_
  rintro e w' ⟨he, hf⟩
  exact ⟨he, hf.toBelow (fun _ _ h => h)⟩
theorem widens_law (x y : Int) (W : World) (h : (Lit.int .u64 x).wf = true) (h' : (Lit.int .i64 y).wf = true) (hL : laidMetH Tryd.prog Rows.floatWidensRow.laid W) :
    Calls Tryd.prog 4 #[.int .u64 x, .int .i64 y] W fun e W' => e = .returned (.bool true) ∧ Below W.heap.size W W' := by
  obtain ⟨n, rfl, hn⟩ := nat_of x h
  refine (FloatJ.widens_calls W n y hn (dbl hL)).mono ?_
  rintro e w' ⟨he, hf⟩
  exact ⟨he, hf.toBelow (fun _ _ h => h)⟩
end Go.Proofs.YtcbogkpgkdijaaaDoor.FloatL
