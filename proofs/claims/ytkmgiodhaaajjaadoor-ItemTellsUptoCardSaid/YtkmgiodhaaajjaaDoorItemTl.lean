/- Layer item: the law ItemTells, over a row's list. -/
import Derived.Test.YtkmgiodhaaajjaaDoorItemTe
import Derived.Test.YtkmgiodhaaajjaaDoorRowItem
import Derived.Test.YtkmgiodhaaajjaaDoorDbl
set_option linter.unusedVariables false
set_option linter.unusedSimpArgs false
namespace Go.Proofs.YtkmgiodhaaajjaaDoor.ItemTl
open Go.ChangeShapes Go.RowKit Go.Proofs.YtkmgiodhaaajjaaDoor.Mem Go.Proofs.YtkmgiodhaaajjaaDoor.ItemP Go.Proofs.YtkmgiodhaaajjaaDoor.ItemM
theorem rng_8 {k : Int} (h : (Lit.int .u8 k).wf = true) : 0 ≤ k ∧ k ≤ 255 := by
  simp [Lit.wf, IntKind.min, IntKind.max, IntKind.bits, IntKind.signed] at h
  omega
theorem tells_law (x : It) (cs : List Value) (a : Int) (W : World) (hx : x.size ≤ 1048576) (h1 : ItAt W 0 W.heap.size x cs) (ha : (Lit.int .u8 a).wf = true) (hL : laidMetH Tryd.prog Rows.itemTellsUptoRow.laid W) :
    Calls Tryd.prog 3 #[.agg cs.toArray, .int .u8 a] W fun e W' => e = .returned (.bool true) ∧ Below W.heap.size W W' := by
  have h8 := rng_8 ha
  obtain ⟨b, rfl⟩ : ∃ b : Nat, a = (b : Int) := ⟨a.toNat, by omega⟩
  exact (ItemTe.law_calls x hx cs b (by omega) W (Dbl.dbl hL) h1).mono fun e w' h => ⟨h.1, h.2.toBelow (fun _ _ h => h)⟩
end Go.Proofs.YtkmgiodhaaajjaaDoor.ItemTl
