/- Layer item: the law ItemSame, over a row's list. -/
import Derived.Test.YtkmgiodhaaajjaaDoorItemZ
import Derived.Test.YtkmgiodhaaajjaaDoorDbl
set_option linter.unusedVariables false
set_option linter.unusedSimpArgs false
namespace Go.Proofs.YtkmgiodhaaajjaaDoor.ItemL
open Go.ChangeShapes Go.RowKit Go.Proofs.YtkmgiodhaaajjaaDoor.Mem Go.Proofs.YtkmgiodhaaajjaaDoor.ItemP Go.Proofs.YtkmgiodhaaajjaaDoor.ItemM
theorem same_law (x : It) (cs : List Value) (y : It) (ds : List Value) (W : World) (hx : x.size ≤ 1048576) (h1 : ItAt W 0 W.heap.size x cs) (hy : y.size ≤ 1048576) (h2 : ItAt W 0 W.heap.size y ds) (hL : laidMetH Tryd.prog Rows.itemSameUptoRow.laid W) :
    Calls Tryd.prog 4 #[.agg cs.toArray, .agg ds.toArray] W fun e W' => e = .returned (.bool true) ∧ Below W.heap.size W W' :=
  (ItemZ.law_calls x y hx hy cs ds W (Dbl.dbl hL) h1 h2).mono fun e w' h => ⟨h.1, h.2.toBelow (fun _ _ h => h)⟩
end Go.Proofs.YtkmgiodhaaajjaaDoor.ItemL
