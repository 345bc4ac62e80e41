/- Words for a row: a verdict that came in. -/
import Derived.Test.YtkmgiodhaaajjaaDoorProg
import Derived.Test.YtkmgiodhaaajjaaDoorRowWords
import Derived.WideShapes
import Derived.Lib.SmallJoins
set_option linter.unusedVariables false
set_option linter.unusedSimpArgs false
namespace Go.Proofs.YtkmgiodhaaajjaaDoor.RowVer
open Go.Joins Go.ChangeShapes Go.WideShapes Go.RowKit Go.Proofs.YtkmgiodhaaajjaaDoor.Mem Go.Proofs.YtkmgiodhaaajjaaDoor.RowWords
set_option maxRecDepth 20000 in
theorem verdict_in {H : Type} {enc : TypeId × Value → H} {W : World} {base b0 : Nat} {spare : Nat → Bool} {held : Bool} {r : Reach} {v : Value} {d : DataW H} {ps : List MemPlace} {ts : List TypeId} {ds : List (DataW H)} {j : Nat}
    (hsz : (DataW.weightsEach Tryd.prog ts ds).all (· ≤ reachBytes) = true) (ht : ts[j]? = some 79) (hd : ds[j]? = some d) (hv : Value.okWide Tryd.prog W r b0 79 v)
    (h : DataW.Trod enc Tryd.prog W base spare held 79 v d ps) :
    ∃ (e at_ : Int), v = .agg #[.int .i64 e, .int .i64 at_] ∧ (Lit.int .i64 e).wf = true ∧ (Lit.int .i64 at_).wf = true := by
  obtain ⟨v0, v1, y0, y1, n, rfl, _, _, h0, h1⟩ := open_agg2 Tryd.underlying79 (by kernel_rfl) (by kernel_rfl) hv h
  have q0 : DataW.trod enc Tryd.prog W base spare held n 35 [v0] = some y0 := h0
  have q1 : DataW.trod enc Tryd.prog W base spare held n 3 [v1] = some y1 := h1
  obtain ⟨x, hx, _, wx⟩ := DataW.trod_int Tryd.underlying35 q0
  obtain ⟨y, hy, _, wy⟩ := DataW.trod_int Tryd.underlying3 q1
  simp at hx hy
  subst hx hy
  exact ⟨x, y, rfl, wx, wy⟩
end Go.Proofs.YtkmgiodhaaajjaaDoor.RowVer
