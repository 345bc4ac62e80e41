/- Words for a row: limits that came in. -/
import Derived.Test.YtkmgiodhaaajjaaDoorRowSch
set_option linter.unusedVariables false
set_option linter.unusedSimpArgs false
namespace Go.Proofs.YtkmgiodhaaajjaaDoor.RowLim
open Go.Deep Go.Joins Go.ChangeShapes Go.WideShapes Go.RowKit Go.Proofs.YtkmgiodhaaajjaaDoor.Mem Go.Proofs.YtkmgiodhaaajjaaDoor.RowWords
set_option maxRecDepth 100000 in
theorem limits_in {H : Type} {enc : TypeId × Value → H} {W : World} {base b0 : Nat} {spare : Nat → Bool} {held : Bool} {r : Reach} {v : Value} {d : DataW H} {ps : List MemPlace}
    (hb : Rows.uptoBulk d ≤ 1048576) (hv : Value.okWide Tryd.prog W r b0 59 v) (h : DataW.Trod enc Tryd.prog W base spare held 59 v d ps) :
    ∃ (x y z : Int), v = .agg #[.int .i64 x, .int .i64 y, .int .i64 z] ∧ True := by
  obtain ⟨v0, v1, v2, y0, y1, y2, n, rfl, _, _, h0, h1, h2⟩ := open_agg3 Tryd.underlying59 (by kernel_rfl) (by kernel_rfl) hv h
  have q0 : DataW.trod enc Tryd.prog W base spare held n 3 [v0] = some y0 := h0
  have q1 : DataW.trod enc Tryd.prog W base spare held n 3 [v1] = some y1 := h1
  have q2 : DataW.trod enc Tryd.prog W base spare held n 3 [v2] = some y2 := h2
  obtain ⟨x, hx, _, _⟩ := DataW.trod_int Tryd.underlying3 q0
  obtain ⟨y, hy, _, _⟩ := DataW.trod_int Tryd.underlying3 q1
  obtain ⟨z, hz, _, _⟩ := DataW.trod_int Tryd.underlying3 q2
  simp at hx hy hz
  subst hx hy hz
  exact ⟨x, y, z, rfl, trivial⟩
end Go.Proofs.YtkmgiodhaaajjaaDoor.RowLim
