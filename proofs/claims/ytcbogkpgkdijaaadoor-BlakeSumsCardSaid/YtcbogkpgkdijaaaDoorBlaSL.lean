/- Layer blake: the row of BlakeSums: its walk, out of the row's list. -/
import Derived.Test.YtcbogkpgkdijaaaDoorBlaL
import Derived.Test.YtcbogkpgkdijaaaDoorBlaS
set_option linter.unusedVariables false
namespace Go.Proofs.YtcbogkpgkdijaaaDoor.BlaSL
open Go.RowKit Go.Proofs.YtcbogkpgkdijaaaDoor.Mem
theorem sums_law (A : Option Addr) (c : Nat) (xs : List Int) (W : World) (hc : xs.length ≤ c) (hl : xs.length * 1 ≤ 140737488351232) (hr : RdI .u8 W A xs) (hb : ∀ n ∈ xs, (Lit.int .u8 n).wf = true) (hL : laidMetH Tryd.prog Rows.blakeSumsRow.laid W) :
    Calls Tryd.prog 7 #[.slice A xs.length c] W fun e W' => e = .returned (.bool true) ∧ Below W.heap.size W W' := by
  refine (BlaS.sums_calls A _ c xs W (BlaL.tabs hL) rfl hr (fun n hn => ?_) hc (by omega)).mono ?_
  · have := hb n hn
    simp [Lit.wf, IntKind.min, IntKind.max, IntKind.bits, IntKind.signed] at this
    omega
  · rintro e w' ⟨he, hf⟩
    exact ⟨he, hf.toBelow (fun _ _ h => h)⟩
end Go.Proofs.YtcbogkpgkdijaaaDoor.BlaSL
