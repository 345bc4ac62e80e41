/- Layer sha: the row of ShaSums: its walk, out of the row's list. -/
import Derived.Test.YtcbogkpgkdijaaaDoorShaL
import Derived.Test.YtcbogkpgkdijaaaDoorShaS
set_option linter.unusedVariables false
namespace Go.Proofs.YtcbogkpgkdijaaaDoor.ShaSL
open Go.RowKit Go.Proofs.YtcbogkpgkdijaaaDoor.Mem
theorem sums_law (A : Option Addr) (c : Nat) (xs : List Int) (W : World) (hc : xs.length ≤ c) (hl : xs.length * 1 ≤ 140737488351232) (hr : RdI .u8 W A xs) (hb : ∀ n ∈ xs, (Lit.int .u8 n).wf = true) (hL : laidMetH Tryd.prog Rows.shaSumsRow.laid W) :
    Calls Tryd.prog 5 #[.slice A xs.length c] W fun e W' => e = .returned (.bool true) ∧ Below W.heap.size W W' := by
  refine (ShaS.sums_calls A _ c xs W (ShaL.tabs hL) rfl hr (fun n hn => ?_) hc (by omega)).mono ?_
  · have := hb n hn
    simp [Lit.wf, IntKind.min, IntKind.max, IntKind.bits, IntKind.signed] at this
    omega
  · rintro e w' ⟨he, hf⟩
    exact ⟨he, hf.toBelow (fun _ _ h => h)⟩
end Go.Proofs.YtcbogkpgkdijaaaDoor.ShaSL
