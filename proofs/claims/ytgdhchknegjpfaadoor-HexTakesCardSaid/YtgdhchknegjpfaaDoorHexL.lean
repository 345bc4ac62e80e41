/- Layer hex: the laws, out of the rows' lists. -/
import Derived.Test.YtgdhchknegjpfaaDoorHexG
import Derived.Test.YtgdhchknegjpfaaDoorCards
import Derived.Test.YtgdhchknegjpfaaDoorTie
import Derived.WalkKit
import Derived.ProofKit
import Derived.OpenShut
import Derived.Below
import Derived.Deep.DeepHandedRow
import Derived.Lib.LaidTab
import Derived.LaidSub
set_option linter.unusedVariables false
set_option linter.unusedSimpArgs false
namespace Go.Proofs.YtgdhchknegjpfaaDoor.HexL
open Go.ChangeShapes Go.RowKit Go.Proofs.YtgdhchknegjpfaaDoor.Mem Go.Proofs.YtgdhchknegjpfaaDoor.Itoa
theorem tab_puts {W : World} (h : laidMetH Tryd.prog Rows.hexPutsRow.laid W) : Tab W := by
  have h0 : laidMet Tryd.prog Rows.hexPutsRow.laid W := h
  have h1 : laidMet Tryd.prog [("internal/strconv.uint64pow10", Lib.tabData .u64 Lib.pow10Tab)] W := laidMet.filter (fun x => x.1 == "internal/strconv.uint64pow10") h0
  exact Lib.tabIs_of_head gP gPt Tryd.underlying119 Tryd.underlying27 (by kernel_rfl) (by kernel_rfl) h1
theorem tab_takes {W : World} (h : laidMetH Tryd.prog Rows.hexTakesRow.laid W) : Tab W := by
  have h0 : laidMet Tryd.prog Rows.hexTakesRow.laid W := h
  have h1 : laidMet Tryd.prog [("internal/strconv.uint64pow10", Lib.tabData .u64 Lib.pow10Tab)] W := laidMet.filter (fun x => x.1 == "internal/strconv.uint64pow10") h0
  exact Lib.tabIs_of_head gP gPt Tryd.underlying119 Tryd.underlying27 (by kernel_rfl) (by kernel_rfl) h1
theorem puts_law (A : Option Addr) (c : Nat) (xs : List Int) (m : Int) (W : World) (hc : xs.length ≤ c) (hl : xs.length * 1 ≤ 140737488351232) (hr : RdI .u8 W A xs) (hb : ∀ n ∈ xs, (Lit.int .u8 n).wf = true) (hm : (Lit.int .i64 m).wf = true) (hL : laidMetH Tryd.prog Rows.hexPutsRow.laid W) :
    Calls Tryd.prog 6 #[.slice A xs.length c, .int .i64 m] W fun e W' => e = .returned (.bool true) ∧ Below W.heap.size W W' := by
  refine (HexG.puts_calls A _ c m xs W (tab_puts hL) rfl hc (by unfold maxLen; omega) hr (fun n hn => ?_)).mono ?_
  · have := hb n hn
    simp [Lit.wf, IntKind.min, IntKind.max, IntKind.bits, IntKind.signed] at this
    omega
  · rintro e w' ⟨he, hf⟩
    exact ⟨he, hf.toBelow (fun _ _ h => h)⟩
theorem takes_law (s : ByteArray) (W : World) (hs : s.size ≤ 140737488351232) (hL : laidMetH Tryd.prog Rows.hexTakesRow.laid W) :
    Calls Tryd.prog 7 #[.string s] W fun e W' => e = .returned (.bool true) ∧ Below W.heap.size W W' := by
  refine (HexG.takes_calls s W (tab_takes hL) (by unfold maxLen; omega)).mono ?_
  rintro e w' ⟨he, hf⟩
  exact ⟨he, hf.toBelow (fun _ _ h => h)⟩
end Go.Proofs.YtgdhchknegjpfaaDoor.HexL
