/- Layer sha: both tables, out of the row's list. -/
import Derived.Test.YtcbogkpgkdijaaaDoorShaG
import Derived.Test.YtcbogkpgkdijaaaDoorCards
import Derived.Test.YtcbogkpgkdijaaaDoorTie
import Derived.WalkKit
import Derived.ProofKit
import Derived.OpenShut
import Derived.Below
import Derived.Deep.DeepHandedRow
import Derived.Lib.LaidTab
import Derived.LaidSub
set_option linter.unusedVariables false
set_option linter.unusedSimpArgs false
namespace Go.Proofs.YtcbogkpgkdijaaaDoor.ShaL
open Go.ChangeShapes Go.RowKit Go.Proofs.YtcbogkpgkdijaaaDoor.Mem Go.Proofs.YtcbogkpgkdijaaaDoor.ShaP Go.Proofs.YtcbogkpgkdijaaaDoor.ShaA Go.Proofs.YtcbogkpgkdijaaaDoor.ShaC
theorem gF : Tryd.prog.globalNamed "ullage/sha.first" = some 1 := by kernel_rfl
theorem gFt : (Tryd.prog.globals[1]?).map (·.type) = some 39 := by kernel_rfl
theorem gK : Tryd.prog.globalNamed "ullage/sha.k" = some 2 := by kernel_rfl
theorem gKt : (Tryd.prog.globals[2]?).map (·.type) = some 79 := by kernel_rfl
theorem tabs {W : World} (h : laidMetH Tryd.prog [("ullage/sha.first", Rows.laid_ullage_sha_first), ("ullage/sha.k", Rows.laid_ullage_sha_k)] W) : Tabs W := by
  have h0 : laidMet Tryd.prog [("ullage/sha.first", Rows.laid_ullage_sha_first), ("ullage/sha.k", Rows.laid_ullage_sha_k)] W := h
  have h1 : laidMet Tryd.prog [("ullage/sha.first", Lib.tabData .u32 first8)] W := laidMet.filter (fun x => x.1 == "ullage/sha.first") h0
  have h2 : laidMet Tryd.prog [("ullage/sha.k", Lib.tabData .u32 K)] W := laidMet.filter (fun x => x.1 == "ullage/sha.k") h0
  have t1 := Lib.tabIs_of_head gF gFt Tryd.underlying39 Tryd.underlying38 (by kernel_rfl) (by kernel_rfl) h1
  have t2 := Lib.tabIs_of_head gK gKt Tryd.underlying79 Tryd.underlying38 (by kernel_rfl) (by kernel_rfl) h2
  refine ⟨fun t ht => t2.cell gK t (by rw [show K.length = 64 from rfl]; exact ht), ?_, ?_, ?_, ?_, ?_, ?_, ?_, ?_⟩
  · exact t1.cell gF 0 (by decide)
  · exact t1.cell gF 1 (by decide)
  · exact t1.cell gF 2 (by decide)
  · exact t1.cell gF 3 (by decide)
  · exact t1.cell gF 4 (by decide)
  · exact t1.cell gF 5 (by decide)
  · exact t1.cell gF 6 (by decide)
  · exact t1.cell gF 7 (by decide)
theorem chunks_law (A : Option Addr) (c : Nat) (pss : List (List Int)) (W : World) (hc : pss.length ≤ c) (hm : c ≤ maxLen) (hr : RowRows.RdRows .u8 W A pss) (hb : ∀ zs ∈ pss, ∀ n ∈ zs, (Lit.int .u8 n).wf = true) (hL : laidMetH Tryd.prog Rows.shaChunksRow.laid W) :
    Calls Tryd.prog 6 #[.slice A pss.length c] W fun e W' => e = .returned (.bool true) ∧ Below W.heap.size W W' := by
  refine (ShaG.chunks_calls A _ c pss W (tabs hL) rfl hc hm hr (fun zs hz n hn => ?_)).mono ?_
  · have := hb zs hz n hn
    simp [Lit.wf, IntKind.min, IntKind.max, IntKind.bits, IntKind.signed] at this
    omega
  · rintro e w' ⟨he, hf⟩
    exact ⟨he, hf.toBelow (fun _ _ h => h)⟩
end Go.Proofs.YtcbogkpgkdijaaaDoor.ShaL
