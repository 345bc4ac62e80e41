/- Layer fault: the law FaultTells. -/
import Derived.Test.YtkmgiodhaaajjaaDoorFltG
import Derived.Test.YtkmgiodhaaajjaaDoorFltE
set_option linter.unusedVariables false
set_option linter.unusedSimpArgs false
namespace Go.Proofs.YtkmgiodhaaajjaaDoor.FltH
open Go.ChangeShapes Go.RowKit Go.Proofs.YtkmgiodhaaajjaaDoor.Mem Go.Proofs.YtkmgiodhaaajjaaDoor.Txt Go.Proofs.YtkmgiodhaaajjaaDoor.Itoa Go.Proofs.YtkmgiodhaaajjaaDoor.FltC Go.Proofs.YtkmgiodhaaajjaaDoor.FltF
theorem i64_of {x : Int} (h : (Lit.int .i64 x).wf = true) : I64 x := by
  simp [Lit.wf, IntKind.min, IntKind.max, IntKind.bits, IntKind.signed] at h
  exact ⟨by omega, by omega⟩
theorem tells_law (e at_ : Int) (A : Option Addr) (c : Nat) (l : List ByteArray) (o : Int) (W : World) (he : (Lit.int .i64 e).wf = true) (ha : (Lit.int .i64 at_).wf = true)
    (hc : l.length ≤ c) (hlw : l.length * 16 ≤ 140737488351232) (hr : RdS W A l) (hb : ∀ s ∈ l, s.size ≤ maxLen) (ho : (Lit.int .i64 o).wf = true) (hL : laidMetH Tryd.prog Rows.faultTellsRow.laid W) :
    Calls Tryd.prog 12 #[.agg #[.int .i64 e, .int .i64 at_], .slice A l.length c, .int .i64 o] W fun e W' => e = .returned (.bool true) ∧ Below W.heap.size W W' := by
  have h' : laidMet Tryd.prog (Rows.faultTellsRow.laid.filter fun x => x.2.handleName?.isNone) W ∧ handlesMet Tryd.prog [("errors.errorType", Rows.laid_errors_errorType)] W := hL
  have hg := FltE.errT h'.2
  have h1 : laidMet Tryd.prog [("internal/strconv.uint64pow10", Lib.tabData .u64 Lib.pow10Tab)] W := laidMet.filter (fun x => x.1 == "internal/strconv.uint64pow10") h'.1
  have hT : Tab W := Lib.tabIs_of_head gP gPt Tryd.underlying211 Tryd.underlying22 (by kernel_rfl) (by kernel_rfl) h1
  by_cases h0 : e = 0
  · subst h0
    exact (FltG.tells_ok at_ o A l.length c l W (i64_of ha) (i64_of ho) hg hT rfl hc hr).mono fun e w' h => ⟨h.1, h.2.toBelow (fun _ _ h => h)⟩
  · exact (FltG.tells_num e at_ o A l.length c l W (i64_of ha) (i64_of ho) hg hT rfl hc hr (i64_of he) h0).mono fun e w' h => ⟨h.1, h.2.toBelow (fun _ _ h => h)⟩
end Go.Proofs.YtkmgiodhaaajjaaDoor.FltH
