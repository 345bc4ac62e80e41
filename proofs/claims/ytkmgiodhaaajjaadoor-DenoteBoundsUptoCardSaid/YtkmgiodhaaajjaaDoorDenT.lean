/- Layer denote: the law DenoteBounds, over a row's list. -/
import Derived.Test.YtkmgiodhaaajjaaDoorDenV
set_option linter.unusedVariables false
set_option linter.unusedSimpArgs false
namespace Go.Proofs.YtkmgiodhaaajjaaDoor.DenT
open Go.ChangeShapes Go.RowKit Go.Proofs.YtkmgiodhaaajjaaDoor.Mem Go.Proofs.YtkmgiodhaaajjaaDoor.ItemP Go.Proofs.YtkmgiodhaaajjaaDoor.ItemM
theorem rng_8 {k : Int} (h : (Lit.int .u8 k).wf = true) : 0 ≤ k ∧ k ≤ 255 := by
  simp [Lit.wf, IntKind.min, IntKind.max, IntKind.bits, IntKind.signed] at h
  omega
theorem bd_law (x : It) (cs : List Value) (kk lo hi mo : Int) (W : World) (hx : x.size ≤ 1048576) (h1 : ItAt W 0 W.heap.size x cs) (hk : (Lit.int .u8 kk).wf = true) (hlo : (Lit.int .u8 lo).wf = true) (hhi : (Lit.int .u8 hi).wf = true) (hmo : (Lit.int .u8 mo).wf = true) (hL : laidMetH Tryd.prog Rows.denoteBoundsUptoRow.laid W) :
    Calls Tryd.prog 8 #[.agg cs.toArray, .int .u8 kk, .int .u8 lo, .int .u8 hi, .int .u8 mo] W fun e W' => e = .returned (.bool true) ∧ Below W.heap.size W W' := by
  have h8 := rng_8 hk
  have h9 := rng_8 hlo
  have h10 := rng_8 hhi
  have h11 := rng_8 hmo
  obtain ⟨a, rfl⟩ : ∃ a : Nat, kk = (a : Int) := ⟨kk.toNat, by omega⟩
  obtain ⟨b, rfl⟩ : ∃ a : Nat, lo = (a : Int) := ⟨lo.toNat, by omega⟩
  obtain ⟨c, rfl⟩ : ∃ a : Nat, hi = (a : Int) := ⟨hi.toNat, by omega⟩
  obtain ⟨d, rfl⟩ : ∃ a : Nat, mo = (a : Int) := ⟨mo.toNat, by omega⟩
  exact (DenV.law_calls x (by omega) cs a b c d (by omega) (by omega) (by omega) (by omega) W (Dbl.dbl hL) h1).mono fun e w' h => ⟨h.1, h.2.toBelow (fun _ _ h => h)⟩
end Go.Proofs.YtkmgiodhaaajjaaDoor.DenT
