/- Layer blake: both tables, out of the row's list. -/
import Derived.Test.YtcbogkpgkdijaaaDoorBlaG
import Derived.Test.YtcbogkpgkdijaaaDoorCards
import Derived.Test.YtcbogkpgkdijaaaDoorTie
import Derived.WalkKit
import Derived.ProofKit
import Derived.OpenShut
import Derived.Below
import Derived.Deep.DeepHandedRow
import Derived.Lib.LaidTab
import Derived.LaidSub
set_option linter.unusedVariables false
set_option linter.unusedSimpArgs false
namespace Go.Proofs.YtcbogkpgkdijaaaDoor.BlaL
open Go.ChangeShapes Go.RowKit Go.Proofs.YtcbogkpgkdijaaaDoor.Mem Go.Proofs.YtcbogkpgkdijaaaDoor.BlaP Go.Proofs.YtcbogkpgkdijaaaDoor.BlaB Go.Proofs.YtcbogkpgkdijaaaDoor.BlaC
theorem gV : Tryd.prog.globalNamed "ullage/blake.iv" = some 3 := by kernel_rfl
theorem gVt : (Tryd.prog.globals[3]?).map (·.type) = some 49 := by kernel_rfl
theorem gT : Tryd.prog.globalNamed "ullage/blake.table" = some 4 := by kernel_rfl
theorem gTt : (Tryd.prog.globals[4]?).map (·.type) = some 88 := by kernel_rfl
/-- A table of tables: each row's cells. -/
theorem rows_of_tab {H : Type} {enc : TypeId × Value → H} {P : Program} {w : World} {base : Nat} {sp : Nat → Bool} {held : Bool} {fuel : Nat} {t e e2 : TypeId} {n m : Nat} {k : IntKind} {cs : List Value} {zss : List (List Int)} {p : List MemPlace}
    (ht : P.underlying t = some (.array n e2)) (he2 : P.underlying e2 = some (.array m e)) (he : P.underlying e = some (.int k)) (hce : P.cellsOf e = 1) (hce2 : P.cellsOf e2 = m)
    (h : DataW.trod enc P w base sp held fuel t cs = some (.agg (zss.map (Lib.tabData k)), p)) (i : Nat) (hi : i < zss.length) : (cs.drop (i * m)).take m = (zss.getD i []).map fun z => Value.int k z := by
  cases fuel with
  | zero => simp [DataW.trod] at h
  | succ fuel =>
    simp only [DataW.trod, ht, hce2] at h
    split at h
    · rename_i hl
      obtain ⟨xs, hm, hx⟩ := Option.map_eq_some_iff.1 h
      have hxs : xs.map (·.1) = zss.map (Lib.tabData (H := H) k) := by
        have := congrArg Prod.fst hx
        simpa using this
      have hxl : xs.length = n := by simpa using Lib.mapM_length hm
      have hzl : zss.length = n := by
        have := congrArg List.length hxs
        simp at this
        omega
      obtain ⟨b, hb, hf⟩ := Lib.mapM_at hm i i (by rw [List.getElem?_range (by omega)])
      have h2 : (xs.map (·.1))[i]? = some (Lib.tabData k (zss.getD i [])) := by
        rw [hxs]
        simp [List.getD_eq_getElem?_getD, List.getElem?_eq_getElem hi]
      have hb1 : b.1 = Lib.tabData k (zss.getD i []) := by
        simpa [hb] using h2
      obtain ⟨b1, b2⟩ := b
      simp only at hb1
      subst hb1
      exact Lib.cells_of_tab he2 he hce hce2 hf
    · cases h
def tableI : List (List Int) := table.map fun r => r.map fun (n : Nat) => (n : Int)
theorem tabs {W : World} (h : laidMetH Tryd.prog [("ullage/blake.iv", Rows.laid_ullage_blake_iv), ("ullage/blake.table", Rows.laid_ullage_blake_table)] W) : Tabs W := by
  have h0 : laidMet Tryd.prog [("ullage/blake.iv", Rows.laid_ullage_blake_iv), ("ullage/blake.table", Rows.laid_ullage_blake_table)] W := h
  have h1 : laidMet Tryd.prog [("ullage/blake.iv", Lib.tabData .u64 iv)] W := laidMet.filter (fun x => x.1 == "ullage/blake.iv") h0
  have h2 : laidMet Tryd.prog [("ullage/blake.table", .agg (tableI.map (Lib.tabData .i64)))] W := laidMet.filter (fun x => x.1 == "ullage/blake.table") h0
  have t1 := Lib.tabIs_of_head gV gVt Tryd.underlying49 Tryd.underlying22 (by kernel_rfl) (by kernel_rfl) h1
  obtain ⟨ps, ⟨g', t', cs, fuel, p, q, hg', ht', hvar, hd, _, rfl⟩, _, hcells⟩ := h2
  obtain rfl := Option.some.inj (gT.symm.trans hg')
  obtain rfl := Option.some.inj (gTt.symm.trans ht')
  have hv := World.var?_cell gT hvar
  have hrow := rows_of_tab Tryd.underlying88 Tryd.underlying87 Tryd.underlying3 (by kernel_rfl) (by kernel_rfl) hd
  refine ⟨fun i hi => ⟨_, rfl, (show 3 < W.heap.size from lt_of_cell (t1.cell gV 0 (by decide))), by rw [add_plain, Nat.zero_add]; exact t1.cell gV i hi⟩, fun j hj => ?_⟩
  rw [flat_length] at hj
  have hc : W.cell? ⟨4, j, none⟩ = some (.int .i64 (flat.getD j 0)) := by
    obtain ⟨a, r, rfl, hr, ha⟩ : ∃ a r, j = 16 * a + r ∧ r < 16 ∧ a < 10 := ⟨j / 16, j % 16, by omega, by omega, by omega⟩
    have h3 := congrArg (·[r]?) (hrow a (by rw [show tableI.length = 10 from rfl]; exact ha))
    simp only [List.getElem?_take, hr, if_true, List.getElem?_drop, List.getElem?_map] at h3
    rw [hv, flat_row a r ha hr]
    have e : (tableI.getD a []) = rowOf a := by
      unfold tableI rowOf
      rw [List.getD_eq_getElem?_getD, List.getD_eq_getElem?_getD, List.getElem?_map, List.getElem?_eq_getElem (show a < table.length from ha)]
      rfl
    rw [e, List.getElem?_eq_getElem (show r < (rowOf a).length by rw [rowOf_length a ha]; exact hr)] at h3
    rw [show 16 * a + r = a * 16 + r by omega]
    simpa [List.getD_eq_getElem?_getD, List.getElem?_eq_getElem (show r < (rowOf a).length by rw [rowOf_length a ha]; exact hr)] using h3
  exact ⟨_, rfl, (show 4 < W.heap.size from lt_of_cell hc), by rw [add_plain, Nat.zero_add]; exact hc⟩
theorem chunks_law (A : Option Addr) (c : Nat) (pss : List (List Int)) (W : World) (hc : pss.length ≤ c) (hm : c ≤ maxLen) (hr : RowRows.RdRows .u8 W A pss) (hb : ∀ zs ∈ pss, ∀ n ∈ zs, (Lit.int .u8 n).wf = true) (hL : laidMetH Tryd.prog Rows.blakeChunksRow.laid W) :
    Calls Tryd.prog 8 #[.slice A pss.length c] W fun e W' => e = .returned (.bool true) ∧ Below W.heap.size W W' := by
  refine (BlaG.chunks_calls A _ c pss W (tabs hL) rfl hc hm hr (fun zs hz n hn => ?_)).mono ?_
  · have := hb zs hz n hn
    simp [Lit.wf, IntKind.min, IntKind.max, IntKind.bits, IntKind.signed] at this
    omega
  · rintro e w' ⟨he, hf⟩
    exact ⟨he, hf.toBelow (fun _ _ h => h)⟩
end Go.Proofs.YtcbogkpgkdijaaaDoor.BlaL
