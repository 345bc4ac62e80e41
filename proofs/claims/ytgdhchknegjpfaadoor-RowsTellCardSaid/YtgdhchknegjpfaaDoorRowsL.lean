/- Layer rows: the laws, out of the rows' lists. -/
import Derived.Test.YtgdhchknegjpfaaDoorRowsH
import Derived.Test.YtgdhchknegjpfaaDoorCards
import Derived.Test.YtgdhchknegjpfaaDoorTie
import Derived.WalkKit
import Derived.ProofKit
import Derived.OpenShut
import Derived.Below
import Derived.Deep.DeepHandedRow
import Derived.Lib.LaidTab
import Derived.LaidSub
set_option linter.unusedVariables false
set_option linter.unusedSimpArgs false
namespace Go.Proofs.YtgdhchknegjpfaaDoor.RowsL
open Go.ChangeShapes Go.RowKit Go.Proofs.YtgdhchknegjpfaaDoor.Mem Go.Proofs.YtgdhchknegjpfaaDoor.Txt Go.Proofs.YtgdhchknegjpfaaDoor.Itoa Go.Proofs.YtgdhchknegjpfaaDoor.RowsA

theorem cells_of_texts {H : Type} {enc : TypeId × Value → H} {P : Program} {w : World} {base : Nat} {sp : Nat → Bool} {held : Bool} {fuel : Nat} {t e : TypeId} {n : Nat} {cs : List Value} {ls : List (List UInt8)} {p : List MemPlace}
    (ht : P.underlying t = some (.array n e)) (he : P.underlying e = some .string) (hce : P.cellsOf e = 1) (hct : P.cellsOf t = n)
    (h : DataW.trod enc P w base sp held fuel t cs = some (.agg (ls.map fun l => (DataW.lit (.string l) : DataW H)), p)) : cs = ls.map fun l => Value.string (txt l) := by
  cases fuel with
  | zero => simp [DataW.trod] at h
  | succ fuel =>
    simp only [DataW.trod, ht, hce, hct, Nat.mul_one] at h
    split at h
    · rename_i hl
      obtain ⟨xs, hm, hx⟩ := Option.map_eq_some_iff.1 h
      have hxs : xs.map (·.1) = ls.map fun l => (DataW.lit (.string l) : DataW H) := by
        have := congrArg Prod.fst hx
        simpa using this
      have hxl : xs.length = n := by simpa using Lib.mapM_length hm
      have hzl : ls.length = n := by
        have := congrArg List.length hxs
        simp at this
        omega
      apply List.ext_getElem?
      intro i
      by_cases hi : i < n
      · obtain ⟨b, hb, hf⟩ := Lib.mapM_at hm i i (by simp [hi])
        obtain ⟨s, hc, rfl, _⟩ := DataW.trod_string he hf
        have h1 : cs[i]? = some (.string s) := by
          have := congrArg (·[0]?) hc
          simpa [List.getElem?_take, List.getElem?_drop] using this
        have h2 : (xs.map (·.1))[i]? = some (DataW.lit (.string s.data.toList) : DataW H) := by simp [hb]
        rw [hxs] at h2
        simp only [List.getElem?_map, Option.map_eq_some_iff, DataW.lit.injEq, Lit.string.injEq] at h2
        obtain ⟨l, hl', rfl⟩ := h2
        simp [h1, hl', txt_of]
      · rw [List.getElem?_eq_none (by omega), List.getElem?_eq_none (by simp; omega)]
    · cases h
theorem gN : Tryd.prog.globalNamed "ullage/rows.names" = some 0 := by kernel_rfl
theorem gNt : (Tryd.prog.globals[0]?).map (·.type) = some 90 := by kernel_rfl
theorem names_of {W : World} (h : laidMet Tryd.prog [("ullage/rows.names", .agg (names.map fun l => (DataW.lit (.string l) : DataW Unit)))] W) : NamesAt W := by
  obtain ⟨ps, ⟨g', t', cs, fuel, p, q, hg', ht', hvar, hd, _, _⟩, _⟩ := h
  obtain rfl := Option.some.inj (gN.symm.trans hg')
  obtain rfl := Option.some.inj (gNt.symm.trans ht')
  have hc := cells_of_texts Tryd.underlying90 Tryd.underlying9 (by kernel_rfl) (by kernel_rfl) hd
  intro i hi
  rw [World.var?_cell gN hvar i]
  have : i < names.length := hi
  have e : cs[i]? = cs.toList[i]? := by simp
  rw [e, hc]
  simp [List.getD_eq_getElem?_getD, List.getElem?_eq_getElem this]
theorem tabs_tell {W : World} (h : laidMetH Tryd.prog Rows.rowsTellRow.laid W) : Tab W ∧ NamesAt W := by
  have h0 : laidMet Tryd.prog Rows.rowsTellRow.laid W := h
  have h1 : laidMet Tryd.prog [("internal/strconv.uint64pow10", Lib.tabData .u64 Lib.pow10Tab)] W := laidMet.filter (fun x => x.1 == "internal/strconv.uint64pow10") h0
  have h2 : laidMet Tryd.prog [("ullage/rows.names", .agg (names.map fun l => (DataW.lit (.string l) : DataW Unit)))] W := laidMet.filter (fun x => x.1 == "ullage/rows.names") h0
  exact ⟨Lib.tabIs_of_head gP gPt Tryd.underlying119 Tryd.underlying27 (by kernel_rfl) (by kernel_rfl) h1, names_of h2⟩
theorem tabs_names {W : World} (h : laidMetH Tryd.prog Rows.rowsNamesRow.laid W) : Tab W ∧ NamesAt W := by
  have h0 : laidMet Tryd.prog Rows.rowsNamesRow.laid W := h
  have h1 : laidMet Tryd.prog [("internal/strconv.uint64pow10", Lib.tabData .u64 Lib.pow10Tab)] W := laidMet.filter (fun x => x.1 == "internal/strconv.uint64pow10") h0
  have h2 : laidMet Tryd.prog [("ullage/rows.names", .agg (names.map fun l => (DataW.lit (.string l) : DataW Unit)))] W := laidMet.filter (fun x => x.1 == "ullage/rows.names") h0
  exact ⟨Lib.tabIs_of_head gP gPt Tryd.underlying119 Tryd.underlying27 (by kernel_rfl) (by kernel_rfl) h1, names_of h2⟩
theorem i64_of {x : Int} (h : (Lit.int .i64 x).wf = true) : -9223372036854775808 ≤ x ∧ x ≤ 9223372036854775807 := by
  simp [Lit.wf, IntKind.min, IntKind.max, IntKind.bits, IntKind.signed] at h
  omega
theorem names_law (s : ByteArray) (a b : Int) (W : World) (hs : s.size ≤ 140737488351232) (ha : (Lit.int .i64 a).wf = true) (hb : (Lit.int .i64 b).wf = true) (hL : laidMetH Tryd.prog Rows.rowsNamesRow.laid W) :
    Calls Tryd.prog 9 #[.string s, .int .i64 a, .int .i64 b] W fun e W' => e = .returned (.bool true) ∧ Below W.heap.size W W' := by
  have ⟨t1, t2⟩ := tabs_names hL
  have ⟨a0, a1⟩ := i64_of ha
  have ⟨b0, b1⟩ := i64_of hb
  refine (RowsG.names_calls s a b W t1 t2 a0 a1 b0 b1 hs).mono ?_
  rintro e w' ⟨he, hf⟩
  exact ⟨he, hf.toBelow (fun _ _ h => h)⟩
theorem tell_law (e at_ : Int) (size : Int) (Aa : Option Addr) (ca : Nat) (a : List Int) (Ab : Option Addr) (cb : Nat) (b : List Int) (Aw : Option Addr) (cw : Nat) (way : List Int) (x : Int) (W : World)
    (he : (Lit.int .i64 e).wf = true) (hat : (Lit.int .i64 at_).wf = true) (hsz : (Lit.int .u64 size).wf = true)
    (hca : a.length ≤ ca) (hla : a.length * 1 ≤ 140737488351232) (hra : RdI .u8 W Aa a) (hba : ∀ n ∈ a, (Lit.int .u8 n).wf = true)
    (hcb : b.length ≤ cb) (hlb : b.length * 1 ≤ 140737488351232) (hrb : RdI .u8 W Ab b) (hbb : ∀ n ∈ b, (Lit.int .u8 n).wf = true)
    (hcw : way.length ≤ cw) (hlw : way.length * 8 ≤ 140737488351232) (hrw : RdI .i64 W Aw way) (hbw : ∀ n ∈ way, (Lit.int .i64 n).wf = true)
    (hx : (Lit.int .i64 x).wf = true) (hL : laidMetH Tryd.prog Rows.rowsTellRow.laid W) :
    Calls Tryd.prog 8 #[.agg #[.int .i64 e, .int .i64 at_, .int .u64 size, .slice Aa a.length ca, .slice Ab b.length cb], .slice Aw way.length cw, .int .i64 x] W fun e W' => e = .returned (.bool true) ∧ Below W.heap.size W W' := by
  have ⟨t1, t2⟩ := tabs_tell hL
  have ⟨e0, e1⟩ := i64_of he
  have ⟨a0, a1⟩ := i64_of hat
  have ⟨x0, x1⟩ := i64_of hx
  have by8 : ∀ {l : List Int}, (∀ n ∈ l, (Lit.int .u8 n).wf = true) → BitsA.Bytes l := fun h n hn => by
    have := h n hn
    simp [Lit.wf, IntKind.min, IntKind.max, IntKind.bits, IntKind.signed] at this
    omega
  obtain ⟨n, rfl, hn⟩ : ∃ n : Nat, size = n ∧ n < 18446744073709551616 := by
    simp [Lit.wf, IntKind.min, IntKind.max, IntKind.bits, IntKind.signed] at hsz
    exact ⟨size.toNat, by omega, by omega⟩
  refine (RowsH.tell_calls e at_ x Aw Aa Ab _ cw _ ca _ cb n way a b W t1 t2 e0 e1 a0 a1 x0 x1 hn rfl hrw (fun n hn => i64_of (hbw n hn)) (by unfold maxLen; omega) rfl hra (by8 hba) (by unfold maxLen; omega) rfl hrb (by8 hbb) (by unfold maxLen; omega)).mono ?_
  rintro e w' ⟨he, hf⟩
  exact ⟨he, hf.toBelow (fun _ _ h => h)⟩
end Go.Proofs.YtgdhchknegjpfaaDoor.RowsL
