/- Words for a row: a stream's result that came in. -/
import Derived.Test.YtgdhchknegjpfaaDoorProg
import Derived.Test.YtgdhchknegjpfaaDoorRowWords
import Derived.WideShapes
import Derived.Lib.SmallJoins
set_option linter.unusedVariables false
set_option linter.unusedSimpArgs false
namespace Go.Proofs.YtgdhchknegjpfaaDoor.RowRes
open Go.Joins Go.ChangeShapes Go.WideShapes Go.RowKit Go.Proofs.YtgdhchknegjpfaaDoor.Mem Go.Proofs.YtgdhchknegjpfaaDoor.RowWords

theorem array5 {α : Type} {cs : Array α} (h : cs.size = 5) : ∃ c0 c1 c2 c3 c4, cs = #[c0, c1, c2, c3, c4] := by
  obtain ⟨l⟩ := cs
  match l, h with
  | [c0, c1, c2, c3, c4], _ => exact ⟨c0, c1, c2, c3, c4, rfl⟩
theorem cells5 : Tryd.prog.cellsOf 51 = 5 := by kernel_rfl
theorem cells2 : Tryd.prog.cellsOf 49 = 2 := by kernel_rfl
theorem cellsI : Tryd.prog.cellsOf 3 = 1 := by kernel_rfl
theorem cellsE : Tryd.prog.cellsOf 24 = 1 := by kernel_rfl
theorem cellsU : Tryd.prog.cellsOf 27 = 1 := by kernel_rfl
theorem cellsS : Tryd.prog.cellsOf 32 = 1 := by kernel_rfl
/-- The weights of a struct's fields are among its own. -/
theorem inner {H : Type} {P : Program} {ts : List TypeId} {ds : List (DataW H)} {j : Nat} {t : TypeId} {parts : List (DataW H)} {fs : Array Field} (hsz : (DataW.weightsEach P ts ds).all (· ≤ reachBytes) = true) (ht : ts[j]? = some t) (hd : ds[j]? = some (.agg parts)) (hu : P.underlying t = some (.struct fs)) :
    (DataW.weightsEach P (fs.toList.map (·.type)) parts).all (· ≤ reachBytes) = true := by
  rw [List.all_eq_true] at hsz ⊢
  intro n hn
  refine hsz n (DataW.weights_mem_each ht hd n ?_)
  rw [DataW.weights, hu]
  exact hn
set_option maxRecDepth 20000 in
theorem res_in {H : Type} {enc : TypeId × Value → H} {W : World} {base b0 : Nat} {spare : Nat → Bool} {held : Bool} {r : Reach} {v : Value} {d : DataW H} {ps : List MemPlace} {ts : List TypeId} {ds : List (DataW H)} {j : Nat}
    (hsz : (DataW.weightsEach Tryd.prog ts ds).all (· ≤ reachBytes) = true) (ht : ts[j]? = some 51) (hd : ds[j]? = some d) (hv : Value.okWide Tryd.prog W r b0 51 v)
    (h : DataW.Trod enc Tryd.prog W base spare held 51 v d ps) :
    ∃ (e at_ size : Int) (Aa : Option Addr) (ca : Nat) (a : List Int) (Ab : Option Addr) (cb : Nat) (b : List Int), v = .agg #[.int .i64 e, .int .i64 at_, .int .u64 size, .slice Aa a.length ca, .slice Ab b.length cb] ∧
      (Lit.int .i64 e).wf = true ∧ (Lit.int .i64 at_).wf = true ∧ (Lit.int .u64 size).wf = true ∧
      a.length ≤ ca ∧ a.length * 1 ≤ 140737488351232 ∧ RdI .u8 W Aa a ∧ (∀ n ∈ a, (Lit.int .u8 n).wf = true) ∧
      b.length ≤ cb ∧ b.length * 1 ≤ 140737488351232 ∧ RdI .u8 W Ab b ∧ (∀ n ∈ b, (Lit.int .u8 n).wf = true) := by
  obtain ⟨cs, rfl, hcs⟩ := okWide_struct Tryd.underlying51 hv
  rw [cells5] at hcs
  obtain ⟨c0, c1, c2, c3, c4, rfl⟩ := array5 hcs
  obtain ⟨fuel, hf⟩ := h
  obtain ⟨y0, y1, y2, y3, n, hx, _, h0, h1, h2, h3⟩ := trod_struct4 Tryd.underlying51 hf
  obtain ⟨rfl, _⟩ := Prod.mk.inj hx
  have hsz' := inner hsz ht hd Tryd.underlying51
  rw [cells2] at h0
  rw [cellsU] at h1
  rw [cellsS] at h2 h3
  have q0 : DataW.trod enc Tryd.prog W base spare held n 49 [c0, c1] = some y0 := h0
  have q1 : DataW.trod enc Tryd.prog W base spare held n 27 [c2] = some y1 := h1
  have q2 : DataW.trod enc Tryd.prog W base spare held n 32 [c3] = some y2 := h2
  have q3 : DataW.trod enc Tryd.prog W base spare held n 32 [c4] = some y3 := h3
  obtain ⟨z0, z1, m, hz, _, g0, g1⟩ := trod_struct2 Tryd.underlying49 q0
  rw [cellsE] at g0
  rw [cellsI] at g1
  have q4 : DataW.trod enc Tryd.prog W base spare held m 24 [c0] = some z0 := g0
  have q5 : DataW.trod enc Tryd.prog W base spare held m 3 [c1] = some z1 := g1
  obtain ⟨e, he, _, we⟩ := DataW.trod_int Tryd.underlying24 q4
  obtain ⟨at_, hat, _, wat⟩ := DataW.trod_int Tryd.underlying3 q5
  obtain ⟨size, hs, _, ws⟩ := DataW.trod_int Tryd.underlying27 q1
  simp at he hat hs
  subst he hat hs
  obtain ⟨Aa, la, ca, ha⟩ := slice_form Tryd.underlying32 q2
  obtain ⟨Ab, lb, cb, hb⟩ := slice_form Tryd.underlying32 q3
  simp at ha hb
  subst ha hb
  obtain ⟨a, rfl, k1, k2, k3, k4⟩ := ints_in (k := .u8) (B := 1) hsz' (j := 2) (t := 32) (e := 5) rfl rfl Tryd.underlying32 Tryd.underlying5 (by kernel_rfl) (by kernel_rfl) (show DataW.Trod enc Tryd.prog W base spare held 32 (.slice Aa la ca) y2.1 y2.2 from ⟨n, q2⟩)
  obtain ⟨b, rfl, l1, l2, l3, l4⟩ := ints_in (k := .u8) (B := 1) hsz' (j := 3) (t := 32) (e := 5) rfl rfl Tryd.underlying32 Tryd.underlying5 (by kernel_rfl) (by kernel_rfl) (show DataW.Trod enc Tryd.prog W base spare held 32 (.slice Ab lb cb) y3.1 y3.2 from ⟨n, q3⟩)
  exact ⟨e, at_, size, Aa, ca, a, Ab, cb, b, rfl, we, wat, ws, k1, k2, k3, k4, l1, l2, l3, l4⟩
end Go.Proofs.YtgdhchknegjpfaaDoor.RowRes
