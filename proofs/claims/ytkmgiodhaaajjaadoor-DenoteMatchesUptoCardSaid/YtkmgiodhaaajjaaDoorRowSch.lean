/- Words for a row: a schema that came in. -/
import Derived.Test.YtkmgiodhaaajjaaDoorRowItem
import Derived.Test.YtkmgiodhaaajjaaDoorSchM
set_option linter.unusedVariables false
set_option linter.unusedSimpArgs false
namespace Go.Proofs.YtkmgiodhaaajjaaDoor.RowSch
open Go.Deep Go.Joins Go.ChangeShapes Go.WideShapes Go.RowKit Go.Proofs.YtkmgiodhaaajjaaDoor.Mem Go.Proofs.YtkmgiodhaaajjaaDoor.RowWords Go.Proofs.YtkmgiodhaaajjaaDoor.ItemP Go.Proofs.YtkmgiodhaaajjaaDoor.ItemM Go.Proofs.YtkmgiodhaaajjaaDoor.RowItem Go.Proofs.YtkmgiodhaaajjaaDoor.SchP Go.Proofs.YtkmgiodhaaajjaaDoor.SchM

section
variable {H : Type} {enc : TypeId × Value → H} {W : World} {base : Nat} {spare : Nat → Bool} {held : Bool}
/-- A slice: its elements, each read as its type reads. -/
theorem slice_of {X : Type} {t E : TypeId} {sz : Nat} (Pr : List Value → X → Prop) (hu : Tryd.prog.underlying t = some (.slice E)) (hsz : Tryd.prog.cellsOf E = sz) (hpos : 0 < sz) (B : Nat) (hB : B ≤ 1048576)
    (he : ∀ fuel cs y, DataW.trod enc Tryd.prog W base spare held fuel E cs = some y → Rows.uptoBulk y.1 ≤ B → cs.length = sz → ∃ x, Pr cs x)
    {fuel : Nat} {c : Value} {y : DataW H × List MemPlace} (q : DataW.trod enc Tryd.prog W base spare held fuel t [c] = some y) (hb : Rows.uptoBulk y.1 ≤ B) :
    ∃ (A : Option Addr) (xs : List X) (cap : Nat), c = .slice A xs.length cap ∧ xs.length ≤ cap ∧ xs.length ≤ B ∧ ∀ i (hi : i < xs.length), ∃ ad cs, A = some ad ∧ ad.block < W.heap.size ∧ (∀ m, m < sz → W.cell? (ad.add (i * sz + m)) = cs[m]?) ∧ cs.length = sz ∧ Pr cs xs[i] := by
  rcases open_slice hu q with ⟨hc, hy⟩ | ⟨a, len, cap, m, n', D, Pl, hc, hbb, hlc, hcm, hm, hy, hx⟩
  · simp at hc
    subst hc
    exact ⟨none, [], 0, rfl, by simp, by simp, fun i hi => by simp at hi⟩
  · simp at hc
    subst hc
    have hlm : len ≤ m := by rw [hm]; split <;> omega
    have hy3 : Rows.uptoBulk y.1 = Rows.uptoBulkAll ((List.range len).map D) + Rows.uptoBulkAll ((List.range (m - len)).map fun j => D (len + j)) + 1 := by rw [hy]; simp only [Rows.uptoBulk]
    have hel : ∀ j, j < len → ∃ x cs, a.block < W.heap.size ∧ (∀ m, m < sz → W.cell? (a.add (j * sz + m)) = cs[m]?) ∧ cs.length = sz ∧ Pr cs x := by
      intro j hj
      obtain ⟨cs', h1, h2⟩ := hx j (by omega)
      rw [hsz] at h1
      obtain ⟨_, hlen, hcell⟩ := World.cells?_some h1
      have hd : Rows.uptoBulk (D j) ≤ Rows.uptoBulkAll ((List.range len).map D) := bulk_part (List.mem_map.2 ⟨j, List.mem_range.2 hj, rfl⟩)
      obtain ⟨x, hx2⟩ := he n' cs' (D j, Pl j) h2 (by show Rows.uptoBulk (D j) ≤ B; omega) hlen
      refine ⟨x, cs', ?_, fun q hq => ?_, hlen, hx2⟩
      · have := hcell 0 (by omega)
        rw [List.getElem?_eq_getElem (by omega)] at this
        have := World.block_lt_of_cell? W _ this
        rwa [block_of_add, block_of_add] at this
      · rw [← add_of_add]
        exact hcell q hq
    have hcnt : ∀ l : List (DataW H), l.length ≤ Rows.uptoBulkAll l := by
      intro l
      induction l with
      | nil => simp
      | cons d l ih =>
        have := bulk_pos d
        simp only [Rows.uptoBulkAll, List.length_cons]
        omega
    have hlen : len ≤ B := by
      have := hcnt ((List.range len).map D)
      simp at this
      omega
    refine ⟨some a, List.ofFn (fun j : Fin len => (hel j.1 j.2).choose), cap, by rw [List.length_ofFn], by rw [List.length_ofFn]; exact hlc, by rw [List.length_ofFn]; exact hlen, fun i hi => ?_⟩
    rw [List.length_ofFn] at hi
    obtain ⟨cs, h1, h2, h3, h4⟩ := (hel i hi).choose_spec
    refine ⟨a, cs, rfl, h1, h2, h3, ?_⟩
    rw [List.getElem_ofFn]
    exact h4
theorem cells3 : Tryd.prog.cellsOf 111 = 3 := by kernel_rfl
theorem cells9 : Tryd.prog.cellsOf 54 = 9 := by kernel_rfl
theorem cells1 : Tryd.prog.cellsOf 42 = 1 := by kernel_rfl
theorem cellsB : Tryd.prog.cellsOf 4 = 1 := by kernel_rfl
theorem cellsIs : Tryd.prog.cellsOf 28 = 1 := by kernel_rfl
theorem cellsFs : Tryd.prog.cellsOf 52 = 1 := by kernel_rfl
theorem cellsNs : Tryd.prog.cellsOf 40 = 1 := by kernel_rfl
theorem trod_struct6 {t : TypeId} {f0 f1 f2 f3 f4 f5 : Field} {fuel : Nat} {cs : List Value} {x : DataW H × List MemPlace} (ht : Tryd.prog.underlying t = some (.struct #[f0, f1, f2, f3, f4, f5])) (h : DataW.trod enc Tryd.prog W base spare held fuel t cs = some x) :
    ∃ y0 y1 y2 y3 y4 y5 n, x.1 = .agg [y0.1, y1.1, y2.1, y3.1, y4.1, y5.1] ∧ cs.length = Tryd.prog.cellsOf t ∧ DataW.trod enc Tryd.prog W base spare held n f0.type ((cs.drop f0.offset).take (Tryd.prog.cellsOf f0.type)) = some y0 ∧
      DataW.trod enc Tryd.prog W base spare held n f1.type ((cs.drop f1.offset).take (Tryd.prog.cellsOf f1.type)) = some y1 ∧ DataW.trod enc Tryd.prog W base spare held n f2.type ((cs.drop f2.offset).take (Tryd.prog.cellsOf f2.type)) = some y2 ∧
      DataW.trod enc Tryd.prog W base spare held n f3.type ((cs.drop f3.offset).take (Tryd.prog.cellsOf f3.type)) = some y3 ∧ DataW.trod enc Tryd.prog W base spare held n f4.type ((cs.drop f4.offset).take (Tryd.prog.cellsOf f4.type)) = some y4 ∧ DataW.trod enc Tryd.prog W base spare held n f5.type ((cs.drop f5.offset).take (Tryd.prog.cellsOf f5.type)) = some y5 := by
  obtain ⟨xs, n, _, rfl, hl, hlen, hf⟩ := DataW.trod_struct ht h
  match xs, hlen with
  | [y0, y1, y2, y3, y4, y5], _ => exact ⟨y0, y1, y2, y3, y4, y5, n, by simp, hl, by simpa using hf 0 f0 rfl, by simpa using hf 1 f1 rfl, by simpa using hf 2 f2 rfl, by simpa using hf 3 f3 rfl, by simpa using hf 4 f4 rfl, by simpa using hf 5 f5 rfl⟩
theorem list3 {cs : List Value} (h : cs.length = 3) : ∃ c0 c1 c2, cs = [c0, c1, c2] := by
  match cs, h with
  | [c0, c1, c2], _ => exact ⟨c0, c1, c2, rfl⟩
theorem list9 {cs : List Value} (h : cs.length = 9) : ∃ c0 c1 c2 c3 c4 c5 c6 c7 c8, cs = [c0, c1, c2, c3, c4, c5, c6, c7, c8] := by
  match cs, h with
  | [c0, c1, c2, c3, c4, c5, c6, c7, c8], _ => exact ⟨c0, c1, c2, c3, c4, c5, c6, c7, c8, rfl⟩
/-- A field. -/
def FldC (cs : List Value) (f : Fld) : Prop := cs = [.string f.key, .int .i64 f.node, .bool f.opt] ∧ f.key.size ≤ 140737488355328 ∧ (-9223372036854775808 ≤ f.node ∧ f.node ≤ 9223372036854775807)
set_option maxRecDepth 100000 in
theorem fld_of {fuel : Nat} {cs : List Value} {y : DataW H × List MemPlace} (h : DataW.trod enc Tryd.prog W base spare held fuel 111 cs = some y) (hb : Rows.uptoBulk y.1 ≤ 1048576) : ∃ f, FldC cs f := by
  obtain ⟨y0, y1, y2, n, rfl, hl, h0, h1, h2⟩ := trod_struct3 Tryd.underlying111 h
  rw [cells3] at hl
  obtain ⟨c0, c1, c2, rfl⟩ := list3 hl
  rw [cellsT] at h0
  rw [cellsI] at h1
  rw [cellsB] at h2
  have q0 : DataW.trod enc Tryd.prog W base spare held n 9 [c0] = some y0 := h0
  have q1 : DataW.trod enc Tryd.prog W base spare held n 3 [c1] = some y1 := h1
  have q2 : DataW.trod enc Tryd.prog W base spare held n 4 [c2] = some y2 := h2
  obtain ⟨s, hs, hs2, _⟩ := DataW.trod_string Tryd.underlying9 q0
  obtain ⟨k, hk, _, wk⟩ := DataW.trod_int Tryd.underlying3 q1
  obtain ⟨b, hbb, _⟩ := DataW.trod_bool Tryd.underlying4 q2
  simp at hs hk hbb
  subst hs hk hbb
  refine ⟨⟨s, k, b⟩, rfl, ?_, rng_i wk⟩
  have hs3 : Rows.uptoBulk y0.1 = s.size + 1 := by rw [hs2]; simp [Rows.uptoBulk]
  simp only [Rows.uptoBulk, Rows.uptoBulkAll] at hb
  show s.size ≤ _
  omega
/-- A node. -/
def NodC (W : World) (cs : List Value) (n : Nod) : Prop := ∃ Av cv Al cl Af cf, cs = (ndC n Av cv Al cl Af cf).toList ∧ NdR W W.heap.size n Av cv Al cl Af cf
set_option maxRecDepth 100000 in
theorem nod_of {fuel : Nat} {cs : List Value} {y : DataW H × List MemPlace} (h : DataW.trod enc Tryd.prog W base spare held fuel 54 cs = some y) (hb : Rows.uptoBulk y.1 ≤ 1048576) : ∃ n, NodC W cs n := by
  obtain ⟨y0, y1, y2, y3, y4, y5, n, hy, hl, h0, h1, h2, h3, h4, h5⟩ := trod_struct6 Tryd.underlying54 h
  rw [cells9] at hl
  obtain ⟨c0, c1, c2, c3, c4, c5, c6, c7, c8, rfl⟩ := list9 hl
  rw [cellsI] at h0 h1 h2
  rw [cells4] at h3
  rw [cellsIs] at h4
  rw [cellsFs] at h5
  have q0 : DataW.trod enc Tryd.prog W base spare held n 3 [c0] = some y0 := h0
  have q1 : DataW.trod enc Tryd.prog W base spare held n 3 [c1] = some y1 := h1
  have q2 : DataW.trod enc Tryd.prog W base spare held n 3 [c2] = some y2 := h2
  have q3 : DataW.trod enc Tryd.prog W base spare held n 25 [c3, c4, c5, c6] = some y3 := h3
  have q4 : DataW.trod enc Tryd.prog W base spare held n 28 [c7] = some y4 := h4
  have q5 : DataW.trod enc Tryd.prog W base spare held n 52 [c8] = some y5 := h5
  rw [hy] at hb
  simp only [Rows.uptoBulk, Rows.uptoBulkAll] at hb
  obtain ⟨k, hk, _, wk⟩ := DataW.trod_int Tryd.underlying3 q0
  obtain ⟨lo, hlo, _, wlo⟩ := DataW.trod_int Tryd.underlying3 q1
  obtain ⟨hi, hhi, _, whi⟩ := DataW.trod_int Tryd.underlying3 q2
  simp at hk hlo hhi
  subst hk hlo hhi
  obtain ⟨x, hx1, hx2⟩ := item_of 1048576 n _ _ q3 (by omega) (Nat.le_refl _)
  obtain ⟨Al, l, cl, rfl, hlc, hlB, hlr⟩ := slice_of (fun cs (x : Int) => cs = [.int .i64 x] ∧ (-9223372036854775808 ≤ x ∧ x ≤ 9223372036854775807)) Tryd.underlying28 cellsI (by omega) 1048576 (Nat.le_refl _) (fun fuel cs y hq _ hlen => by
    obtain ⟨z, hz, _, wz⟩ := DataW.trod_int Tryd.underlying3 hq
    exact ⟨z, hz, rng_i wz⟩) q4 (by omega)
  obtain ⟨Af, f, cf, rfl, hfc, hfB, hfr⟩ := slice_of FldC Tryd.underlying52 cells3 (by omega) 1048576 (Nat.le_refl _) (fun fuel cs y hq hbb hlen => fld_of hq hbb) q5 (by omega)
  obtain ⟨xk, xn, xs, xl⟩ := x
  obtain ⟨Av, cv, he, hr⟩ := hx1
  injection he with e1 he
  injection he with e2 he
  injection he with e3 he
  injection he with e4 _
  subst e1 e2 e3 e4
  refine ⟨⟨k, lo, hi, .mk xk xn xs xl, l, f⟩, Av, cv, Al, cl, Af, cf, rfl, ⟨Nat.le_refl _, ⟨Av, cv, rfl, hr⟩, fun i hi2 => ?_, fun i hi2 => ?_, hlc, hfc, hlB, hfB, Nat.le_trans hx2 (by omega), rng_i wk, rng_i wlo, rng_i whi, fun x hx => ?_⟩⟩
  · obtain ⟨ad, cs, hA, hbk, hcell, hlen, hcs, _⟩ := hlr i hi2
    refine ⟨ad, hA, hbk, ?_⟩
    have := hcell 0 (by omega)
    rw [Nat.mul_one, Nat.add_zero] at this
    rw [this, hcs]
    simp [List.getD_eq_getElem?_getD, List.getElem?_eq_getElem hi2]
  · obtain ⟨ad, cs, hA, hbk, hcell, hlen, hcs, h1, h2⟩ := hfr i hi2
    subst hcs
    exact ⟨ad, hA, hbk, h1, h2, hcell 0 (by omega), (add_lit ad _ 1 (by omega)) ▸ hcell 1 (by omega), (add_lit ad _ 2 (by omega)) ▸ hcell 2 (by omega)⟩
  · obtain ⟨i, hi2, rfl⟩ := List.getElem_of_mem hx
    obtain ⟨_, _, _, _, _, _, _, h⟩ := hlr i hi2
    exact h
set_option maxRecDepth 100000 in
theorem schema_in {b0 : Nat} {r : Reach} {v : Value} {d : DataW H} {ps : List MemPlace}
    (hb : Rows.uptoBulk d ≤ 1048576) (hv : Value.okWide Tryd.prog W r b0 42 v) (h : DataW.Trod enc Tryd.prog W base spare held 42 v d ps) :
    ∃ (A : Option Addr) (ns : List Nod) (c : Nat), v = .agg #[.slice A ns.length c] ∧ ns.length ≤ c ∧ ns.length ≤ 1048576 ∧ RdN W W.heap.size A ns := by
  obtain ⟨cs, rfl, hcs⟩ := okWide_struct Tryd.underlying42 hv
  rw [cells1] at hcs
  obtain ⟨l⟩ := cs
  obtain ⟨c0, rfl⟩ : ∃ c0, l = [c0] := by
    match l, hcs with
    | [c0], _ => exact ⟨c0, rfl⟩
  obtain ⟨fuel, hf⟩ := h
  have hf' : DataW.trod enc Tryd.prog W base spare held fuel 42 [c0] = some (d, ps) := by simpa [Value.cells] using hf
  obtain ⟨xs, n, _, hx, hl, hlen, hf2⟩ := DataW.trod_struct Tryd.underlying42 hf'
  match xs, hlen with
  | [y0], _ =>
    have h0 := hf2 0 _ rfl
    have q0 : DataW.trod enc Tryd.prog W base spare held n 40 [c0] = some y0 := h0
    have hd : d = .agg [y0.1] := by
      have := congrArg Prod.fst hx
      simpa using this
    rw [hd] at hb
    simp only [Rows.uptoBulk, Rows.uptoBulkAll] at hb
    obtain ⟨A, ns, c, rfl, h1, h2, h3⟩ := slice_of (NodC W) Tryd.underlying40 cells9 (by omega) 1048576 (Nat.le_refl _) (fun fuel cs y hq hbb hlen => nod_of hq hbb) q0 (by omega)
    refine ⟨A, ns, c, rfl, h1, h2, fun i hi => ?_⟩
    obtain ⟨ad, cs, hA, hbk, hcell, hlen, Av, cv, Al, cl, Af, cf, hcs, hr⟩ := h3 i hi
    refine ⟨ad, Av, cv, Al, cl, Af, cf, hA, hbk, fun j hj => ?_, hr⟩
    rw [hcell j hj, hcs, Array.getElem?_toList]
end
end Go.Proofs.YtkmgiodhaaajjaaDoor.RowSch
