/- Words for a row: a slice of slices of whole numbers that came in. No program is named here. -/
import Derived.Test.YtcbogkpgkdijaaaDoorRowWords
import Derived.Deep.Matrix
set_option linter.unusedVariables false
set_option linter.unusedSimpArgs false
namespace Go.Proofs.YtcbogkpgkdijaaaDoor.RowRows
open Go.ChangeShapes Go.WideShapes Go.RowKit Go.Proofs.YtcbogkpgkdijaaaDoor.Mem

/-- A slice of slices of whole numbers that is read. -/
def RdRows (k : IntKind) (w : World) (A : Option Addr) (pss : List (List Int)) : Prop :=
  ∀ i, i < pss.length → ∃ ad A' c', A = some ad ∧ ad.block < w.heap.size ∧ w.cell? (ad.add i) = some (.slice A' (pss.getD i []).length c') ∧ (pss.getD i []).length ≤ c' ∧ c' ≤ maxLen ∧ RdI k w A' (pss.getD i [])
theorem RdRows.fr0 {k : IntKind} {w w' : World} {A : Option Addr} {pss : List (List Int)} (h : RdRows k w A pss) (hf : Fr (fun _ => False) w w') : RdRows k w' A pss := fun i hi => by
  obtain ⟨ad, A', c', rfl, hb, hc, h1, h2, hr⟩ := h i hi
  exact ⟨ad, A', c', rfl, Nat.lt_of_lt_of_le hb hf.size, (hf.cell (by rw [block_of_add]; exact hb) (fun h => h)).trans hc, h1, h2, hr.fr0 hf⟩

theorem rows_in {H : Type} {enc : TypeId × Value → H} {P : Program} {W : World} {base : Nat} {held : Bool} {t e q : TypeId} {k : IntKind} {a : Option Addr} {len cap : Nat} {d : DataW H} {ps : List MemPlace}
    (hu : P.underlying t = some (.slice e)) (he : P.underlying e = some (.slice q)) (hq : P.underlying q = some (.int k)) (ce : P.cellsOf e = 1) (cq : P.cellsOf q = 1)
    (h : DataW.Trod enc P W base (fun _ => true) held t (.slice a len cap) d ps) :
    ∃ pss : List (List Int), pss.length = len ∧ len ≤ cap ∧ cap ≤ maxLen ∧ RdRows k W a pss ∧ ∀ zs ∈ pss, ∀ n ∈ zs, (Lit.int k n).wf = true := by
  obtain ⟨fuel, hf⟩ := h
  rcases Deep.open_int_rows hu he hq ce cq hf with ⟨hcs, _⟩ | ⟨x, l, c, A, L, C, Z, hcs, _, hl, hm, _, hall⟩
  · simp [Value.cells] at hcs
    obtain ⟨rfl, rfl, rfl⟩ := hcs
    exact ⟨[], rfl, Nat.le_refl _, by simp, fun i hi => absurd hi (by simp), fun n hn => by cases hn⟩
  · simp [Value.cells] at hcs
    obtain ⟨rfl, rfl, rfl⟩ := hcs
    refine ⟨(List.range len).map fun r => (Z r).take (L r), by simp, hl, hm, fun i hi => ?_, fun zs hz n hn => ?_⟩
    · have hi2 : i < len := by simpa using hi
      obtain ⟨hc, hL, hC, hZ, _, hnone, hsome⟩ := hall i (by omega)
      have hg : ((List.range len).map fun r => (Z r).take (L r)).getD i [] = (Z i).take (L i) := by simp [List.getD_eq_getElem?_getD, hi2]
      have hlen : ((Z i).take (L i)).length = L i := by rw [List.length_take]; omega
      have hb := World.block_lt_of_cell? W _ hc
      rw [block_of_add] at hb
      rw [hg, hlen]
      refine ⟨x, A i, C i, rfl, hb, hc, hL, hC, fun j hj => ?_⟩
      rw [hlen] at hj
      cases hA : A i with
      | none => have := hnone hA; omega
      | some a' =>
        obtain ⟨_, hcc⟩ := hsome a' hA
        have h2 := hcc j (by omega)
        have hb2 := World.block_lt_of_cell? W _ h2
        rw [block_of_add] at hb2
        refine ⟨a', rfl, hb2, ?_⟩
        rw [h2]
        simp [List.getD_eq_getElem?_getD, List.getElem?_take, hj]
    · simp only [List.mem_map, List.mem_range] at hz
      obtain ⟨r, hr, rfl⟩ := hz
      obtain ⟨_, _, _, _, hwf, _⟩ := hall r (by omega)
      exact hwf n (List.mem_of_mem_take hn)
end Go.Proofs.YtcbogkpgkdijaaaDoor.RowRows
