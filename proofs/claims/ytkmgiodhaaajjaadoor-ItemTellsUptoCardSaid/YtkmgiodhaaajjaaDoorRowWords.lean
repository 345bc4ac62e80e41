/- Words for a row: a slice of whole numbers that came in. No program is named here. -/
import Derived.Test.YtkmgiodhaaajjaaDoorMem
import Derived.WalkKit
import Derived.ProofKit
import Derived.OpenShut
import Derived.SizedLaws
import Derived.ChangeSlices
import Derived.SliceStrings
set_option linter.unusedVariables false
set_option linter.unusedSimpArgs false
namespace Go.Proofs.YtkmgiodhaaajjaaDoor.RowWords
open Go.ChangeShapes Go.WideShapes Go.RowKit Go.Proofs.YtkmgiodhaaajjaaDoor.Mem

/-- What a row's reading of a slice of whole numbers says: its numbers, and how many fit. -/
theorem ints_in {H : Type} {enc : TypeId × Value → H} {P : Program} {W : World} {base : Nat} {spare : Nat → Bool} {held : Bool} {t e : TypeId} {k : IntKind} {a : Option Addr} {len cap : Nat} {d : DataW H} {ps : List MemPlace} {ts : List TypeId} {ds : List (DataW H)} {j B : Nat}
    (hsz : (DataW.weightsEach P ts ds).all (· ≤ reachBytes) = true) (ht : ts[j]? = some t) (hd : ds[j]? = some d) (hu : P.underlying t = some (.slice e)) (he : P.underlying e = some (.int k)) (hc : P.cellsOf e = 1) (hB : P.bytesOf e = B)
    (h : DataW.Trod enc P W base spare held t (.slice a len cap) d ps) :
    ∃ xs : List Int, xs.length = len ∧ len ≤ cap ∧ len * B ≤ 140737488351232 ∧ RdI k W a xs ∧ ∀ n ∈ xs, (Lit.int k n).wf = true := by
  obtain ⟨fuel, hf⟩ := h
  rcases open_ints hu he hc hf with ⟨hcs, _⟩ | ⟨x, l, c, zs, hcs, _, hl, _, hz, hx, hcell, hwf⟩
  · simp [Value.cells] at hcs
    obtain ⟨rfl, rfl, rfl⟩ := hcs
    exact ⟨[], rfl, Nat.le_refl _, by simp, fun i hi => absurd hi (by simp), fun n hn => by cases hn⟩
  · simp [Value.cells] at hcs
    obtain ⟨rfl, rfl, rfl⟩ := hcs
    obtain ⟨hx, _⟩ := Prod.mk.inj hx
    subst hx
    have hl2 : len ≤ zs.length := by
      rw [hz]
      split
      · exact hl
      · exact Nat.le_refl _
    have z := sized_slice hsz ht hd hu
    rw [hB] at z
    have h1 : (lits (H := H) k (zs.take len)).length + (lits (H := H) k (zs.drop len)).length = zs.length := by
      simp [lits]
      omega
    rw [h1] at z
    refine ⟨zs.take len, by simp; omega, hl, Nat.le_trans (Nat.mul_le_mul_right _ hl2) z, fun i hi => ?_, fun n hn => hwf n (List.mem_of_mem_take hn)⟩
    have hi2 : i < len ∧ i < zs.length := by simp at hi; omega
    have hc := hcell i hi2.2
    have hb := World.block_lt_of_cell? W _ hc
    rw [block_of_add] at hb
    refine ⟨x, rfl, hb, ?_⟩
    rw [hc]
    simp [List.getD_eq_getElem?_getD, List.getElem?_take, hi2.1]

/-- What a row's reading of a slice of texts says. -/
theorem strs_in {H : Type} {enc : TypeId × Value → H} {P : Program} {W : World} {base : Nat} {spare : Nat → Bool} {held : Bool} {t e : TypeId} {a : Option Addr} {len cap : Nat} {d : DataW H} {ps : List MemPlace} {ts : List TypeId} {ds : List (DataW H)} {j B : Nat}
    (hsz : (DataW.weightsEach P ts ds).all (· ≤ reachBytes) = true) (ht : ts[j]? = some t) (hd : ds[j]? = some d) (hu : P.underlying t = some (.slice e)) (he : P.underlying e = some .string) (hc : P.cellsOf e = 1) (hB : P.bytesOf e = B)
    (h : DataW.Trod enc P W base spare held t (.slice a len cap) d ps) :
    ∃ ss : List ByteArray, ss.length = len ∧ len ≤ cap ∧ len * B ≤ 140737488351232 ∧ RdS W a ss ∧ ∀ s ∈ ss, s.size ≤ maxLen := by
  obtain ⟨fuel, hf⟩ := h
  rcases open_strings hu he hc hf with ⟨hcs, _⟩ | ⟨x, l, c, zs, hcs, _, hl, _, hz, hx, hcell, hwf⟩
  · simp [Value.cells] at hcs
    obtain ⟨rfl, rfl, rfl⟩ := hcs
    exact ⟨[], rfl, Nat.le_refl _, by simp, fun i hi => absurd hi (by simp), fun n hn => by cases hn⟩
  · simp [Value.cells] at hcs
    obtain ⟨rfl, rfl, rfl⟩ := hcs
    obtain ⟨hx, _⟩ := Prod.mk.inj hx
    subst hx
    have hl2 : len ≤ zs.length := by
      rw [hz]
      split
      · exact hl
      · exact Nat.le_refl _
    have z := sized_slice hsz ht hd hu
    rw [hB] at z
    have h1 : (strs (H := H) (zs.take len)).length + (strs (H := H) (zs.drop len)).length = zs.length := by
      simp [strs]
      omega
    rw [h1] at z
    refine ⟨zs.take len, by simp; omega, hl, Nat.le_trans (Nat.mul_le_mul_right _ hl2) z, fun i hi => ?_, fun n hn => hwf n (List.mem_of_mem_take hn)⟩
    have hi2 : i < len ∧ i < zs.length := by simp at hi; omega
    have hc := hcell i hi2.2
    have hb := World.block_lt_of_cell? W _ hc
    rw [block_of_add] at hb
    refine ⟨x, rfl, hb, ?_⟩
    rw [hc]
    simp [List.getD_eq_getElem?_getD, hi2.1]

end Go.Proofs.YtkmgiodhaaajjaaDoor.RowWords
