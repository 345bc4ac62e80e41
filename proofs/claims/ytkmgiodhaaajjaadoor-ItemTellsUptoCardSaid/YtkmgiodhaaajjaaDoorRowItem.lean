/- Words for a row: an item that came in. -/
import Derived.Test.YtkmgiodhaaajjaaDoorProg
import Derived.Test.YtkmgiodhaaajjaaDoorRows
import Derived.Test.YtkmgiodhaaajjaaDoorItemM
import Derived.Test.YtkmgiodhaaajjaaDoorRowWords
import Derived.WideShapes
import Derived.Lib.SmallJoins
import Derived.Deep.Slices
set_option linter.unusedVariables false
set_option linter.unusedSimpArgs false
namespace Go.Proofs.YtkmgiodhaaajjaaDoor.RowItem
open Go.Deep Go.Joins Go.ChangeShapes Go.WideShapes Go.RowKit Go.Proofs.YtkmgiodhaaajjaaDoor.Mem Go.Proofs.YtkmgiodhaaajjaaDoor.RowWords Go.Proofs.YtkmgiodhaaajjaaDoor.ItemP Go.Proofs.YtkmgiodhaaajjaaDoor.ItemM

theorem bulk_pos {H : Type} (d : DataW H) : 1 ≤ Rows.uptoBulk d := by
  cases d with
  | lit l => cases l <;> simp [Rows.uptoBulk]
  | nil => simp [Rows.uptoBulk]
  | ptr d => simp [Rows.uptoBulk]
  | slice elems spare => simp [Rows.uptoBulk]
  | agg parts => simp [Rows.uptoBulk]
  | iface t d => simp [Rows.uptoBulk]
  | map entries => simp [Rows.uptoBulk]
  | held h => simp [Rows.uptoBulk]
theorem bulk_part {H : Type} {d : DataW H} {l : List (DataW H)} (h : d ∈ l) : Rows.uptoBulk d ≤ Rows.uptoBulkAll l := by
  induction l with
  | nil => cases h
  | cons x r ih =>
    simp only [Rows.uptoBulkAll]
    cases List.mem_cons.1 h with
    | inl e => subst e; omega
    | inr e => have := ih e; omega
theorem cells4 : Tryd.prog.cellsOf 25 = 4 := by kernel_rfl
theorem cellsI : Tryd.prog.cellsOf 3 = 1 := by kernel_rfl
theorem cellsU : Tryd.prog.cellsOf 22 = 1 := by kernel_rfl
theorem cellsT : Tryd.prog.cellsOf 9 = 1 := by kernel_rfl
theorem cellsL : Tryd.prog.cellsOf 23 = 1 := by kernel_rfl

/-- Elements of a row, each an item: the row reads as items. -/
theorem its_of {H : Type} {W : World} {lo hi : Nat} {a : Addr} (hlo : lo ≤ a.block) (hhi : a.block < hi) : ∀ (ds : List (DataW H)) (i : Nat),
    (∀ j (h : j < ds.length), ∃ x cs, (∀ m, m < 4 → W.cell? (a.add ((i + j) * 4 + m)) = cs[m]?) ∧ ItAt W lo hi x cs ∧ x.size ≤ Rows.uptoBulk ds[j]) →
    ∃ l, l.length = ds.length ∧ ItsAt W lo hi l (some a) i ∧ sizes l ≤ Rows.uptoBulkAll ds
  | [], i, _ => ⟨[], rfl, trivial, by simp [sizes]⟩
  | d :: ds, i, h => by
    obtain ⟨x, cs, h1, h2, h3⟩ := h 0 (by simp)
    obtain ⟨l, g1, g2, g3⟩ := its_of hlo hhi ds (i + 1) (fun j hj => by
      have := h (j + 1) (by simpa using hj)
      rw [show i + (j + 1) = i + 1 + j by omega] at this
      exact this)
    refine ⟨x :: l, by simp [g1], ⟨⟨a, cs, rfl, hlo, hhi, h1, h2⟩, g2⟩, ?_⟩
    simp only [sizes, Rows.uptoBulkAll]
    have : x.size ≤ Rows.uptoBulk d := h3
    omega

theorem list4 {cs : List Value} (h : cs.length = 4) : ∃ c0 c1 c2 c3, cs = [c0, c1, c2, c3] := by
  match cs, h with
  | [c0, c1, c2, c3], _ => exact ⟨c0, c1, c2, c3, rfl⟩
theorem rng_i {k : Int} (h : (Lit.int .i64 k).wf = true) : -9223372036854775808 ≤ k ∧ k ≤ 9223372036854775807 := by
  simp [Lit.wf, IntKind.min, IntKind.max, IntKind.bits, IntKind.signed] at h
  omega
theorem rng_u {k : Int} (h : (Lit.int .u64 k).wf = true) : 0 ≤ k ∧ k < 18446744073709551616 := by
  simp [Lit.wf, IntKind.min, IntKind.max, IntKind.bits, IntKind.signed] at h
  omega
set_option maxRecDepth 100000 in
theorem item_of {H : Type} {enc : TypeId × Value → H} {W : World} {base : Nat} {spare : Nat → Bool} {held : Bool} (B : Nat) : ∀ (fuel : Nat) (cs : List Value) (y : DataW H × List MemPlace),
    DataW.trod enc Tryd.prog W base spare held fuel 25 cs = some y → Rows.uptoBulk y.1 ≤ B → B ≤ 1048576 → ∃ x : It, ItAt W 0 W.heap.size x cs ∧ x.size ≤ Rows.uptoBulk y.1 := by
  induction B with
  | zero => intro fuel cs y _ hb; have := bulk_pos y.1; omega
  | succ B ih =>
    intro fuel cs y h hb hB
    obtain ⟨y0, y1, y2, y3, n, rfl, hl, h0, h1, h2, h3⟩ := trod_struct4 Tryd.underlying25 h
    rw [cells4] at hl
    obtain ⟨c0, c1, c2, c3, rfl⟩ : ∃ c0 c1 c2 c3, cs = [c0, c1, c2, c3] := by
      exact list4 hl
    rw [cellsI] at h0
    rw [cellsU] at h1
    rw [cellsT] at h2
    rw [cellsL] at h3
    have q0 : DataW.trod enc Tryd.prog W base spare held n 3 [c0] = some y0 := h0
    have q1 : DataW.trod enc Tryd.prog W base spare held n 22 [c1] = some y1 := h1
    have q2 : DataW.trod enc Tryd.prog W base spare held n 9 [c2] = some y2 := h2
    have q3 : DataW.trod enc Tryd.prog W base spare held n 23 [c3] = some y3 := h3
    obtain ⟨k, hk, _, wk⟩ := DataW.trod_int Tryd.underlying3 q0
    obtain ⟨u, hu, _, wu⟩ := DataW.trod_int Tryd.underlying22 q1
    obtain ⟨s, hs, hs2, _⟩ := DataW.trod_string Tryd.underlying9 q2
    simp at hk hu hs
    subst hk hu hs
    have hs3 : Rows.uptoBulk y2.1 = s.size + 1 := by rw [hs2]; simp [Rows.uptoBulk]
    have b0 := bulk_pos y0.1
    have b1 := bulk_pos y1.1
    have b3 := bulk_pos y3.1
    have hsum : Rows.uptoBulk (DataW.agg [y0.1, y1.1, y2.1, y3.1]) = Rows.uptoBulk y0.1 + (Rows.uptoBulk y1.1 + (Rows.uptoBulk y2.1 + (Rows.uptoBulk y3.1 + 0))) + 1 := by simp only [Rows.uptoBulk, Rows.uptoBulkAll]
    have hb' : Rows.uptoBulk (DataW.agg [y0.1, y1.1, y2.1, y3.1]) ≤ B + 1 := hb
    rw [hsum] at hb'
    have hkw := rng_i wk
    have huw := rng_u wu
    obtain ⟨un, rfl⟩ : ∃ un : Nat, u = un := ⟨u.toNat, by omega⟩
    rcases open_slice Tryd.underlying23 q3 with ⟨hc, hy⟩ | ⟨a, len, cap, m, n', D, Pl, hc, hbb, hlc, hcm, hm, hy, hx⟩
    · simp at hc
      subst hc
      exact ⟨.mk k un s [], ⟨none, 0, rfl, by simp, hkw, by omega, by omega, by simp, trivial⟩, by
        show sizes [] + 1 ≤ _
        simp only [sizes]
        exact bulk_pos _⟩
    · simp at hc
      subst hc
      have hlm : len ≤ m := by rw [hm]; split <;> omega
      have hy3 : Rows.uptoBulk y3.1 = Rows.uptoBulkAll ((List.range len).map D) + Rows.uptoBulkAll ((List.range (m - len)).map fun j => D (len + j)) + 1 := by rw [hy]; simp only [Rows.uptoBulk]
      have hW : 0 < len → a.block < W.heap.size := fun hp => by
        obtain ⟨cs', h1, _⟩ := hx 0 (by omega)
        rw [cells4] at h1
        obtain ⟨_, hlen, hcell⟩ := World.cells?_some h1
        have := hcell 0 (by omega)
        rw [List.getElem?_eq_getElem (by omega)] at this
        have := World.block_lt_of_cell? W _ this
        rwa [block_of_add, block_of_add] at this
      have hkids : ∀ j (h : j < ((List.range len).map D).length), ∃ x cs, (∀ q, q < 4 → W.cell? (a.add ((0 + j) * 4 + q)) = cs[q]?) ∧ ItAt W 0 W.heap.size x cs ∧ x.size ≤ Rows.uptoBulk ((List.range len).map D)[j] := by
        intro j hj
        have hj2 : j < len := by simpa using hj
        obtain ⟨cs', h1, h2⟩ := hx j (by omega)
        rw [cells4] at h1
        obtain ⟨_, hlen, hcell⟩ := World.cells?_some h1
        have hd : Rows.uptoBulk (D j) ≤ Rows.uptoBulkAll ((List.range len).map D) := bulk_part (List.mem_map.2 ⟨j, List.mem_range.2 hj2, rfl⟩)
        obtain ⟨x, g1, g2⟩ := ih n' cs' (D j, Pl j) h2 (by show Rows.uptoBulk (D j) ≤ B; omega) (by omega)
        refine ⟨x, cs', fun q hq => ?_, g1, by simpa using g2⟩
        rw [Nat.zero_add, ← add_of_add]
        exact hcell q hq
      have hlen2 : ((List.range len).map D).length = len := by simp
      rcases Nat.eq_zero_or_pos len with hz | hp
      · subst hz
        exact ⟨.mk k un s [], ⟨some a, cap, rfl, by simp, hkw, by omega, by omega, by simp, trivial⟩, by
          show sizes [] + 1 ≤ _
          simp only [sizes]
          exact bulk_pos _⟩
      · obtain ⟨l, g1, g2, g3⟩ := its_of (lo := 0) (hi := W.heap.size) (Nat.zero_le _) (hW hp) ((List.range len).map D) 0 hkids
        rw [hlen2] at g1
        have hll := sizes_length l
        refine ⟨.mk k un s l, ⟨some a, cap, by rw [g1], by omega, hkw, by omega, by omega, by omega, g2⟩, ?_⟩
        show sizes l + 1 ≤ Rows.uptoBulk (DataW.agg [y0.1, y1.1, y2.1, y3.1])
        rw [hsum]
        omega

set_option maxRecDepth 100000 in
theorem item_in {H : Type} {enc : TypeId × Value → H} {W : World} {base b0 : Nat} {spare : Nat → Bool} {held : Bool} {r : Reach} {v : Value} {d : DataW H} {ps : List MemPlace}
    (hb : Rows.uptoBulk d ≤ 1048576) (hv : Value.okWide Tryd.prog W r b0 25 v) (h : DataW.Trod enc Tryd.prog W base spare held 25 v d ps) :
    ∃ (x : It) (cs : List Value), v = .agg cs.toArray ∧ x.size ≤ 1048576 ∧ ItAt W 0 W.heap.size x cs := by
  obtain ⟨cs, rfl, hcs⟩ := okWide_struct Tryd.underlying25 hv
  obtain ⟨fuel, hf⟩ := h
  obtain ⟨x, h1, h2⟩ := item_of 1048576 fuel _ _ hf hb (Nat.le_refl _)
  exact ⟨x, cs.toList, by simp, Nat.le_trans h2 hb, by simpa [Value.cells] using h1⟩
end Go.Proofs.YtkmgiodhaaajjaaDoor.RowItem
