/- A copied item whose rows are written over. No program is named here. -/
import Derived.Test.YtkmgiodhaaajjaaDoorItemQ
import Derived.Test.YtkmgiodhaaajjaaDoorItemB
set_option linter.unusedVariables false
set_option linter.unusedSimpArgs false
namespace Go.Proofs.YtkmgiodhaaajjaaDoor.ItemZa
open Go.RowKit Go.Proofs.YtkmgiodhaaajjaaDoor.Mem Go.Proofs.YtkmgiodhaaajjaaDoor.ItemP Go.Proofs.YtkmgiodhaaajjaaDoor.ItemM Go.Proofs.YtkmgiodhaaajjaaDoor.Own Go.Proofs.YtkmgiodhaaajjaaDoor.ItemQ

/-- A row of items that may be written: kinds, numbers, what their lists are. -/
def Rw (w : World) (B : Nat → Prop) (A : Option Addr) (m : Nat) (sl : Nat → Value) : Prop :=
  ∀ j, j < m → ∃ g, A = some ⟨g, 0, none⟩ ∧ B g ∧ (∃ k : Int, w.cell? ⟨g, j * 4, none⟩ = some (.int .i64 k)) ∧ (∃ n : Int, w.cell? ⟨g, j * 4 + 1, none⟩ = some (.int .u64 n)) ∧ w.cell? ⟨g, j * 4 + 3, none⟩ = some (sl j) ∧ w.frozen? ⟨g, j * 4, none⟩ = false ∧ w.frozen? ⟨g, j * 4 + 1, none⟩ = false
section
variable {w : World} {B : Nat → Prop} {A : Option Addr} {m : Nat} {sl : Nat → Value}
theorem Rw.st (h : Rw w B A m sl) {g' o : Nat} {ki : IntKind} {u v : Int} (hu : w.cell? ⟨g', o, none⟩ = some (.int ki u)) (ho : (o % 4 = 0 ∧ ki = .i64) ∨ (o % 4 = 1 ∧ ki = .u64)) : Rw (w.setCell ⟨g', o, none⟩ (.int ki v)) B A m sl := by
  intro j hj
  obtain ⟨g, hA, hB, ⟨k, hk⟩, ⟨n, hn⟩, hs, f0, f1⟩ := h j hj
  refine ⟨g, hA, hB, ?_, ?_, ?_, by rw [World.frozen?_setCell]; exact f0, by rw [World.frozen?_setCell]; exact f1⟩
  · by_cases e : (⟨g', o, none⟩ : Addr) = ⟨g, j * 4, none⟩
    · injection e with e1 e2
      subst e1 e2
      rcases ho with ⟨_, rfl⟩ | ⟨h1, _⟩
      · exact ⟨v, World.cell?_setCell_same _ _ _ hk⟩
      · omega
    · exact ⟨k, (World.cell?_setCell_other _ _ _ _ e).trans hk⟩
  · by_cases e : (⟨g', o, none⟩ : Addr) = ⟨g, j * 4 + 1, none⟩
    · injection e with e1 e2
      subst e1 e2
      rcases ho with ⟨h1, _⟩ | ⟨_, rfl⟩
      · omega
      · exact ⟨v, World.cell?_setCell_same _ _ _ hn⟩
    · exact ⟨n, (World.cell?_setCell_other _ _ _ _ e).trans hn⟩
  · refine (World.cell?_setCell_other _ _ _ _ fun e => ?_).trans hs
    injection e with e1 e2
    omega
end
/-- Such a row, and below it such rows. -/
def Rs (w : World) (B : Nat → Prop) (A : Option Addr) (m c : Nat) (sl : Nat → Option Addr × Nat × Nat) : Prop :=
  m ≤ c ∧ Rw w B A m (fun j => .slice (sl j).1 (sl j).2.1 (sl j).2.2) ∧ ∀ j, j < m → (sl j).2.1 ≤ (sl j).2.2 ∧ (sl j).2.1 ≤ 140737488355328 ∧ ∃ sl', Rw w B (sl j).1 (sl j).2.1 sl'
section
variable {w : World} {B : Nat → Prop} {A : Option Addr} {m c : Nat} {sl : Nat → Option Addr × Nat × Nat}
theorem Rs.st (h : Rs w B A m c sl) {g' o : Nat} {ki : IntKind} {u v : Int} (hu : w.cell? ⟨g', o, none⟩ = some (.int ki u)) (ho : (o % 4 = 0 ∧ ki = .i64) ∨ (o % 4 = 1 ∧ ki = .u64)) : Rs (w.setCell ⟨g', o, none⟩ (.int ki v)) B A m c sl :=
  ⟨h.1, h.2.1.st hu ho, fun j hj => ⟨(h.2.2 j hj).1, (h.2.2 j hj).2.1, by obtain ⟨sl', hs⟩ := (h.2.2 j hj).2.2; exact ⟨sl', hs.st hu ho⟩⟩⟩
theorem Rs.at_ (h : Rs w B A m c sl) {j : Nat} (hj : j < m) : ∃ g, A = some ⟨g, 0, none⟩ ∧ B g := by
  obtain ⟨g, h1, h2, _⟩ := h.2.1 j hj
  exact ⟨g, h1, h2⟩
theorem Rs.row {g : Nat} (h : Rs w B (some ⟨g, 0, none⟩) m c sl) {j : Nat} (hj : j < m) {A' : Option Addr} {m' c' : Nat} (hs : sl j = (A', m', c')) :
    (∃ n : Int, w.cell? ⟨g, j * 4 + 1, none⟩ = some (.int .u64 n)) ∧ w.cell? ⟨g, j * 4 + 3, none⟩ = some (.slice A' m' c') ∧ w.frozen? ⟨g, j * 4 + 1, none⟩ = false ∧ m' ≤ c' ∧ m' ≤ 140737488355328 := by
  obtain ⟨g', h1, _, _, h3, h4, _, h6⟩ := h.2.1 j hj
  injection h1 with h1
  injection h1 with h1
  subst h1
  have h5 := h.2.2 j hj
  rw [hs] at h5
  simp only [hs] at h4
  exact ⟨h3, h4, h6, h5.1, h5.2.1⟩
theorem Rs.in_ (h : Rs w B A m c sl) {j : Nat} (hj : j < m) {A' : Option Addr} {m' c' : Nat} (hs : sl j = (A', m', c')) {k : Nat} (hk : k < m') :
    ∃ g, A' = some ⟨g, 0, none⟩ ∧ B g ∧ (∃ n : Int, w.cell? ⟨g, k * 4, none⟩ = some (.int .i64 n)) ∧ w.frozen? ⟨g, k * 4, none⟩ = false := by
  obtain ⟨_, _, sl', h1⟩ := h.2.2 j hj
  rw [hs] at h1
  obtain ⟨g, h2, h3, h4, _, _, h5, _⟩ := h1 k hk
  exact ⟨g, h2, h3, h4, h5⟩
end
theorem own_frozG {e sz n c : Nat} {w : World} {base g : Nat} {cs : List Value} (h : OwnG e sz w base (.slice (some ⟨g, 0, none⟩) n c) n cs) (i : Nat) : w.frozen? ⟨g, i, none⟩ = false := World.ownsRow.frozenAt h i
section
variable {t : TypeId} {w : World} {B : Nat → Prop}
theorem CpsAt.get : ∀ (l : List It) (ccs : List Value) (j : Nat) (h : j < l.length), CpsAt t w B l ccs → ∃ cs, CpAt t w B l[j] cs ∧ ∀ q, q < 4 → ccs[j * 4 + q]? = cs[q]?
  | x :: l, ccs, 0, _, ⟨cs, rest, h1, h2, h3⟩ => ⟨cs, h2, fun q hq => by
    have := h2.len
    rw [h1, Nat.zero_mul, Nat.zero_add, List.getElem?_append_left (by omega)]⟩
  | x :: l, ccs, j + 1, h, ⟨cs, rest, h1, h2, h3⟩ => by
    obtain ⟨cs', h4, h5⟩ := CpsAt.get l rest j (by simpa using h) h3
    have := h2.len
    refine ⟨cs', h4, fun q hq => ?_⟩
    rw [h1, List.getElem?_append_right (by omega), show (j + 1) * 4 + q - cs.length = j * 4 + q by omega]
    exact h5 q hq
/-- The cells of a copy's row. -/
theorem CpAt.rw_ {k : Int} {n : Nat} {s : ByteArray} {l : List It} {A : Option Addr} {c : Nat} (h : CpAt t w B (.mk k n s l) [.int .i64 k, .int .u64 n, .string s, .slice A l.length c]) :
    l.length ≤ c ∧ l.length ≤ 140737488355328 ∧ ∃ sl : Nat → Option Addr × Nat × Nat, Rw w B A l.length (fun j => .slice (sl j).1 (sl j).2.1 (sl j).2.2) ∧ ∀ j (hj : j < l.length), (sl j).2.1 = l[j].l.length ∧ CpAt t w B l[j] [.int .i64 l[j].k, .int .u64 l[j].n, .string l[j].s, .slice (sl j).1 l[j].l.length (sl j).2.2] := by
  obtain ⟨A', c', ccs, e, _, _, _, hl, hO, hB, hC⟩ := h
  injection e with _ e
  injection e with _ e
  injection e with _ e
  injection e with e _
  injection e with e1 e2 e3
  subst e1 e3
  have hc : l.length ≤ c := by
    obtain ⟨A2, c2, g1, g2, _⟩ := hO.form
    injection g1 with _ _ g3
    subst g3
    exact g2
  have hget : ∀ j (hj : j < l.length), ∃ (p : Option Addr × Nat × Nat), p.2.1 = l[j].l.length ∧ CpAt t w B l[j] [.int .i64 l[j].k, .int .u64 l[j].n, .string l[j].s, .slice p.1 l[j].l.length p.2.2] ∧ ∀ q, q < 4 → ccs[j * 4 + q]? = [Value.int .i64 l[j].k, .int .u64 l[j].n, .string l[j].s, .slice p.1 p.2.1 p.2.2][q]? := by
    intro j hj
    obtain ⟨cs, h1, h2⟩ := CpsAt.get l ccs j hj hC
    obtain ⟨k', n', s', l', hx⟩ : ∃ k n s l2, l[j] = .mk k n s l2 := ⟨_, _, _, _, It.eta _⟩
    rw [hx] at h1 ⊢
    have h3 := h1
    obtain ⟨A2, c2, ccs2, e2, _⟩ := h1
    subst e2
    exact ⟨(A2, l'.length, c2), rfl, h3, h2⟩
  refine ⟨hc, hl, fun j => if hj : j < l.length then (hget j hj).choose else (none, 0, 0), fun j hj => ?_, fun j hj => ?_⟩
  · obtain ⟨g1, g2, g3⟩ := (hget j hj).choose_spec
    have hcell : ∀ q, q < 4 → ∃ g u, A = some ⟨g, 0, none⟩ ∧ B g ∧ [Value.int .i64 l[j].k, .int .u64 l[j].n, .string l[j].s, .slice (hget j hj).choose.1 (hget j hj).choose.2.1 (hget j hj).choose.2.2][q]? = some u ∧ w.cell? ⟨g, j * 4 + q, none⟩ = some u := fun q hq => by
      have h4 := g3 q hq
      obtain ⟨u, hu⟩ : ∃ u, [Value.int .i64 l[j].k, .int .u64 l[j].n, .string l[j].s, .slice (hget j hj).choose.1 (hget j hj).choose.2.1 (hget j hj).choose.2.2][q]? = some u := ⟨_, List.getElem?_eq_getElem (show q < 4 from hq)⟩
      rw [hu] at h4
      obtain ⟨ad, hA, _, h5⟩ := hO.rd.1 _ _ h4
      obtain ⟨A2, c2, g4, _, _, g6⟩ := hO.form
      injection g4 with g4
      subst g4
      obtain ⟨g, hg, _⟩ := g6 ad hA
      subst hg
      refine ⟨g, u, hA, hB g (by rw [hA]; rfl), hu, ?_⟩
      rwa [add_plain, Nat.zero_add] at h5
    obtain ⟨g, u, hA, hBg, hu, h0⟩ := hcell 0 (by omega)
    obtain ⟨g', u1, hA1, _, hu1, h1⟩ := hcell 1 (by omega)
    obtain ⟨g'', u3, hA3, _, hu3, h3⟩ := hcell 3 (by omega)
    subst hA
    injection hA1 with hA1
    injection hA1 with hA1
    injection hA3 with hA3
    injection hA3 with hA3
    subst hA1 hA3
    simp only [List.getElem?_cons_zero, List.getElem?_cons_succ, Option.some.injEq] at hu hu1 hu3
    subst hu hu1 hu3
    refine ⟨g, rfl, hBg, ⟨_, h0⟩, ⟨_, h1⟩, ?_, own_frozG hO _, own_frozG hO _⟩
    simp only [dif_pos hj]
    exact h3
  · obtain ⟨g1, g2, _⟩ := (hget j hj).choose_spec
    simp only [dif_pos hj]
    exact ⟨g1, g2⟩
theorem CpAt.rs {k : Int} {n : Nat} {s : ByteArray} {l : List It} {A : Option Addr} {c : Nat} (h : CpAt t w B (.mk k n s l) [.int .i64 k, .int .u64 n, .string s, .slice A l.length c]) : ∃ sl, Rs w B A l.length c sl := by
  obtain ⟨h1, _, sl, h2, h3⟩ := CpAt.rw_ h
  refine ⟨sl, h1, h2, fun j hj => ?_⟩
  obtain ⟨h4, h5⟩ := h3 j hj
  obtain ⟨k', n', s', l', hx⟩ : ∃ k n s l2, l[j] = .mk k n s l2 := ⟨_, _, _, _, It.eta _⟩
  rw [hx] at h4 h5
  obtain ⟨h6, h7, sl', h8, _⟩ := CpAt.rw_ h5
  rw [show (sl j).2.1 = l'.length from h4]
  exact ⟨h6, h7, _, h8⟩
end

/-- Two copies, each in a box and in rows of its own. -/
def Two (t : TypeId) (w5 : World) (x : It) (k : Int) (n : Nat) (s : ByteArray) (m : Nat) (v5 v6 : Value) (W : World) : Prop :=
  ∃ (g5 g6 : Nat) (A5 A6 : Option Addr) (c5 c6 : Nat) (B5 B6 : Nat → Prop), v5 = .pointer (some ⟨g5, 0, none⟩) ∧ v6 = .pointer (some ⟨g6, 0, none⟩) ∧
    Blk W g5 t #[.int .i64 k, .int .u64 n, .string s, .slice A5 m c5] ∧ Blk W g6 t #[.int .i64 k, .int .u64 n, .string s, .slice A6 m c6] ∧
    CpAt t W B5 x [.int .i64 k, .int .u64 n, .string s, .slice A5 m c5] ∧ CpAt t W B6 x [.int .i64 k, .int .u64 n, .string s, .slice A6 m c6] ∧
    (∀ b, B5 b → w5.heap.size ≤ b ∧ b < W.heap.size ∧ b ≠ g5 ∧ b ≠ g6 ∧ ¬ B6 b) ∧ (∀ b, B6 b → w5.heap.size ≤ b ∧ b < W.heap.size) ∧ w5.heap.size ≤ g5 ∧ w5.heap.size ≤ g6 ∧ g5 ≠ g6 ∧ Fr (fun _ => False) w5 W
theorem two_mk {t : TypeId} {w5 wa wb W : World} {x : It} {k : Int} {n : Nat} {s : ByteArray} {m g5 g6 c5 c6 l5 u5 l6 u6 : Nat} {A5 A6 : Option Addr}
    (p5 : CpAt t wa (fun b => l5 ≤ b ∧ b < u5) x [.int .i64 k, .int .u64 n, .string s, .slice A5 m c5]) (p6 : CpAt t wb (fun b => l6 ≤ b ∧ b < u6) x [.int .i64 k, .int .u64 n, .string s, .slice A6 m c6])
    (hh : Blk W g5 t #[.int .i64 k, .int .u64 n, .string s, .slice A5 m c5] ∧ Blk W g6 t #[.int .i64 k, .int .u64 n, .string s, .slice A6 m c6])
    (f5 : Fr (fun b => b = g5 ∨ b = g6) wa W) (f6 : Fr (fun b => b = g5 ∨ b = g6) wb W) (hf : Fr (fun b => b = g5 ∨ b = g6) w5 W)
    (e : w5.heap.size ≤ g5 ∧ w5.heap.size ≤ g6 ∧ g5 ≠ g6 ∧ w5.heap.size ≤ l5 ∧ u5 ≤ l6 ∧ l5 ≤ u5 ∧ u5 ≤ wa.heap.size ∧ u6 ≤ wb.heap.size ∧ (g5 < l5 ∨ u5 ≤ g5) ∧ (g6 < l5 ∨ u5 ≤ g6) ∧ (g5 < l6 ∨ u6 ≤ g5) ∧ (g6 < l6 ∨ u6 ≤ g6)) :
    Two t w5 x k n s m (.pointer (some ⟨g5, 0, none⟩)) (.pointer (some ⟨g6, 0, none⟩)) W := by
  obtain ⟨e1, e2, e3, e4, e5, e6, e7, e8, e9, e10, e11, e12⟩ := e
  obtain ⟨h5, h6⟩ := hh
  have z5 := f5.size
  have z6 := f6.size
  refine ⟨g5, g6, A5, A6, c5, c6, _, _, rfl, rfl, h5, h6, CpAt.fr f5 (fun b hb h => by have h1 := hb.1; have h2 := hb.2; omega) _ _ p5, CpAt.fr f6 (fun b hb h => by have h1 := hb.1; have h2 := hb.2; omega) _ _ p6, fun b hb => ⟨by omega, by omega, by omega, by omega, fun h => by omega⟩, fun b hb => ⟨by omega, by omega⟩, e1, e2, e3, ?_⟩
  refine ⟨hf.os, hf.tape, hf.output, hf.size, fun b hb _ => hf.block b hb (by omega)⟩
section
variable {W : World} {t : TypeId} {g g' : Nat} {z0 z1 z2 z3 a b c d : Value} {cs : Array Value}
theorem blk_new1 (W : World) (o : Obj) (cs : Array Value) (t : TypeId) : Blk ((W.alloc o).alloc (.cells cs t)) (W.heap.size + 1) t cs := by
  have := Blk.new (W.alloc o) t cs
  rwa [World.size_alloc] at this
theorem blk_sets (h : Blk W g t #[z0, z1, z2, z3]) : Blk ((((W.setCell ⟨g, 0, none⟩ a).setCell ⟨g, 1, none⟩ b).setCell ⟨g, 2, none⟩ c).setCell ⟨g, 3, none⟩ d) g t #[a, b, c, d] := by
  have := (((h.set_ 0 a).set_ 1 b).set_ 2 c).set_ 3 d
  simpa using this
theorem blk_fars (h : Blk W g t cs) (hn : g ≠ g') : Blk ((((W.setCell ⟨g', 0, none⟩ a).setCell ⟨g', 1, none⟩ b).setCell ⟨g', 2, none⟩ c).setCell ⟨g', 3, none⟩ d) g t cs := (((h.far hn a).far hn b).far hn c).far hn d
theorem sh1 (W : World) (a b : Array Value) (t : TypeId) : Blk ((W.alloc (.cells a t)).alloc (.cells b t)) W.heap.size t a ∧ Blk ((W.alloc (.cells a t)).alloc (.cells b t)) (W.heap.size + 1) t b := ⟨(Blk.new W t a).alloc _, blk_new1 W _ b t⟩
theorem sh1' (W : World) (a b : Array Value) (t : TypeId) : Blk ((W.alloc (.cells a t)).alloc (.cells b t)) (W.heap.size + 1) t b ∧ Blk ((W.alloc (.cells a t)).alloc (.cells b t)) W.heap.size t a := ⟨blk_new1 W _ b t, (Blk.new W t a).alloc _⟩
theorem sh2 (h : Blk W g t #[z0, z1, z2, z3]) : Blk (((((W.alloc (.cells cs t)).setCell ⟨g, 0, none⟩ a).setCell ⟨g, 1, none⟩ b).setCell ⟨g, 2, none⟩ c).setCell ⟨g, 3, none⟩ d) W.heap.size t cs ∧ Blk (((((W.alloc (.cells cs t)).setCell ⟨g, 0, none⟩ a).setCell ⟨g, 1, none⟩ b).setCell ⟨g, 2, none⟩ c).setCell ⟨g, 3, none⟩ d) g t #[a, b, c, d] :=
  ⟨blk_fars (Blk.new W t cs) (Nat.ne_of_gt h.lt), blk_sets (h.alloc _)⟩
theorem sh3 {a' b' c' d' y0 y1 y2 y3 : Value} (h : Blk W g t #[z0, z1, z2, z3]) : Blk (((((((((W.alloc (.cells #[y0, y1, y2, y3] t)).setCell ⟨g, 0, none⟩ a).setCell ⟨g, 1, none⟩ b).setCell ⟨g, 2, none⟩ c).setCell ⟨g, 3, none⟩ d).setCell ⟨W.heap.size, 0, none⟩ a').setCell ⟨W.heap.size, 1, none⟩ b').setCell ⟨W.heap.size, 2, none⟩ c').setCell ⟨W.heap.size, 3, none⟩ d') g t #[a, b, c, d] ∧
    Blk (((((((((W.alloc (.cells #[y0, y1, y2, y3] t)).setCell ⟨g, 0, none⟩ a).setCell ⟨g, 1, none⟩ b).setCell ⟨g, 2, none⟩ c).setCell ⟨g, 3, none⟩ d).setCell ⟨W.heap.size, 0, none⟩ a').setCell ⟨W.heap.size, 1, none⟩ b').setCell ⟨W.heap.size, 2, none⟩ c').setCell ⟨W.heap.size, 3, none⟩ d') W.heap.size t #[a', b', c', d'] :=
  ⟨blk_fars (blk_sets (h.alloc _)) (Nat.ne_of_lt h.lt), blk_sets (blk_fars (Blk.new W t _) (Nat.ne_of_gt h.lt))⟩
theorem sh4 {a' b' c' d' y0 y1 y2 y3 : Value} (h : Blk W g t #[z0, z1, z2, z3]) (h' : Blk W g' t #[y0, y1, y2, y3]) (hn : g ≠ g') : Blk ((((((((W.setCell ⟨g, 0, none⟩ a).setCell ⟨g, 1, none⟩ b).setCell ⟨g, 2, none⟩ c).setCell ⟨g, 3, none⟩ d).setCell ⟨g', 0, none⟩ a').setCell ⟨g', 1, none⟩ b').setCell ⟨g', 2, none⟩ c').setCell ⟨g', 3, none⟩ d') g t #[a, b, c, d] ∧
    Blk ((((((((W.setCell ⟨g, 0, none⟩ a).setCell ⟨g, 1, none⟩ b).setCell ⟨g, 2, none⟩ c).setCell ⟨g, 3, none⟩ d).setCell ⟨g', 0, none⟩ a').setCell ⟨g', 1, none⟩ b').setCell ⟨g', 2, none⟩ c').setCell ⟨g', 3, none⟩ d') g' t #[a', b', c', d'] :=
  ⟨blk_fars (blk_sets h) hn, blk_sets (blk_fars h' (Ne.symm hn))⟩
theorem fr_sets {S : Nat → Prop} {w0 : World} (h : Fr S w0 W) (hg : S g) : Fr S w0 ((((W.setCell ⟨g, 0, none⟩ a).setCell ⟨g, 1, none⟩ b).setCell ⟨g, 2, none⟩ c).setCell ⟨g, 3, none⟩ d) := (((h.setCell (.inl hg) a).setCell (.inl hg) b).setCell (.inl hg) c).setCell (.inl hg) d
end
end Go.Proofs.YtkmgiodhaaajjaaDoor.ItemZa
