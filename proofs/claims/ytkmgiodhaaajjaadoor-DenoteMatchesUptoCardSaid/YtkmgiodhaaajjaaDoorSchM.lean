/- Schemas: the plain law. No program is named here. Schemas in memory. No program is named here. -/
import Derived.Test.YtkmgiodhaaajjaaDoorItemP
import Derived.Test.YtkmgiodhaaajjaaDoorItemM
import Derived.Test.YtkmgiodhaaajjaaDoorApp
set_option linter.unusedVariables false
set_option linter.unusedSimpArgs false
namespace Go.Proofs.YtkmgiodhaaajjaaDoor.SchP
open Go.RowKit Go.Proofs.YtkmgiodhaaajjaaDoor.Mem Go.Proofs.YtkmgiodhaaajjaaDoor.UtfP Go.Proofs.YtkmgiodhaaajjaaDoor.ItemP

/-- A field: its key, its node, may it lack? -/
structure Fld where
  key : ByteArray
  node : Int
  opt : Bool
deriving DecidableEq
/-- A node: its kind, its bounds, its literal, the nodes that it names, its fields. -/
structure Nod where
  k : Int
  lo : Int
  hi : Int
  v : It
  l : List Int
  f : List Fld
deriving DecidableEq

def noIt : It := .mk 0 0 { data := #[] } []
def Nod.named (n : Nod) : List Int := n.l ++ n.f.map Fld.node
/-- The node with the fields of its kind alone. -/
def Nod.bare (n : Nod) : Nod :=
  if n.k = 4 then ⟨n.k, 0, 0, n.v, [], []⟩
  else if n.k = 8 then ⟨n.k, 0, 0, noIt, [], n.f⟩
  else if n.k = 7 ∨ n.k = 10 then ⟨n.k, 0, 0, noIt, n.l, []⟩
  else if n.k = 9 then ⟨n.k, n.lo, 0, noIt, n.l, []⟩
  else if n.k = 6 then ⟨n.k, n.lo, n.hi, noIt, n.l, []⟩
  else if n.k = 1 ∨ n.k = 2 ∨ n.k = 3 then ⟨n.k, n.lo, n.hi, noIt, [], []⟩
  else ⟨n.k, 0, 0, noIt, [], []⟩
/-- Has it as many nodes as it has to? Is its literal one that may be? -/
noncomputable def Nod.ok (n : Nod) : Bool :=
  if n.k = 4 then decide (n.l.length = 0) && decide (n.v.k ≠ 4 ∧ n.v.k ≠ 5 ∧ n.v.k ≠ 6 ∧ n.v.k ≠ 8) && decide (n.v.check = 0)
  else if n.k = 7 then true
  else if n.k = 10 then decide (0 < n.l.length)
  else if n.k = 9 ∨ n.k = 6 then decide (n.l.length = 1)
  else decide (n.l.length = 0)
noncomputable def Nod.formB (n : Nod) : Bool := n.ok && decide (n.bare = n)
def Nod.bounds (n : Nod) : Bool := (decide (n.lo ≤ n.hi) && (decide (n.k = 1) || decide (0 ≤ n.lo))) || (decide (n.k = 9) && decide (0 ≤ n.lo))
/-- What is wrong with keys, those ahead being seen. -/
def keysE : List ByteArray → List Fld → Int
  | _, [] => 0
  | seen, f :: l => if validS f.key = false then 6 else if 1021 < f.key.size then 4 else if seen.any (fun s => decide (s = f.key)) = true then 14 else keysE (seen ++ [f.key]) l
def badN (i m : Nat) (k : Int) : Bool := decide (k ≤ (i : Int)) || decide ((m : Int) ≤ k)
/-- What is wrong with node i of m. -/
noncomputable def Nod.wrong (n : Nod) (i m : Nat) : Int :=
  if n.k < 0 ∨ 10 < n.k then 18
  else if n.formB = false then 11
  else if n.bounds = false then 15
  else if keysE [] n.f ≠ 0 then keysE [] n.f
  else if n.named.any (badN i m) then 13
  else 0
noncomputable def checkFrom : List Nod → Nat → Nat → Int × Int
  | [], _, _ => (0, 0)
  | n :: l, i, m => if n.wrong i m ≠ 0 then ((i : Int), n.wrong i m) else checkFrom l (i + 1) m
/-- Whether a schema is well-formed: a node, an error's number. -/
noncomputable def checkS (l : List Nod) : Int × Int := if l.length < 1 ∨ 256 < l.length then (0, 16) else checkFrom l 0 l.length

theorem keysE_bd (l : List Fld) : ∀ seen, 0 ≤ keysE seen l ∧ keysE seen l ≤ 14 := by
  induction l with
  | nil => intro seen; simp [keysE]
  | cons f l ih =>
    intro seen
    have := ih (seen ++ [f.key])
    unfold keysE
    split
    · omega
    · split
      · omega
      · split
        · omega
        · exact this
theorem wrong_bd (n : Nod) (i m : Nat) : 0 ≤ n.wrong i m ∧ n.wrong i m ≤ 18 := by
  have := keysE_bd n.f []
  unfold Nod.wrong
  split
  · omega
  · split
    · omega
    · split
      · omega
      · split
        · omega
        · split <;> omega
/-- From a node on. -/
theorem checkFrom_all (l : List Nod) (i m : Nat) (h : ∀ j (hj : j < l.length), l[j].wrong (i + j) m = 0) : checkFrom l i m = (0, 0) := by
  induction l generalizing i with
  | nil => rfl
  | cons n l ih =>
    have h0 := h 0 (by simp)
    simp at h0
    rw [checkFrom, if_neg (by rw [h0]; simp)]
    exact ih (i + 1) (fun j hj => by
      have := h (j + 1) (by simpa using hj)
      rw [show i + 1 + j = i + (j + 1) by omega]
      simpa using this)
theorem checkFrom_at (l : List Nod) (i m j : Nat) (hj : j < l.length) (h : ∀ k (hk : k < j), l[k].wrong (i + k) m = 0) (hw : l[j].wrong (i + j) m ≠ 0) : checkFrom l i m = (((i + j : Nat) : Int), l[j].wrong (i + j) m) := by
  induction l generalizing i j with
  | nil => simp at hj
  | cons n l ih =>
    cases j with
    | zero =>
      simp at hw
      rw [checkFrom, if_pos hw]
      simp
    | succ j =>
      have h0 := h 0 (by omega)
      simp at h0
      rw [checkFrom, if_neg (by rw [h0]; simp)]
      have := ih (i + 1) j (by simpa using hj) (fun k hk => by
        have := h (k + 1) (by omega)
        rw [show i + 1 + k = i + (k + 1) by omega]
        simpa using this) (by
        rw [show i + 1 + j = i + (j + 1) by omega]
        simpa using hw)
      rw [this]
      simp only [List.getElem_cons_succ, Nat.add_assoc, Nat.add_comm 1 j]
end Go.Proofs.YtkmgiodhaaajjaaDoor.SchP

namespace Go.Proofs.YtkmgiodhaaajjaaDoor.SchM
open Go.RowKit Go.Proofs.YtkmgiodhaaajjaaDoor.Mem Go.Proofs.YtkmgiodhaaajjaaDoor.ItemP Go.Proofs.YtkmgiodhaaajjaaDoor.ItemM Go.Proofs.YtkmgiodhaaajjaaDoor.SchP

/-- A row of fields that is read. -/
def RdF (w : World) (A : Option Addr) (l : List Fld) : Prop :=
  ∀ i (hi : i < l.length), ∃ ad, A = some ad ∧ ad.block < w.heap.size ∧ l[i].key.size ≤ 140737488355328 ∧ (-9223372036854775808 ≤ l[i].node ∧ l[i].node ≤ 9223372036854775807) ∧
    w.cell? (ad.add (i * 3)) = some (.string l[i].key) ∧ w.cell? ⟨(ad.add (i * 3)).block, (ad.add (i * 3)).off + 1, none⟩ = some (.int .i64 l[i].node) ∧ w.cell? ⟨(ad.add (i * 3)).block, (ad.add (i * 3)).off + 2, none⟩ = some (.bool l[i].opt)
theorem RdF.fr0 {w w' : World} {A : Option Addr} {l : List Fld} (h : RdF w A l) (hf : Fr (fun _ => False) w w') : RdF w' A l := fun i hi => by
  obtain ⟨ad, rfl, hb, h1, h2, c0, c1, c2⟩ := h i hi
  have hbk : (ad.add (i * 3)).block < w.heap.size := by rw [block_of_add]; exact hb
  exact ⟨ad, rfl, Nat.lt_of_lt_of_le hb hf.size, h1, h2, (hf.cell hbk (fun h => h)).trans c0, (hf.cell (p := ⟨_, _, none⟩) hbk (fun h => h)).trans c1, (hf.cell (p := ⟨_, _, none⟩) hbk (fun h => h)).trans c2⟩
theorem RdF.nil (w : World) (A : Option Addr) : RdF w A [] := fun i hi => by simp at hi
theorem rdI_nil (k : IntKind) (w : World) (A : Option Addr) : RdI k w A [] := fun i hi => by simp at hi

/-- The rows behind a node's cells: of its literal, of the nodes that it names, of its fields. -/
structure NdR (w : World) (h : Nat) (n : Nod) (Av : Option Addr) (cv : Nat) (Al : Option Addr) (cl : Nat) (Af : Option Addr) (cf : Nat) : Prop where
  hh : h ≤ w.heap.size
  v : ItAt w 0 h n.v [.int .i64 n.v.k, .int .u64 n.v.n, .string n.v.s, .slice Av n.v.l.length cv]
  l : RdI .i64 w Al n.l
  f : RdF w Af n.f
  lc : n.l.length ≤ cl
  fc : n.f.length ≤ cf
  lm : n.l.length ≤ 1048576
  fm : n.f.length ≤ 1048576
  vm : n.v.size ≤ 1048576
  kr : -9223372036854775808 ≤ n.k ∧ n.k ≤ 9223372036854775807
  lor : -9223372036854775808 ≤ n.lo ∧ n.lo ≤ 9223372036854775807
  hir : -9223372036854775808 ≤ n.hi ∧ n.hi ≤ 9223372036854775807
  ln : ∀ x ∈ n.l, -9223372036854775808 ≤ x ∧ x ≤ 9223372036854775807
theorem NdR.fr0 {w w' : World} {h : Nat} {n : Nod} {Av Al Af : Option Addr} {cv cl cf : Nat} (H : NdR w h n Av cv Al cl Af cf) (hf : Fr (fun _ => False) w w') : NdR w' h n Av cv Al cl Af cf :=
  ⟨Nat.le_trans H.hh hf.size, H.v.fr0 hf H.hh, H.l.fr0 hf, H.f.fr0 hf, H.lc, H.fc, H.lm, H.fm, H.vm, H.kr, H.lor, H.hir, H.ln⟩
/-- The nine cells of a node. -/
def ndC (n : Nod) (Av : Option Addr) (cv : Nat) (Al : Option Addr) (cl : Nat) (Af : Option Addr) (cf : Nat) : Array Value :=
  #[.int .i64 n.k, .int .i64 n.lo, .int .i64 n.hi, .int .i64 n.v.k, .int .u64 n.v.n, .string n.v.s, .slice Av n.v.l.length cv, .slice Al n.l.length cl, .slice Af n.f.length cf]
theorem ndC_eq (n : Nod) (Av : Option Addr) (cv : Nat) (Al : Option Addr) (cl : Nat) (Af : Option Addr) (cf : Nat) : ndC n Av cv Al cl Af cf =
  #[.int .i64 n.k, .int .i64 n.lo, .int .i64 n.hi, .int .i64 n.v.k, .int .u64 n.v.n, .string n.v.s, .slice Av n.v.l.length cv, .slice Al n.l.length cl, .slice Af n.f.length cf] := rfl
/-- A row of nodes that is read. -/
def RdN (w : World) (h : Nat) (A : Option Addr) (l : List Nod) : Prop :=
  ∀ i (hi : i < l.length), ∃ ad Av cv Al cl Af cf, A = some ad ∧ ad.block < w.heap.size ∧ (∀ j, j < 9 → w.cell? (ad.add (i * 9 + j)) = (ndC l[i] Av cv Al cl Af cf)[j]?) ∧ NdR w h l[i] Av cv Al cl Af cf
theorem RdN.fr0 {w w' : World} {h : Nat} {A : Option Addr} {l : List Nod} (H : RdN w h A l) (hf : Fr (fun _ => False) w w') : RdN w' h A l := fun i hi => by
  obtain ⟨ad, Av, cv, Al, cl, Af, cf, rfl, hb, hc, hr⟩ := H i hi
  exact ⟨ad, Av, cv, Al, cl, Af, cf, rfl, Nat.lt_of_lt_of_le hb hf.size, fun j hj => (hf.cell (by rw [block_of_add]; exact hb) (fun h => h)).trans (hc j hj), hr.fr0 hf⟩
theorem add_lit9 (ad : Addr) (i m : Nat) (hm : 0 < m) : ad.add (i + m) = ⟨(ad.add i).block, (ad.add i).off + m, none⟩ := add_lit ad i m hm
/-- Nine cells in a row, told apart. -/
def Nine (w : World) (g o : Nat) (a0 : Addr) (n : Nod) (Av : Option Addr) (cv : Nat) (Al : Option Addr) (cl : Nat) (Af : Option Addr) (cf : Nat) : Prop :=
  w.cell? a0 = some (.int .i64 n.k) ∧ w.cell? ⟨g, o + 1, none⟩ = some (.int .i64 n.lo) ∧ w.cell? ⟨g, o + 2, none⟩ = some (.int .i64 n.hi) ∧ w.cell? ⟨g, o + 3, none⟩ = some (.int .i64 n.v.k) ∧ w.cell? ⟨g, o + 4, none⟩ = some (.int .u64 n.v.n) ∧ w.cell? ⟨g, o + 5, none⟩ = some (.string n.v.s) ∧
    w.cell? ⟨g, o + 6, none⟩ = some (.slice Av n.v.l.length cv) ∧ w.cell? ⟨g, o + 7, none⟩ = some (.slice Al n.l.length cl) ∧ w.cell? ⟨g, o + 8, none⟩ = some (.slice Af n.f.length cf)
theorem RdN.at_ {w : World} {h : Nat} {A : Option Addr} {l : List Nod} (H : RdN w h A l) (i : Nat) (hi : i < l.length) :
    ∃ ad Av cv Al cl Af cf, A = some ad ∧ ad.block < w.heap.size ∧ Nine w (ad.add (i * 9)).block (ad.add (i * 9)).off (ad.add (i * 9)) l[i] Av cv Al cl Af cf ∧ NdR w h l[i] Av cv Al cl Af cf := by
  obtain ⟨ad, Av, cv, Al, cl, Af, cf, hA, hb, hc, hr⟩ := H i hi
  refine ⟨ad, Av, cv, Al, cl, Af, cf, hA, hb, ⟨?_, ?_, ?_, ?_, ?_, ?_, ?_, ?_, ?_⟩, hr⟩
  · exact hc 0 (by omega)
  all_goals rw [← add_lit9 ad (i * 9) _ (by omega)]
  · exact hc 1 (by omega)
  · exact hc 2 (by omega)
  · exact hc 3 (by omega)
  · exact hc 4 (by omega)
  · exact hc 5 (by omega)
  · exact hc 6 (by omega)
  · exact hc 7 (by omega)
  · exact hc 8 (by omega)
/-- A box that holds a node. -/
theorem blk9 {w : World} {g : Nat} {t : TypeId} {a0 a1 a2 a3 a4 a5 a6 a7 a8 : Value} (h : Blk w g t #[a0, a1, a2, a3, a4, a5, a6, a7, a8]) :
    w.cell? ⟨g, 0, none⟩ = some a0 ∧ w.cell? ⟨g, 1, none⟩ = some a1 ∧ w.cell? ⟨g, 2, none⟩ = some a2 ∧ w.cell? ⟨g, 3, none⟩ = some a3 ∧ w.cell? ⟨g, 4, none⟩ = some a4 ∧ w.cell? ⟨g, 5, none⟩ = some a5 ∧ w.cell? ⟨g, 6, none⟩ = some a6 ∧ w.cell? ⟨g, 7, none⟩ = some a7 ∧ w.cell? ⟨g, 8, none⟩ = some a8 := by
  have e0 := h.cell 0
  have e1 := h.cell 1
  have e2 := h.cell 2
  have e3 := h.cell 3
  have e4 := h.cell 4
  have e5 := h.cell 5
  have e6 := h.cell 6
  have e7 := h.cell 7
  have e8 := h.cell 8
  simp at e0 e1 e2 e3 e4 e5 e6 e7 e8
  exact ⟨e0, e1, e2, e3, e4, e5, e6, e7, e8⟩
theorem blk3 {w : World} {g : Nat} {t : TypeId} {a0 a1 a2 : Value} (h : Blk w g t #[a0, a1, a2]) : w.cell? ⟨g, 0, none⟩ = some a0 ∧ w.cell? ⟨g, 1, none⟩ = some a1 ∧ w.cell? ⟨g, 2, none⟩ = some a2 := by
  have e0 := h.cell 0
  have e1 := h.cell 1
  have e2 := h.cell 2
  simp at e0 e1 e2
  exact ⟨e0, e1, e2⟩
theorem blk1 {w : World} {g : Nat} {t : TypeId} {a0 : Value} (h : Blk w g t #[a0]) : w.cell? ⟨g, 0, none⟩ = some a0 ∧ w.frozen? ⟨g, 0, none⟩ = false := by
  have e0 := h.cell 0
  simp at e0
  exact ⟨e0, h.frozen 0⟩
theorem noIt_at (w : World) (h : Nat) : ItAt w 0 h noIt [.int .i64 0, .int .u64 0, .string { data := #[] }, .slice none 0 0] := ⟨none, 0, rfl, by simp, by omega, by omega, by decide, by simp, trivial⟩
end Go.Proofs.YtkmgiodhaaajjaaDoor.SchM
