/- Data items in memory. No program is named here. -/
import Derived.Test.YtkmgiodhaaajjaaDoorItemP
import Derived.Test.YtkmgiodhaaajjaaDoorOwn
set_option linter.unusedVariables false
set_option linter.unusedSimpArgs false
namespace Go.Proofs.YtkmgiodhaaajjaaDoor.ItemM
open Go.RowKit Go.Proofs.YtkmgiodhaaajjaaDoor.Mem Go.Proofs.YtkmgiodhaaajjaaDoor.ItemP Go.Proofs.YtkmgiodhaaajjaaDoor.Own

mutual
/-- Four cells read as an item, whose lists lie in blocks from lo to hi. -/
def ItAt (w : World) (lo hi : Nat) : It → List Value → Prop
  | .mk k n s l, cs => ∃ A c, cs = [.int .i64 k, .int .u64 n, .string s, .slice A l.length c] ∧ l.length ≤ c ∧ (-9223372036854775808 ≤ k ∧ k ≤ 9223372036854775807) ∧ n < 18446744073709551616 ∧ s.size ≤ 140737488355328 ∧ l.length ≤ 140737488355328 ∧ ItsAt w lo hi l A 0
/-- From the i-th element on a row reads as these items. -/
def ItsAt (w : World) (lo hi : Nat) : List It → Option Addr → Nat → Prop
  | [], _, _ => True
  | x :: l, A, i => (∃ ad cs, A = some ad ∧ lo ≤ ad.block ∧ ad.block < hi ∧ (∀ j, j < 4 → w.cell? (ad.add (i * 4 + j)) = cs[j]?) ∧ ItAt w lo hi x cs) ∧ ItsAt w lo hi l A (i + 1)
end
mutual
theorem ItAt.on {w w' : World} {lo hi : Nat} (hb : ∀ b, lo ≤ b → b < hi → w'.heap[b]? = w.heap[b]?) : ∀ (x : It) (cs : List Value), ItAt w lo hi x cs → ItAt w' lo hi x cs
  | .mk k n s l, cs, h => by
    obtain ⟨A, c, h1, h2, h3, h4, h5, h6, h7⟩ := h
    exact ⟨A, c, h1, h2, h3, h4, h5, h6, ItsAt.on hb l A 0 h7⟩
theorem ItsAt.on {w w' : World} {lo hi : Nat} (hb : ∀ b, lo ≤ b → b < hi → w'.heap[b]? = w.heap[b]?) : ∀ (l : List It) (A : Option Addr) (i : Nat), ItsAt w lo hi l A i → ItsAt w' lo hi l A i
  | [], _, _, _ => trivial
  | x :: l, A, i, ⟨⟨ad, cs, h1, h2, h3, h4, h5⟩, h6⟩ => by
    refine ⟨⟨ad, cs, h1, h2, h3, fun j hj => ?_, ItAt.on hb x cs h5⟩, ItsAt.on hb l A (i + 1) h6⟩
    rw [← h4 j hj]
    exact World.cell?_of_block (by rw [block_of_add]; exact hb _ h2 h3)
end
mutual
theorem ItAt.wide {w : World} {lo hi lo' hi' : Nat} (h1 : lo' ≤ lo) (h2 : hi ≤ hi') : ∀ (x : It) (cs : List Value), ItAt w lo hi x cs → ItAt w lo' hi' x cs
  | .mk k n s l, cs, h => by
    obtain ⟨A, c, g1, g2, g3, g4, g5, g6, g7⟩ := h
    exact ⟨A, c, g1, g2, g3, g4, g5, g6, ItsAt.wide h1 h2 l A 0 g7⟩
theorem ItsAt.wide {w : World} {lo hi lo' hi' : Nat} (h1 : lo' ≤ lo) (h2 : hi ≤ hi') : ∀ (l : List It) (A : Option Addr) (i : Nat), ItsAt w lo hi l A i → ItsAt w lo' hi' l A i
  | [], _, _, _ => trivial
  | x :: l, A, i, ⟨⟨ad, cs, g1, g2, g3, g4, g5⟩, g6⟩ => ⟨⟨ad, cs, g1, Nat.le_trans h1 g2, Nat.lt_of_lt_of_le g3 h2, g4, ItAt.wide h1 h2 x cs g5⟩, ItsAt.wide h1 h2 l A (i + 1) g6⟩
end
theorem ItAt.fr {w w' : World} {lo hi : Nat} {x : It} {cs : List Value} {S : Nat → Prop} (h : ItAt w lo hi x cs) (hf : Fr S w w') (hh : hi ≤ w.heap.size) (hS : ∀ b, lo ≤ b → b < hi → ¬ S b) : ItAt w' lo hi x cs :=
  ItAt.on (fun b h1 h2 => hf.block b (by omega) (hS b h1 h2)) x cs h
theorem ItAt.fr0 {w w' : World} {lo hi : Nat} {x : It} {cs : List Value} (h : ItAt w lo hi x cs) (hf : Fr (fun _ => False) w w') (hh : hi ≤ w.heap.size) : ItAt w' lo hi x cs := h.fr hf hh (fun _ _ _ h => h)
theorem ItsAt.fr0 {w w' : World} {lo hi : Nat} {l : List It} {A : Option Addr} {i : Nat} (h : ItsAt w lo hi l A i) (hf : Fr (fun _ => False) w w') (hh : hi ≤ w.heap.size) : ItsAt w' lo hi l A i :=
  ItsAt.on (fun b h1 h2 => hf.block b (by omega) (fun h => h)) l A i h
theorem ItsAt.get {w : World} {lo hi : Nat} : ∀ (l : List It) (A : Option Addr) (i j : Nat) (h : j < l.length), ItsAt w lo hi l A i → ∃ ad cs, A = some ad ∧ lo ≤ ad.block ∧ ad.block < hi ∧ (∀ m, m < 4 → w.cell? (ad.add ((i + j) * 4 + m)) = cs[m]?) ∧ ItAt w lo hi l[j] cs
  | x :: l, A, i, 0, _, ⟨h, _⟩ => h
  | x :: l, A, i, j + 1, hj, ⟨_, h⟩ => by
    have := ItsAt.get l A (i + 1) j (by simpa using hj) h
    rw [show i + (j + 1) = i + 1 + j by omega]
    exact this
/-- The cells of an item, told apart. -/
def itC (k : Int) (n : Nat) (s : ByteArray) (A : Option Addr) (len c : Nat) : Array Value := #[.int .i64 k, .int .u64 n, .string s, .slice A len c]
theorem add_lit (ad : Addr) (i m : Nat) (hm : 0 < m) : ad.add (i + m) = ⟨(ad.add i).block, (ad.add i).off + m, none⟩ := by
  rw [← add_of_add ad i m]
  unfold Addr.add
  rw [if_neg (by omega)]
/-- The j-th item of a list. -/
theorem ItsAt.kid {w : World} {lo hi : Nat} {l : List It} {A : Option Addr} (h : ItsAt w lo hi l A 0) (j : Nat) (hj : j < l.length) :
    ∃ (ad : Addr) (k : Int) (n : Nat) (s : ByteArray) (l' : List It) (A' : Option Addr) (c : Nat), A = some ad ∧ lo ≤ ad.block ∧ ad.block < hi ∧ l[j] = .mk k n s l' ∧
      w.cell? (ad.add (j * 4)) = some (.int .i64 k) ∧ w.cell? ⟨(ad.add (j * 4)).block, (ad.add (j * 4)).off + 1, none⟩ = some (.int .u64 n) ∧ w.cell? ⟨(ad.add (j * 4)).block, (ad.add (j * 4)).off + 2, none⟩ = some (.string s) ∧ w.cell? ⟨(ad.add (j * 4)).block, (ad.add (j * 4)).off + 3, none⟩ = some (.slice A' l'.length c) ∧
      ItAt w lo hi (.mk k n s l') [.int .i64 k, .int .u64 n, .string s, .slice A' l'.length c] := by
  obtain ⟨ad, cs, h1, h2, h3, h4, h5⟩ := ItsAt.get l A 0 j hj h
  rw [Nat.zero_add] at h4
  obtain ⟨k, n, s, l', hx⟩ : ∃ k n s l', l[j] = .mk k n s l' := ⟨_, _, _, _, It.eta _⟩
  rw [hx] at h5
  have h5' := h5
  obtain ⟨A', c, rfl, _⟩ := h5
  exact ⟨ad, k, n, s, l', A', c, h1, h2, h3, hx, h4 0 (by omega), (add_lit ad _ 1 (by omega)) ▸ h4 1 (by omega), (add_lit ad _ 2 (by omega)) ▸ h4 2 (by omega), (add_lit ad _ 3 (by omega)) ▸ h4 3 (by omega), h5'⟩
/-- Cells of items, as cells. -/
theorem its_snoc {w : World} {lo hi : Nat} : ∀ (l : List It) (x : It) (A : Option Addr) (i : Nat) (h1 : ItsAt w lo hi l A i) (h2 : ∃ ad cs, A = some ad ∧ lo ≤ ad.block ∧ ad.block < hi ∧ (∀ j, j < 4 → w.cell? (ad.add ((i + l.length) * 4 + j)) = cs[j]?) ∧ ItAt w lo hi x cs), ItsAt w lo hi (l ++ [x]) A i
  | [], x, A, i, _, h2 => ⟨by simpa using h2, trivial⟩
  | y :: l, x, A, i, ⟨h0, h1⟩, h2 => ⟨h0, its_snoc l x A (i + 1) h1 (by
      rw [show i + 1 + l.length = i + (y :: l).length by simp; omega]
      exact h2)⟩
end Go.Proofs.YtkmgiodhaaajjaaDoor.ItemM
