/- Ranges over functions: what a round keeps. No program is named here. -/
import Derived.RangeFuncNested
import Derived.RangeFuncBound
import Derived.RangeFuncCalls
import Derived.RangeFuncLeaves
import Derived.Shelf.Abstract
import Derived.Shelf.RegionOpen
import Derived.WalkKit
import Derived.OwnWalkIn
import Derived.TacticsInMore
import Derived.LoopNIn
import Derived.LoopIn
import Derived.Test.YtkmgiodhaaajjaaDoorItemM
set_option linter.unusedVariables false
set_option linter.unusedSimpArgs false
namespace Go.Proofs.YtkmgiodhaaajjaaDoor.Range
open Go Go.RowKit Go.Proofs.YtkmgiodhaaajjaaDoor.Mem Go.Proofs.YtkmgiodhaaajjaaDoor.ItemP Go.Proofs.YtkmgiodhaaajjaaDoor.ItemM

/-- Blocks of cells outside S lie as they lay. -/
structure Kc (S : Nat → Prop) (A B : World) : Prop where
  size : A.heap.size ≤ B.heap.size
  same : ∀ k o, A.heap[k]? = some o → o.isCells = true → ¬ S k → B.heap[k]? = some o
section
variable {S : Nat → Prop} {A B C W W' : World}
theorem lt_of_heap {k : Nat} {o : Obj} (h : A.heap[k]? = some o) : k < A.heap.size := (Array.getElem?_eq_some_iff.1 h).1
theorem Kc.refl (S : Nat → Prop) (A : World) : Kc S A A := ⟨Nat.le_refl _, fun _ _ h _ _ => h⟩
theorem Kc.trans (h : Kc S A B) (k : Kc S B C) : Kc S A C := ⟨Nat.le_trans h.size k.size, fun i o hi ho hs => k.same i o (h.same i o hi ho hs) ho hs⟩
theorem Kc.grown (h : W.grownBy W' none) : Kc S W W' := ⟨h.size, fun k o hk _ _ => (h.block k (lt_of_heap hk) (by simp)).trans hk⟩
theorem Kc.alloc (W : World) (o : Obj) : Kc S W (W.alloc o) := ⟨by simp, fun k o' hk _ _ => (Below.heap_alloc W o k (lt_of_heap hk)).trans hk⟩
theorem Kc.fr (h : Fr S W W') : Kc S W W' := ⟨h.size, fun k o hk _ hs => (h.block k (lt_of_heap hk) hs).trans hk⟩
theorem Kc.put {l : Nat} {o : Obj} (o' : Obj) (hl : W.heap[l]? = some o) (ho : o.isCells = false) : Kc S W (W.putObj l o') := ⟨by simp, fun k o2 hk h2 _ => by
  by_cases e : k = l
  · subst e; rw [hl] at hk; cases hk; rw [ho] at h2; cases h2
  · exact (World.putObj_heap_other e).trans hk⟩
theorem Kc.set (W : World) {p : Addr} (hp : S p.block) (u : Value) : Kc S W (W.setCell p u) := ⟨by simp [World.setCell], fun k o hk _ hs => (Below.heap_setCell W p u k (fun e => hs (e ▸ hp))).trans hk⟩
theorem Kc.blk {g : Nat} {t : TypeId} {cs : Array Value} (h : Kc S A B) (hb : Blk A g t cs) (hs : ¬ S g) : Blk B g t cs := h.same g _ hb rfl hs
theorem Kc.cell {p : Addr} {v : Value} (h : Kc S A B) (hc : A.cell? p = some v) (hs : ¬ S p.block) : B.cell? p = some v := by
  obtain ⟨o, ho, hk⟩ := cells_of_cell hc
  rw [← hc]
  exact World.cell?_of_block ((h.same _ o ho hk hs).trans ho.symm)
end
theorem grown_of_fr {W W' : World} (h : Fr (fun _ => False) W W') : W.grownBy W' none := ⟨h.os, h.tape, h.output, h.size, fun k hk _ => h.block k hk (fun h => h)⟩

mutual
theorem ItAt.kc {S : Nat → Prop} {w w' : World} {lo hi : Nat} (hk : Kc S w w') (hS : ∀ b, lo ≤ b → b < hi → ¬ S b) : ∀ (x : It) (cs : List Value), ItAt w lo hi x cs → ItAt w' lo hi x cs
  | .mk k n s l, cs, h => by
    obtain ⟨A, c, h1, h2, h3, h4, h5, h6, h7⟩ := h
    exact ⟨A, c, h1, h2, h3, h4, h5, h6, ItsAt.kc hk hS l A 0 h7⟩
theorem ItsAt.kc {S : Nat → Prop} {w w' : World} {lo hi : Nat} (hk : Kc S w w') (hS : ∀ b, lo ≤ b → b < hi → ¬ S b) : ∀ (l : List It) (A : Option Addr) (i : Nat), ItsAt w lo hi l A i → ItsAt w' lo hi l A i
  | [], _, _, _ => trivial
  | x :: l, A, i, ⟨⟨ad, cs, h1, h2, h3, h4, h5⟩, h6⟩ => by
    refine ⟨⟨ad, cs, h1, h2, h3, fun j hj => ?_, ItAt.kc hk hS x cs h5⟩, ItsAt.kc hk hS l A (i + 1) h6⟩
    have hlen : cs.length = 4 := by
      obtain ⟨k, n, s, l'⟩ := x
      obtain ⟨A', c', rfl, _⟩ := h5
      rfl
    have h := h4 j hj
    rw [List.getElem?_eq_getElem (by omega)] at h ⊢
    exact hk.cell h (by rw [block_of_add]; exact hS _ h2 h3)
end

/-- AN ITERATOR THAT CALLS yield FROM ANY DEPTH: the figures are all one where no depth is asked. -/
theorem room_none {F : Fence} (hd : F.depth = none) (k : Nat) : F.room k := fun d h => by rw [hd] at h; cases h
theorem RoundIn.any {F : Fence} (hd : F.depth = none) {m m' : Nat} {P : Program} {l : Nat} {f : FuncId} {tmps : Array Value} {assign body : Code} {w : World} {R : Ending → World → Prop}
    (h : RoundIn F m P l f tmps assign body w R) : RoundIn F m' P l f tmps assign body w R := ⟨h.1, fun c cs _ => h.2 c cs (room_none hd _)⟩
theorem YieldAt.any {F : Fence} (hd : F.depth = none) {m : Nat} (m' : Nat) {P : Program} {l : Nat} {args : Array Value} {W : World} {R : Ending → World → Prop} (h : YieldAt F m P l args W R) : YieldAt F m' P l args W R := by
  obtain ⟨fn, tmps, assign, body, hy, hR⟩ := h
  exact ⟨fn, tmps, assign, body, hy, RoundIn.any hd hR⟩

/-- What a range over an item hands on: an item, its depth, its cells. -/
abbrev Vis (w0 : World) (lo hi M : Nat) := { v : It × Nat × List Value // ItAt w0 lo hi v.1 v.2.2 ∧ v.1.size ≤ M }
def vis {w0 : World} {lo hi M : Nat} (x : It) (d : Nat) (cs : List Value) (h : ItAt w0 lo hi x cs) (hz : x.size ≤ M) : Vis w0 lo hi M := ⟨(x, d, cs), h, hz⟩
def prs {w0 : World} {lo hi M : Nat} (l : List (Vis w0 lo hi M)) : List (It × Nat) := l.map fun v => (v.1.1, v.1.2.1)
theorem prs_append {w0 : World} {lo hi M : Nat} (a b : List (Vis w0 lo hi M)) : prs (a ++ b) = prs a ++ prs b := by simp [prs]
theorem prs_length {w0 : World} {lo hi M : Nat} (a : List (Vis w0 lo hi M)) : (prs a).length = a.length := by simp [prs]
def visE {w0 : World} {lo hi M : Nat} (v : Vis w0 lo hi M) : Array Value := #[.int .i64 v.1.2.1, .agg v.1.2.2.toArray]
end Go.Proofs.YtkmgiodhaaajjaaDoor.Range
