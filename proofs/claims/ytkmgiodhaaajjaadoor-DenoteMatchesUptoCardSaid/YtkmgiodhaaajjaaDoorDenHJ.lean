/- Layer denote, the document's answer: which nodes an item matches. Layer denote, the document's answer: one node. Layer denote, the document's answer: nodes of the kinds Any, Int, Blob, String, Value, Real. -/
import Derived.Test.YtkmgiodhaaajjaaDoorDenG
import Derived.Test.YtkmgiodhaaajjaaDoorOwn
import Derived.Test.YtkmgiodhaaajjaaDoorItemX
import Derived.Deep.RegionHeld3
import Derived.StillTailTactics
set_option linter.unusedVariables false
set_option linter.unusedSimpArgs false
namespace Go.Proofs.YtkmgiodhaaajjaaDoor.DenH
open Go.IntWalk Go.RowKit Go.Proofs.YtkmgiodhaaajjaaDoor.Mem Go.Proofs.YtkmgiodhaaajjaaDoor.App Go.Proofs.YtkmgiodhaaajjaaDoor.FloatB Go.Proofs.YtkmgiodhaaajjaaDoor.ItemP Go.Proofs.YtkmgiodhaaajjaaDoor.ItemM Go.Proofs.YtkmgiodhaaajjaaDoor.ItemB Go.Proofs.YtkmgiodhaaajjaaDoor.Own Go.Proofs.YtkmgiodhaaajjaaDoor.SchP Go.Proofs.YtkmgiodhaaajjaaDoor.SchM Go.Proofs.YtkmgiodhaaajjaaDoor.SchG Go.Proofs.YtkmgiodhaaajjaaDoor.SchI Go.Proofs.YtkmgiodhaaajjaaDoor.SchJ Go.Proofs.YtkmgiodhaaajjaaDoor.DenP Go.Proofs.YtkmgiodhaaajjaaDoor.DenA Go.Proofs.YtkmgiodhaaajjaaDoor.DenD Go.Proofs.YtkmgiodhaaajjaaDoor.DenF Go.Proofs.YtkmgiodhaaajjaaDoor.DenG

theorem infoBools : (Tryd.prog.info? 73).map (fun i => (i.zero, i.size, i.bytes)) = some (some (.slice none 0 0), 1, 24) := by kernel_rfl
theorem infoBoo : (Tryd.prog.info? 4).map (fun i => (i.zero, i.size, i.bytes)) = some (some (.bool false), 1, 1) := by kernel_rfl
/-- A block of truth values. -/
def BV (w : World) (g M : Nat) (F : Nat → Bool) : Prop := ∃ cs : Array Value, Blk w g 4 cs ∧ cs.size = M ∧ ∀ i, i < M → cs[i]? = some (.bool (F i))
section
variable {w w' : World} {g M : Nat} {F : Nat → Bool}
theorem BV.lt (h : BV w g M F) : g < w.heap.size := by obtain ⟨cs, h1, _⟩ := h; exact h1.lt
theorem BV.cell (h : BV w g M F) (i : Nat) (hi : i < M) : w.cell? ⟨g, i, none⟩ = some (.bool (F i)) := by
  obtain ⟨cs, h1, _, h3⟩ := h
  rw [h1.cell]
  exact h3 i hi
theorem BV.frozen (h : BV w g M F) (i : Nat) : w.frozen? ⟨g, i, none⟩ = false := by obtain ⟨cs, h1, _⟩ := h; exact h1.frozen i
theorem BV.fr {S : Nat → Prop} (h : BV w g M F) (hf : Fr S w w') (hg : ¬ S g) : BV w' g M F := by obtain ⟨cs, h1, h2⟩ := h; exact ⟨cs, h1.fr hf hg, h2⟩
theorem BV.set_ (h : BV w g M F) (i : Nat) (b : Bool) : BV (w.setCell ⟨g, i, none⟩ (.bool b)) g M (fun j => if j = i then b else F j) := by
  obtain ⟨cs, h1, h2, h3⟩ := h
  refine ⟨_, h1.set_ i _, by simpa using h2, fun j hj => ?_⟩
  rw [Array.getElem?_setIfInBounds]
  by_cases h : i = j
  · subst h
    simp [h2, hj]
  · show (if i = j then _ else cs[j]?) = some (.bool (if j = i then b else F j))
    rw [if_neg h, if_neg (fun e : j = i => h e.symm)]
    exact h3 j hj
theorem BV.congr {G : Nat → Bool} (h : BV w g M F) (he : ∀ i, i < M → F i = G i) : BV w g M G := by
  obtain ⟨cs, h1, h2, h3⟩ := h
  exact ⟨cs, h1, h2, fun i hi => by rw [h3 i hi, he i hi]⟩
end
/-- A row of rows, as cells. -/
def rowC (M : Nat) (gs : List Nat) : List Value := gs.map (fun g => Value.slice (some ⟨g, 0, none⟩) M M)

theorem rowC_snoc (M : Nat) (gs : List Nat) (g : Nat) : rowC M gs ++ [Value.slice (some ⟨g, 0, none⟩) M M] = rowC M (gs ++ [g]) := by simp [rowC]
theorem getD_snoc_lt (gs : List Nat) (g : Nat) {k : Nat} (h : k < gs.length) : (gs ++ [g]).getD k 0 = gs.getD k 0 := by
  simp [List.getD_eq_getElem?_getD, List.getElem?_append_left h]
theorem getD_snoc_eq (gs : List Nat) (g : Nat) : (gs ++ [g]).getD gs.length 0 = g := by simp [List.getD_eq_getElem?_getD]
/-- A row of rows, with one more. -/
theorem below_step {wA wr w4 w6 : World} {j c1 c6 M g4 : Nat} {A1 A6 : Option Addr} {gs : List Nat} {F : Nat → Nat → Bool} {o : Obj} (hgs : gs.length = j) (HO : OwnG 73 1 wr wA.heap.size (.slice A1 j c1) j (rowC M gs))
    (HRW : ∀ k, k < j → wA.heap.size ≤ gs.getD k 0 ∧ (Value.slice A1 j c1).ownBlock ≠ some (gs.getD k 0) ∧ BV wr (gs.getD k 0) M (F k)) (HF : Fr (fun _ => False) wA wr)
    (hg4 : wr.heap.size ≤ g4) (hb4 : BV w4 g4 M (F j)) (hf4 : Fr (fun _ => False) wr w4) (h6 : AppdG 73 1 (w4.alloc o) wA.heap.size (.slice A1 j c1) (j + 1) (rowC M gs ++ [Value.slice (some ⟨g4, 0, none⟩) M M]) (.slice A6 (j + 1) c6) w6) :
    (gs ++ [g4]).length = j + 1 ∧ OwnG 73 1 w6 wA.heap.size (.slice A6 (j + 1) c6) (j + 1) (rowC M (gs ++ [g4])) ∧
    (∀ k, k < j + 1 → wA.heap.size ≤ (gs ++ [g4]).getD k 0 ∧ (Value.slice A6 (j + 1) c6).ownBlock ≠ some ((gs ++ [g4]).getD k 0) ∧ BV w6 ((gs ++ [g4]).getD k 0) M (F k)) ∧ Fr (fun _ => False) wA w6 := by
  have hown := HO.lt
  have h4 := hf4.size
  have hwr := HF.size
  have hb4l := hb4.lt
  have hblk := h6.2.2
  rw [World.size_alloc] at hblk
  refine ⟨by simp [hgs], by rw [← rowC_snoc]; exact h6.own, fun k hk => ?_, ?_⟩
  · by_cases h : k < j
    · rw [getD_snoc_lt _ _ (by omega)]
      obtain ⟨e1, e2, e3⟩ := HRW k h
      have e3l := e3.lt
      refine ⟨e1, fun hb => ?_, ((e3.fr hf4 (fun h => h)).fr ((Fr.refl (fun _ => False) w4).alloc o) (fun h => h)).fr h6.fr e2⟩
      rcases hblk with h1 | h1
      · exact e2 (h1 ▸ hb)
      · rw [hb] at h1; injection h1 with h1; omega
    · obtain rfl : k = j := by omega
      rw [← hgs, getD_snoc_eq, hgs]
      refine ⟨by omega, fun hb => ?_, (hb4.fr ((Fr.refl (fun _ => False) w4).alloc o) (fun h => h)).fr h6.fr (fun hb => ?_)⟩
      · rcases hblk with h1 | h1
        · rw [h1] at hb; have := (hown _ hb).2; omega
        · rw [hb] at h1; injection h1 with h1; omega
      · have := (hown _ hb).2; omega
  · exact ((HF.trans hf4).alloc o).then_ h6.fr (fun i hi e => by have := (hown i e).1; omega)

end Go.Proofs.YtkmgiodhaaajjaaDoor.DenH

namespace Go.Proofs.YtkmgiodhaaajjaaDoor.DenI
open Go.IntWalk Go.RowKit Go.Proofs.YtkmgiodhaaajjaaDoor.Mem Go.Proofs.YtkmgiodhaaajjaaDoor.App Go.Proofs.YtkmgiodhaaajjaaDoor.FloatB Go.Proofs.YtkmgiodhaaajjaaDoor.ItemP Go.Proofs.YtkmgiodhaaajjaaDoor.ItemM Go.Proofs.YtkmgiodhaaajjaaDoor.ItemB Go.Proofs.YtkmgiodhaaajjaaDoor.Own Go.Proofs.YtkmgiodhaaajjaaDoor.SchP Go.Proofs.YtkmgiodhaaajjaaDoor.SchM Go.Proofs.YtkmgiodhaaajjaaDoor.SchG Go.Proofs.YtkmgiodhaaajjaaDoor.SchI Go.Proofs.YtkmgiodhaaajjaaDoor.SchJ Go.Proofs.YtkmgiodhaaajjaaDoor.DenP Go.Proofs.YtkmgiodhaaajjaaDoor.DenA Go.Proofs.YtkmgiodhaaajjaaDoor.DenD Go.Proofs.YtkmgiodhaaajjaaDoor.DenF Go.Proofs.YtkmgiodhaaajjaaDoor.DenG Go.Proofs.YtkmgiodhaaajjaaDoor.DenH

/-- The loops of a code, none inside another. -/
def loopsOf : Code → List Code
  | .loop c => [c]
  | .seq a b => loopsOf a ++ loopsOf b
  | .block _ c => loopsOf c
  | .scope c => loopsOf c
  | .cond _ a b => loopsOf a ++ loopsOf b
  | _ => []
/-- The round of the loop over the nodes. -/
noncomputable def body2 : Code := ((Tryd.f51.body.map loopsOf).getD []).getD 1 .skip
/-- What holds where a node's turn comes. -/
structure RK (ns : List Nod) (M c h : Nat) (xk : Int) (xn : Nat) (xs : ByteArray) (xl : List It) (Ax : Option Addr) (j cx lo hi : Nat) (w : World) (ad : Addr) (A1 : Option Addr) (c1 go k0 i : Nat) (k nlo nhi : Int) (v : It) (l : List Int) (f : List Fld) (Av : Option Addr) (cv : Nat) (Al : Option Addr) (cl : Nat) (Af : Option Addr) (cf : Nat) (x3 : Int) (x4 : Nat) (x5 : ByteArray) (x6 x7 x8 : Nat) (r : Bool) (wr : World) : Prop where
  ik : i + k0 + 1 = M
  hc : M ≤ c
  hM : M ≤ 256
  hxm : xl.length = j
  hxc : j ≤ cx
  hj : j ≤ 2000000
  hxss : xs.size ≤ 140737488355328
  hxn : xn < 18446744073709551616
  n0 : wr.cell? (ad.add (i * 9)) = some (.int .i64 k)
  n1 : wr.cell? ⟨(ad.add (i * 9)).block, (ad.add (i * 9)).off + 1, none⟩ = some (.int .i64 nlo)
  n2 : wr.cell? ⟨(ad.add (i * 9)).block, (ad.add (i * 9)).off + 2, none⟩ = some (.int .i64 nhi)
  n3 : wr.cell? ⟨(ad.add (i * 9)).block, (ad.add (i * 9)).off + 3, none⟩ = some (.int .i64 x3)
  n4 : wr.cell? ⟨(ad.add (i * 9)).block, (ad.add (i * 9)).off + 4, none⟩ = some (.int .u64 x4)
  n5 : wr.cell? ⟨(ad.add (i * 9)).block, (ad.add (i * 9)).off + 5, none⟩ = some (.string x5)
  n6 : wr.cell? ⟨(ad.add (i * 9)).block, (ad.add (i * 9)).off + 6, none⟩ = some (.slice Av x6 cv)
  n7 : wr.cell? ⟨(ad.add (i * 9)).block, (ad.add (i * 9)).off + 7, none⟩ = some (.slice Al x7 cl)
  n8 : wr.cell? ⟨(ad.add (i * 9)).block, (ad.add (i * 9)).off + 8, none⟩ = some (.slice Af x8 cf)
  nd : NdR wr h (Nod.mk k nlo nhi v l f) Av cv Al cl Af cf
  va : ItAt wr 0 h v [.int .i64 x3, .int .u64 x4, .string x5, .slice Av x6 cv]
  l7 : l.length = x7
  l8 : f.length = x8
  ok : (Nod.mk k nlo nhi v l f).ok = true
  bo : (Nod.mk k nlo nhi v l f).bounds = true
  ke : keysE [] f = 0
  na : ∀ p ∈ (Nod.mk k nlo nhi v l f).named, (i : Int) < p ∧ p < (M : Int)
  rq : isV ns i (It.mk xk xn xs xl) = r
  eq : r = oneV (Nod.mk k nlo nhi v l f) (It.mk xk xn xs xl) (fun p q => isV ns q.toNat (xl.getD p noIt)) (fun q => isV ns q.toNat (It.mk xk xn xs xl))
  s0 : wr.cell? ⟨w.heap.size, 0, none⟩ = some (.slice (some ad) M c)
  y0 : wr.cell? ⟨w.heap.size + 1, 0, none⟩ = some (.int .i64 xk)
  y1 : wr.cell? ⟨w.heap.size + 1, 1, none⟩ = some (.int .u64 xn)
  y2 : wr.cell? ⟨w.heap.size + 1, 2, none⟩ = some (.string xs)
  y3 : wr.cell? ⟨w.heap.size + 1, 3, none⟩ = some (.slice Ax j cx)
  go1 : w.heap.size + 1 < go
  bv : BV wr go M (fun q => if M - k0 ≤ q then isV ns q (It.mk xk xn xs xl) else false)
  rows : ∀ w', Fr (fun b => b = go) wr w' → ∀ p, p < j → ∃ ab gk, A1 = some ab ∧ w'.cell? (ab.add p) = some (.slice (some ⟨gk, 0, none⟩) M M) ∧ ∀ q, q < M → w'.cell? ⟨gk, q, none⟩ = some (.bool (isV ns q (xl.getD p noIt)))
  cap : ∀ ab, A1 = some ab → j ≤ c1
  abg : ∀ ab, A1 = some ab → ¬ ab.block = go
  keepl : ∀ w', Fr (fun b => b = go) wr w' → RdI .i64 w' Al l
  it : ItAt wr lo hi (It.mk xk xn xs xl) [.int .i64 xk, .int .u64 xn, .string xs, .slice Ax j cx]
  itl : ItsAt wr lo hi xl Ax 0
  hh : hi ≤ wr.heap.size
  may : MayBe (It.mk xk xn xs xl)
  xsz : (It.mk xk xn xs xl).size ≤ 2000000
/-- The frame where the next node's turn comes. -/
def FrR (t : Array Value) (M c : Nat) (xk : Int) (xn : Nat) (xs : ByteArray) (Ax : Option Addr) (j cx : Nat) (w : World) (ad : Addr) (A1 : Option Addr) (c1 go : Nat) (i : Int) : Prop :=
  t.size = 351 ∧ t[0]? = some (.agg #[.slice (some ad) M c]) ∧ t[1]? = some (.agg #[.int .i64 xk, .int .u64 xn, .string xs, .slice Ax j cx]) ∧ t[2]? = some (.pointer (some ⟨w.heap.size, 0, none⟩)) ∧ t[3]? = some (.pointer (some ⟨w.heap.size + 1, 0, none⟩)) ∧ t[4]? = some (.slice none 0 0) ∧ t[5]? = some (.slice (some ⟨go, 0, none⟩) M M) ∧ t[6]? = some (.slice A1 j c1) ∧ t[8]? = some (.int .i64 i)
/-- What a node's turn leaves. -/
theorem RK.step {ns : List Nod} {M c h : Nat} {xk : Int} {xn : Nat} {xs : ByteArray} {xl : List It} {Ax : Option Addr} {j cx lo hi : Nat} {w : World} {ad : Addr} {A1 : Option Addr} {c1 go k0 i : Nat} {k nlo nhi : Int} {v : It} {l : List Int} {f : List Fld} {Av : Option Addr} {cv : Nat} {Al : Option Addr} {cl : Nat} {Af : Option Addr} {cf : Nat} {x3 : Int} {x4 : Nat} {x5 : ByteArray} {x6 x7 x8 : Nat} {r : Bool} {wr : World} (H : RK ns M c h xk xn xs xl Ax j cx lo hi w ad A1 c1 go k0 i k nlo nhi v l f Av cv Al cl Af cf x3 x4 x5 x6 x7 x8 r wr) : ∀ w', Fr (fun _ => False) (wr.alloc (.cells #[.int .i64 k, .int .i64 nlo, .int .i64 nhi, .int .i64 x3, .int .u64 x4, .string x5, .slice Av x6 cv, .slice Al x7 cl, .slice Af x8 cf] 54)) w' →
    w'.cell? ⟨w.heap.size, 0, none⟩ = some (.slice (some ad) M c) ∧ w'.cell? ⟨w.heap.size + 1, 0, none⟩ = some (.int .i64 xk) ∧ w'.cell? ⟨w.heap.size + 1, 1, none⟩ = some (.int .u64 xn) ∧ w'.cell? ⟨w.heap.size + 1, 2, none⟩ = some (.string xs) ∧ w'.cell? ⟨w.heap.size + 1, 3, none⟩ = some (.slice Ax j cx) ∧
    Blk w' wr.heap.size 54 #[.int .i64 k, .int .i64 nlo, .int .i64 nhi, .int .i64 x3, .int .u64 x4, .string x5, .slice Av x6 cv, .slice Al x7 cl, .slice Af x8 cf] ∧ w'.cell? ⟨go, i, none⟩ = some (.bool false) ∧ w'.frozen? ⟨go, i, none⟩ = false ∧
    BV (w'.setCell ⟨go, i, none⟩ (.bool r)) go M (fun q => if M - (k0 + 1) ≤ q then isV ns q (It.mk xk xn xs xl) else false) ∧ Fr (fun b => b = go) wr (w'.setCell ⟨go, i, none⟩ (.bool r)) ∧ Fr (fun _ => False) wr w' := by
  intro w' hf
  have hf0 : Fr (fun _ => False) wr w' := ((Fr.refl _ wr).alloc _).trans hf
  have hi := H.ik
  have hb := H.bv.fr hf0 (fun h => h)
  refine ⟨cell_fr H.s0 hf0, cell_fr H.y0 hf0, cell_fr H.y1 hf0, cell_fr H.y2 hf0, cell_fr H.y3 hf0, (Blk.new wr _ _).fr hf (fun h => h), ?_, hb.frozen i, (hb.set_ i r).congr (fun q hq => ?_), Fr.setCell (S := fun b => b = go) (p := ⟨go, i, none⟩) (hf0.mono (fun _ _ h => h.elim)) (.inl rfl) _, hf0⟩
  · rw [hb.cell i (by omega), if_neg (by omega)]
  · by_cases h : q = i
    · subst h
      rw [if_pos rfl, if_pos (by omega), H.rq]
    · rw [if_neg h]
      by_cases h' : M - k0 ≤ q
      · rw [if_pos h', if_pos (by omega)]
      · rw [if_neg h', if_neg (by omega)]
end Go.Proofs.YtkmgiodhaaajjaaDoor.DenI

namespace Go.Proofs.YtkmgiodhaaajjaaDoor.DenJ
open Go.IntWalk Go.RowKit Go.Proofs.YtkmgiodhaaajjaaDoor.Mem Go.Proofs.YtkmgiodhaaajjaaDoor.App Go.Proofs.YtkmgiodhaaajjaaDoor.FloatB Go.Proofs.YtkmgiodhaaajjaaDoor.ItemP Go.Proofs.YtkmgiodhaaajjaaDoor.ItemM Go.Proofs.YtkmgiodhaaajjaaDoor.ItemB Go.Proofs.YtkmgiodhaaajjaaDoor.Own Go.Proofs.YtkmgiodhaaajjaaDoor.SchP Go.Proofs.YtkmgiodhaaajjaaDoor.SchM Go.Proofs.YtkmgiodhaaajjaaDoor.SchG Go.Proofs.YtkmgiodhaaajjaaDoor.SchI Go.Proofs.YtkmgiodhaaajjaaDoor.SchJ Go.Proofs.YtkmgiodhaaajjaaDoor.DenP Go.Proofs.YtkmgiodhaaajjaaDoor.DenA Go.Proofs.YtkmgiodhaaajjaaDoor.DenD Go.Proofs.YtkmgiodhaaajjaaDoor.DenF Go.Proofs.YtkmgiodhaaajjaaDoor.DenG Go.Proofs.YtkmgiodhaaajjaaDoor.DenH Go.Proofs.YtkmgiodhaaajjaaDoor.DenI

set_option maxRecDepth 1000000 in
set_option maxHeartbeats 16000000 in
theorem case0 (ns : List Nod) (M c h : Nat) (xk : Int) (xn : Nat) (xs : ByteArray) (xl : List It) (Ax : Option Addr) (j cx lo hi : Nat) (w : World) (ad : Addr) (A1 : Option Addr) (c1 go k0 i : Nat) (nlo nhi : Int) (v : It) (l : List Int) (f : List Fld) (Av : Option Addr) (cv : Nat) (Al : Option Addr) (cl : Nat) (Af : Option Addr) (cf : Nat) (x3 : Int) (x4 : Nat) (x5 : ByteArray) (x6 x7 x8 : Nat) (r : Bool) (wr : World) (H : RK ns M c h xk xn xs xl Ax j cx lo hi w ad A1 c1 go k0 i 0 nlo nhi v l f Av cv Al cl Af cf x3 x4 x5 x6 x7 x8 r wr) (T : Nat → Value) (KK : Act → World → Prop) (Q0 : Exit → Act → World → Prop)
    (hK : ∀ t w', FrR t M c xk xn xs Ax j cx w ad A1 c1 go ((i : Int) - 1) → BV w' go M (fun q => if M - (k0 + 1) ≤ q then isV ns q (It.mk xk xn xs xl) else false) → Fr (fun b => b = go) wr w' → KK ⟨t, []⟩ w') :
    Code.wp Tryd.prog body2 (Exit.then KK Q0) ⟨#[.agg #[.slice (some ad) M c], .agg #[.int .i64 xk, .int .u64 xn, .string xs, .slice Ax j cx], .pointer (some ⟨w.heap.size, 0, none⟩), .pointer (some ⟨w.heap.size + 1, 0, none⟩), .slice none 0 0, .slice (some ⟨go, 0, none⟩) M M, .slice A1 j c1, T 7, .int .i64 (i : Int), T 9, T 10, T 11, T 12, T 13, T 14, T 15, T 16, T 17, T 18, T 19, T 20, T 21, T 22, T 23, T 24, T 25, T 26, T 27, T 28, T 29, T 30, T 31, T 32, T 33, T 34, T 35, T 36, T 37, T 38, T 39, T 40, T 41, T 42, T 43, T 44, T 45, T 46, T 47, T 48, T 49, T 50, T 51, T 52, T 53, T 54, T 55, T 56, T 57, T 58, T 59, T 60, T 61, T 62, T 63, T 64, T 65, T 66, T 67, T 68, T 69, T 70, T 71, T 72, T 73, T 74, T 75, T 76, T 77, T 78, T 79, T 80, T 81, T 82, T 83, T 84, T 85, T 86, T 87, T 88, T 89, T 90, T 91, T 92, T 93, T 94, T 95, T 96, T 97, T 98, T 99, T 100, T 101, T 102, T 103, T 104, T 105, T 106, T 107, T 108, T 109, T 110, T 111, T 112, T 113, T 114, T 115, T 116, T 117, T 118, T 119, T 120, T 121, T 122, T 123, T 124, T 125, T 126, T 127, T 128, T 129, T 130, T 131, T 132, T 133, T 134, T 135, T 136, T 137, T 138, T 139, T 140, T 141, T 142, T 143, T 144, T 145, T 146, T 147, T 148, T 149, T 150, T 151, T 152, T 153, T 154, T 155, T 156, T 157, T 158, T 159, T 160, T 161, T 162, T 163, T 164, T 165, T 166, T 167, T 168, T 169, T 170, T 171, T 172, T 173, T 174, T 175, T 176, T 177, T 178, T 179, T 180, T 181, T 182, T 183, T 184, T 185, T 186, T 187, T 188, T 189, T 190, T 191, T 192, T 193, T 194, T 195, T 196, T 197, T 198, T 199, T 200, T 201, T 202, T 203, T 204, T 205, T 206, T 207, T 208, T 209, T 210, T 211, T 212, T 213, T 214, T 215, T 216, T 217, T 218, T 219, T 220, T 221, T 222, T 223, T 224, T 225, T 226, T 227, T 228, T 229, T 230, T 231, T 232, T 233, T 234, T 235, T 236, T 237, T 238, T 239, T 240, T 241, T 242, T 243, T 244, T 245, T 246, T 247, T 248, T 249, T 250, T 251, T 252, T 253, T 254, T 255, T 256, T 257, T 258, T 259, T 260, T 261, T 262, T 263, T 264, T 265, T 266, T 267, T 268, T 269, T 270, T 271, T 272, T 273, T 274, T 275, T 276, T 277, T 278, T 279, T 280, T 281, T 282, T 283, T 284, T 285, T 286, T 287, T 288, T 289, T 290, T 291, T 292, T 293, T 294, T 295, T 296, T 297, T 298, T 299, T 300, T 301, T 302, T 303, T 304, T 305, T 306, T 307, T 308, T 309, T 310, T 311, T 312, T 313, T 314, T 315, T 316, T 317, T 318, T 319, T 320, T 321, T 322, T 323, T 324, T 325, T 326, T 327, T 328, T 329, T 330, T 331, T 332, T 333, T 334, T 335, T 336, T 337, T 338, T 339, T 340, T 341, T 342, T 343, T 344, T 345, T 346, T 347, T 348, T 349, T 350], []⟩ wr := by
  have HK := hid hK
  have HH := hid H
  have m0 := fun o => cell_a H.n0 o
  have m1 := fun o => cell_a H.n1 o
  have m2 := fun o => cell_a H.n2 o
  have m3 := fun o => cell_a H.n3 o
  have m4 := fun o => cell_a H.n4 o
  have m5 := fun o => cell_a H.n5 o
  have m6 := fun o => cell_a H.n6 o
  have m7 := fun o => cell_a H.n7 o
  have m8 := fun o => cell_a H.n8 o
  have n0 := H.n0
  have n1 := H.n1
  have n2 := H.n2
  have n3 := H.n3
  have n4 := H.n4
  have n5 := H.n5
  have n6 := H.n6
  have n7 := H.n7
  have n8 := H.n8
  have p0 := H.s0
  have p2 := H.y2
  have q0 := fun o => cell_a H.s0 o
  have q1 := fun o => cell_a H.y0 o
  have q2 := fun o => cell_a H.y1 o
  have q3 := fun o => cell_a H.y2 o
  have q4 := fun o => cell_a H.y3 o
  have hi0 : (0 : Int) ≤ (i : Int) := by omega
  have HI64 := hid (show some (Value.int .i64 (wrap64 ((i : Int) - 1))) = some (Value.int .i64 ((i : Int) - 1)) by rw [wrap64_in _ (by have := H.ik; have := H.hM; omega)])
  have him : (i : Int) < (M : Int) := by have := H.ik; omega
  have hic : (i : Int) < (c : Int) := by have := H.ik; have := H.hc; omega
  obtain ⟨w3, hw3⟩ : ∃ w3, wr.alloc (.cells #[.int .i64 0, .int .i64 nlo, .int .i64 nhi, .int .i64 x3, .int .u64 x4, .string x5, .slice Av x6 cv, .slice Al x7 cl, .slice Af x8 cf] 54) = w3 := ⟨_, rfl⟩
  have HST := hid (show ∀ w', Fr (fun _ => False) w3 w' → _ by rw [← hw3]; exact H.step)
  obtain ⟨_, _, _, _, _, _, g1, g2, _, _, hf3⟩ := HST.out w3 (Fr.refl _ _)
  have q5 : (wr.alloc (.cells #[.int .i64 0, .int .i64 nlo, .int .i64 nhi, .int .i64 x3, .int .u64 x4, .string x5, .slice Av x6 cv, .slice Al x7 cl, .slice Af x8 cf] 54)).cell? ⟨go, i, none⟩ = some (.bool false) := by rw [hw3]; exact g1
  have q6 : (wr.alloc (.cells #[.int .i64 0, .int .i64 nlo, .int .i64 nhi, .int .i64 x3, .int .u64 x4, .string x5, .slice Av x6 cv, .slice Al x7 cl, .slice Af x8 cf] 54)).frozen? ⟨go, i, none⟩ = false := by rw [hw3]; exact g2
  have HF3 := hid hf3
  have HW3 := hid hw3
  clear hw3 H hK g1 g2 hf3
  conv => arg 2; whnf
  obtain rfl : r = true := by rw [HH.out.eq, one0 rfl]
  go_wp2_with fail
  rw [HW3.out]
  exact HK.out _ _ ⟨rfl, rfl, rfl, rfl, rfl, rfl, rfl, rfl, HI64.out⟩ (HST.out w3 (Fr.refl _ _)).2.2.2.2.2.2.2.2.1 (HST.out w3 (Fr.refl _ _)).2.2.2.2.2.2.2.2.2.1

set_option maxRecDepth 1000000 in
set_option maxHeartbeats 16000000 in
theorem case1 (ns : List Nod) (M c h : Nat) (xk : Int) (xn : Nat) (xs : ByteArray) (xl : List It) (Ax : Option Addr) (j cx lo hi : Nat) (w : World) (ad : Addr) (A1 : Option Addr) (c1 go k0 i : Nat) (nlo nhi : Int) (v : It) (l : List Int) (f : List Fld) (Av : Option Addr) (cv : Nat) (Al : Option Addr) (cl : Nat) (Af : Option Addr) (cf : Nat) (x3 : Int) (x4 : Nat) (x5 : ByteArray) (x6 x7 x8 : Nat) (r : Bool) (wr : World) (H : RK ns M c h xk xn xs xl Ax j cx lo hi w ad A1 c1 go k0 i 1 nlo nhi v l f Av cv Al cl Af cf x3 x4 x5 x6 x7 x8 r wr) (T : Nat → Value) (KK : Act → World → Prop) (Q0 : Exit → Act → World → Prop)
    (hK : ∀ t w', FrR t M c xk xn xs Ax j cx w ad A1 c1 go ((i : Int) - 1) → BV w' go M (fun q => if M - (k0 + 1) ≤ q then isV ns q (It.mk xk xn xs xl) else false) → Fr (fun b => b = go) wr w' → KK ⟨t, []⟩ w') :
    Code.wp Tryd.prog body2 (Exit.then KK Q0) ⟨#[.agg #[.slice (some ad) M c], .agg #[.int .i64 xk, .int .u64 xn, .string xs, .slice Ax j cx], .pointer (some ⟨w.heap.size, 0, none⟩), .pointer (some ⟨w.heap.size + 1, 0, none⟩), .slice none 0 0, .slice (some ⟨go, 0, none⟩) M M, .slice A1 j c1, T 7, .int .i64 (i : Int), T 9, T 10, T 11, T 12, T 13, T 14, T 15, T 16, T 17, T 18, T 19, T 20, T 21, T 22, T 23, T 24, T 25, T 26, T 27, T 28, T 29, T 30, T 31, T 32, T 33, T 34, T 35, T 36, T 37, T 38, T 39, T 40, T 41, T 42, T 43, T 44, T 45, T 46, T 47, T 48, T 49, T 50, T 51, T 52, T 53, T 54, T 55, T 56, T 57, T 58, T 59, T 60, T 61, T 62, T 63, T 64, T 65, T 66, T 67, T 68, T 69, T 70, T 71, T 72, T 73, T 74, T 75, T 76, T 77, T 78, T 79, T 80, T 81, T 82, T 83, T 84, T 85, T 86, T 87, T 88, T 89, T 90, T 91, T 92, T 93, T 94, T 95, T 96, T 97, T 98, T 99, T 100, T 101, T 102, T 103, T 104, T 105, T 106, T 107, T 108, T 109, T 110, T 111, T 112, T 113, T 114, T 115, T 116, T 117, T 118, T 119, T 120, T 121, T 122, T 123, T 124, T 125, T 126, T 127, T 128, T 129, T 130, T 131, T 132, T 133, T 134, T 135, T 136, T 137, T 138, T 139, T 140, T 141, T 142, T 143, T 144, T 145, T 146, T 147, T 148, T 149, T 150, T 151, T 152, T 153, T 154, T 155, T 156, T 157, T 158, T 159, T 160, T 161, T 162, T 163, T 164, T 165, T 166, T 167, T 168, T 169, T 170, T 171, T 172, T 173, T 174, T 175, T 176, T 177, T 178, T 179, T 180, T 181, T 182, T 183, T 184, T 185, T 186, T 187, T 188, T 189, T 190, T 191, T 192, T 193, T 194, T 195, T 196, T 197, T 198, T 199, T 200, T 201, T 202, T 203, T 204, T 205, T 206, T 207, T 208, T 209, T 210, T 211, T 212, T 213, T 214, T 215, T 216, T 217, T 218, T 219, T 220, T 221, T 222, T 223, T 224, T 225, T 226, T 227, T 228, T 229, T 230, T 231, T 232, T 233, T 234, T 235, T 236, T 237, T 238, T 239, T 240, T 241, T 242, T 243, T 244, T 245, T 246, T 247, T 248, T 249, T 250, T 251, T 252, T 253, T 254, T 255, T 256, T 257, T 258, T 259, T 260, T 261, T 262, T 263, T 264, T 265, T 266, T 267, T 268, T 269, T 270, T 271, T 272, T 273, T 274, T 275, T 276, T 277, T 278, T 279, T 280, T 281, T 282, T 283, T 284, T 285, T 286, T 287, T 288, T 289, T 290, T 291, T 292, T 293, T 294, T 295, T 296, T 297, T 298, T 299, T 300, T 301, T 302, T 303, T 304, T 305, T 306, T 307, T 308, T 309, T 310, T 311, T 312, T 313, T 314, T 315, T 316, T 317, T 318, T 319, T 320, T 321, T 322, T 323, T 324, T 325, T 326, T 327, T 328, T 329, T 330, T 331, T 332, T 333, T 334, T 335, T 336, T 337, T 338, T 339, T 340, T 341, T 342, T 343, T 344, T 345, T 346, T 347, T 348, T 349, T 350], []⟩ wr := by
  have HK := hid hK
  have HH := hid H
  have m0 := fun o => cell_a H.n0 o
  have m1 := fun o => cell_a H.n1 o
  have m2 := fun o => cell_a H.n2 o
  have m3 := fun o => cell_a H.n3 o
  have m4 := fun o => cell_a H.n4 o
  have m5 := fun o => cell_a H.n5 o
  have m6 := fun o => cell_a H.n6 o
  have m7 := fun o => cell_a H.n7 o
  have m8 := fun o => cell_a H.n8 o
  have n0 := H.n0
  have n1 := H.n1
  have n2 := H.n2
  have n3 := H.n3
  have n4 := H.n4
  have n5 := H.n5
  have n6 := H.n6
  have n7 := H.n7
  have n8 := H.n8
  have p0 := H.s0
  have p2 := H.y2
  have q0 := fun o => cell_a H.s0 o
  have q1 := fun o => cell_a H.y0 o
  have q2 := fun o => cell_a H.y1 o
  have q3 := fun o => cell_a H.y2 o
  have q4 := fun o => cell_a H.y3 o
  have hi0 : (0 : Int) ≤ (i : Int) := by omega
  have HI64 := hid (show some (Value.int .i64 (wrap64 ((i : Int) - 1))) = some (Value.int .i64 ((i : Int) - 1)) by rw [wrap64_in _ (by have := H.ik; have := H.hM; omega)])
  have him : (i : Int) < (M : Int) := by have := H.ik; omega
  have hic : (i : Int) < (c : Int) := by have := H.ik; have := H.hc; omega
  obtain ⟨w3, hw3⟩ : ∃ w3, wr.alloc (.cells #[.int .i64 1, .int .i64 nlo, .int .i64 nhi, .int .i64 x3, .int .u64 x4, .string x5, .slice Av x6 cv, .slice Al x7 cl, .slice Af x8 cf] 54) = w3 := ⟨_, rfl⟩
  have HST := hid (show ∀ w', Fr (fun _ => False) w3 w' → _ by rw [← hw3]; exact H.step)
  obtain ⟨_, _, _, _, _, _, g1, g2, _, _, hf3⟩ := HST.out w3 (Fr.refl _ _)
  have q5 : (wr.alloc (.cells #[.int .i64 1, .int .i64 nlo, .int .i64 nhi, .int .i64 x3, .int .u64 x4, .string x5, .slice Av x6 cv, .slice Al x7 cl, .slice Af x8 cf] 54)).cell? ⟨go, i, none⟩ = some (.bool false) := by rw [hw3]; exact g1
  have q6 : (wr.alloc (.cells #[.int .i64 1, .int .i64 nlo, .int .i64 nhi, .int .i64 x3, .int .u64 x4, .string x5, .slice Av x6 cv, .slice Al x7 cl, .slice Af x8 cf] 54)).frozen? ⟨go, i, none⟩ = false := by rw [hw3]; exact g2
  have HF3 := hid hf3
  have HW3 := hid hw3
  clear hw3 H hK g1 g2 hf3
  conv => arg 2; whnf
  have HE := hid (show r = numV (.mk xk xn xs xl) nlo nhi by rw [HH.out.eq, one1 rfl])
  go_wp2_with fail
  rw [HW3.out]
  refine (rnumber_calls xk xn xs Ax j cx nlo nhi xl w3).mono ?_
  rintro e w4 ⟨rfl, hf⟩
  have HF4 := hid hf
  rw [← HE.out]
  obtain ⟨_, _, _, _, _, _, g1, g2, _, _, _⟩ := HST.out w4 HF4.out
  clear hf m0 m1 m2 m3 m4 m5 m6 m7 m8 q0 q1 q2 q3 q4 q5 q6 n0 n1 n2 n3 n4 n5 n6 n7 n8 p0 p2
  go_wp2_with fail
  exact HK.out _ _ ⟨rfl, rfl, rfl, rfl, rfl, rfl, rfl, rfl, HI64.out⟩ (HST.out w4 HF4.out).2.2.2.2.2.2.2.2.1 (HST.out w4 HF4.out).2.2.2.2.2.2.2.2.2.1

set_option maxRecDepth 1000000 in
set_option maxHeartbeats 16000000 in
theorem case2 (ns : List Nod) (M c h : Nat) (xk : Int) (xn : Nat) (xs : ByteArray) (xl : List It) (Ax : Option Addr) (j cx lo hi : Nat) (w : World) (ad : Addr) (A1 : Option Addr) (c1 go k0 i : Nat) (nlo nhi : Int) (v : It) (l : List Int) (f : List Fld) (Av : Option Addr) (cv : Nat) (Al : Option Addr) (cl : Nat) (Af : Option Addr) (cf : Nat) (x3 : Int) (x4 : Nat) (x5 : ByteArray) (x6 x7 x8 : Nat) (r : Bool) (wr : World) (H : RK ns M c h xk xn xs xl Ax j cx lo hi w ad A1 c1 go k0 i 2 nlo nhi v l f Av cv Al cl Af cf x3 x4 x5 x6 x7 x8 r wr) (T : Nat → Value) (KK : Act → World → Prop) (Q0 : Exit → Act → World → Prop)
    (hK : ∀ t w', FrR t M c xk xn xs Ax j cx w ad A1 c1 go ((i : Int) - 1) → BV w' go M (fun q => if M - (k0 + 1) ≤ q then isV ns q (It.mk xk xn xs xl) else false) → Fr (fun b => b = go) wr w' → KK ⟨t, []⟩ w') :
    Code.wp Tryd.prog body2 (Exit.then KK Q0) ⟨#[.agg #[.slice (some ad) M c], .agg #[.int .i64 xk, .int .u64 xn, .string xs, .slice Ax j cx], .pointer (some ⟨w.heap.size, 0, none⟩), .pointer (some ⟨w.heap.size + 1, 0, none⟩), .slice none 0 0, .slice (some ⟨go, 0, none⟩) M M, .slice A1 j c1, T 7, .int .i64 (i : Int), T 9, T 10, T 11, T 12, T 13, T 14, T 15, T 16, T 17, T 18, T 19, T 20, T 21, T 22, T 23, T 24, T 25, T 26, T 27, T 28, T 29, T 30, T 31, T 32, T 33, T 34, T 35, T 36, T 37, T 38, T 39, T 40, T 41, T 42, T 43, T 44, T 45, T 46, T 47, T 48, T 49, T 50, T 51, T 52, T 53, T 54, T 55, T 56, T 57, T 58, T 59, T 60, T 61, T 62, T 63, T 64, T 65, T 66, T 67, T 68, T 69, T 70, T 71, T 72, T 73, T 74, T 75, T 76, T 77, T 78, T 79, T 80, T 81, T 82, T 83, T 84, T 85, T 86, T 87, T 88, T 89, T 90, T 91, T 92, T 93, T 94, T 95, T 96, T 97, T 98, T 99, T 100, T 101, T 102, T 103, T 104, T 105, T 106, T 107, T 108, T 109, T 110, T 111, T 112, T 113, T 114, T 115, T 116, T 117, T 118, T 119, T 120, T 121, T 122, T 123, T 124, T 125, T 126, T 127, T 128, T 129, T 130, T 131, T 132, T 133, T 134, T 135, T 136, T 137, T 138, T 139, T 140, T 141, T 142, T 143, T 144, T 145, T 146, T 147, T 148, T 149, T 150, T 151, T 152, T 153, T 154, T 155, T 156, T 157, T 158, T 159, T 160, T 161, T 162, T 163, T 164, T 165, T 166, T 167, T 168, T 169, T 170, T 171, T 172, T 173, T 174, T 175, T 176, T 177, T 178, T 179, T 180, T 181, T 182, T 183, T 184, T 185, T 186, T 187, T 188, T 189, T 190, T 191, T 192, T 193, T 194, T 195, T 196, T 197, T 198, T 199, T 200, T 201, T 202, T 203, T 204, T 205, T 206, T 207, T 208, T 209, T 210, T 211, T 212, T 213, T 214, T 215, T 216, T 217, T 218, T 219, T 220, T 221, T 222, T 223, T 224, T 225, T 226, T 227, T 228, T 229, T 230, T 231, T 232, T 233, T 234, T 235, T 236, T 237, T 238, T 239, T 240, T 241, T 242, T 243, T 244, T 245, T 246, T 247, T 248, T 249, T 250, T 251, T 252, T 253, T 254, T 255, T 256, T 257, T 258, T 259, T 260, T 261, T 262, T 263, T 264, T 265, T 266, T 267, T 268, T 269, T 270, T 271, T 272, T 273, T 274, T 275, T 276, T 277, T 278, T 279, T 280, T 281, T 282, T 283, T 284, T 285, T 286, T 287, T 288, T 289, T 290, T 291, T 292, T 293, T 294, T 295, T 296, T 297, T 298, T 299, T 300, T 301, T 302, T 303, T 304, T 305, T 306, T 307, T 308, T 309, T 310, T 311, T 312, T 313, T 314, T 315, T 316, T 317, T 318, T 319, T 320, T 321, T 322, T 323, T 324, T 325, T 326, T 327, T 328, T 329, T 330, T 331, T 332, T 333, T 334, T 335, T 336, T 337, T 338, T 339, T 340, T 341, T 342, T 343, T 344, T 345, T 346, T 347, T 348, T 349, T 350], []⟩ wr := by
  have HK := hid hK
  have HH := hid H
  have m0 := fun o => cell_a H.n0 o
  have m1 := fun o => cell_a H.n1 o
  have m2 := fun o => cell_a H.n2 o
  have m3 := fun o => cell_a H.n3 o
  have m4 := fun o => cell_a H.n4 o
  have m5 := fun o => cell_a H.n5 o
  have m6 := fun o => cell_a H.n6 o
  have m7 := fun o => cell_a H.n7 o
  have m8 := fun o => cell_a H.n8 o
  have n0 := H.n0
  have n1 := H.n1
  have n2 := H.n2
  have n3 := H.n3
  have n4 := H.n4
  have n5 := H.n5
  have n6 := H.n6
  have n7 := H.n7
  have n8 := H.n8
  have p0 := H.s0
  have p2 := H.y2
  have q0 := fun o => cell_a H.s0 o
  have q1 := fun o => cell_a H.y0 o
  have q2 := fun o => cell_a H.y1 o
  have q3 := fun o => cell_a H.y2 o
  have q4 := fun o => cell_a H.y3 o
  have hi0 : (0 : Int) ≤ (i : Int) := by omega
  have HI64 := hid (show some (Value.int .i64 (wrap64 ((i : Int) - 1))) = some (Value.int .i64 ((i : Int) - 1)) by rw [wrap64_in _ (by have := H.ik; have := H.hM; omega)])
  have him : (i : Int) < (M : Int) := by have := H.ik; omega
  have hic : (i : Int) < (c : Int) := by have := H.ik; have := H.hc; omega
  obtain ⟨w3, hw3⟩ : ∃ w3, wr.alloc (.cells #[.int .i64 2, .int .i64 nlo, .int .i64 nhi, .int .i64 x3, .int .u64 x4, .string x5, .slice Av x6 cv, .slice Al x7 cl, .slice Af x8 cf] 54) = w3 := ⟨_, rfl⟩
  have HST := hid (show ∀ w', Fr (fun _ => False) w3 w' → _ by rw [← hw3]; exact H.step)
  obtain ⟨_, _, _, _, _, _, g1, g2, _, _, hf3⟩ := HST.out w3 (Fr.refl _ _)
  have q5 : (wr.alloc (.cells #[.int .i64 2, .int .i64 nlo, .int .i64 nhi, .int .i64 x3, .int .u64 x4, .string x5, .slice Av x6 cv, .slice Al x7 cl, .slice Af x8 cf] 54)).cell? ⟨go, i, none⟩ = some (.bool false) := by rw [hw3]; exact g1
  have q6 : (wr.alloc (.cells #[.int .i64 2, .int .i64 nlo, .int .i64 nhi, .int .i64 x3, .int .u64 x4, .string x5, .slice Av x6 cv, .slice Al x7 cl, .slice Af x8 cf] 54)).frozen? ⟨go, i, none⟩ = false := by rw [hw3]; exact g2
  have HF3 := hid hf3
  have HW3 := hid hw3
  clear hw3 H hK g1 g2 hf3
  conv => arg 2; whnf
  have HE := hid (show r = (decide (xk = 2) && decide (nlo ≤ (xs.size : Int) ∧ (xs.size : Int) ≤ nhi)) by rw [HH.out.eq, one2 rfl]; rfl)
  by_cases h2 : xk = 2
  · by_cases h3 : (xs.size : Int) ≥ nlo
    · by_cases h4 : (xs.size : Int) ≤ nhi
      · obtain rfl : r = true := by rw [HE.out, decide_eq_true h2, decide_eq_true ⟨h3, h4⟩]; rfl
        subst h2
        go_wp2_with fail
        rw [HW3.out]
        exact HK.out _ _ ⟨rfl, rfl, rfl, rfl, rfl, rfl, rfl, rfl, HI64.out⟩ (HST.out w3 (Fr.refl _ _)).2.2.2.2.2.2.2.2.1 (HST.out w3 (Fr.refl _ _)).2.2.2.2.2.2.2.2.2.1

      · obtain rfl : r = false := by rw [HE.out, decide_eq_false (fun h : nlo ≤ (xs.size : Int) ∧ (xs.size : Int) ≤ nhi => h4 h.2)]; simp
        have hd4 := decide_eq_false h4
        subst h2
        go_wp2_with fail
        rw [HW3.out]
        exact HK.out _ _ ⟨rfl, rfl, rfl, rfl, rfl, rfl, rfl, rfl, HI64.out⟩ (HST.out w3 (Fr.refl _ _)).2.2.2.2.2.2.2.2.1 (HST.out w3 (Fr.refl _ _)).2.2.2.2.2.2.2.2.2.1

    · obtain rfl : r = false := by rw [HE.out, decide_eq_false (fun h : nlo ≤ (xs.size : Int) ∧ (xs.size : Int) ≤ nhi => h3 h.1)]; simp
      have hd3 := decide_eq_false h3
      have hd5 : decide (nlo ≤ (xs.size : Int)) = false := hd3
      subst h2
      go_wp2_with fail
      rw [HW3.out]
      exact HK.out _ _ ⟨rfl, rfl, rfl, rfl, rfl, rfl, rfl, rfl, HI64.out⟩ (HST.out w3 (Fr.refl _ _)).2.2.2.2.2.2.2.2.1 (HST.out w3 (Fr.refl _ _)).2.2.2.2.2.2.2.2.2.1

  · obtain rfl : r = false := by rw [HE.out, decide_eq_false h2]; rfl
    have hb : (xk == 2) = false := beq_eq_false_iff_ne.2 h2
    go_wp2_with fail
    rw [HW3.out]
    exact HK.out _ _ ⟨rfl, rfl, rfl, rfl, rfl, rfl, rfl, rfl, HI64.out⟩ (HST.out w3 (Fr.refl _ _)).2.2.2.2.2.2.2.2.1 (HST.out w3 (Fr.refl _ _)).2.2.2.2.2.2.2.2.2.1

set_option maxRecDepth 1000000 in
set_option maxHeartbeats 16000000 in
theorem case3 (ns : List Nod) (M c h : Nat) (xk : Int) (xn : Nat) (xs : ByteArray) (xl : List It) (Ax : Option Addr) (j cx lo hi : Nat) (w : World) (ad : Addr) (A1 : Option Addr) (c1 go k0 i : Nat) (nlo nhi : Int) (v : It) (l : List Int) (f : List Fld) (Av : Option Addr) (cv : Nat) (Al : Option Addr) (cl : Nat) (Af : Option Addr) (cf : Nat) (x3 : Int) (x4 : Nat) (x5 : ByteArray) (x6 x7 x8 : Nat) (r : Bool) (wr : World) (H : RK ns M c h xk xn xs xl Ax j cx lo hi w ad A1 c1 go k0 i 3 nlo nhi v l f Av cv Al cl Af cf x3 x4 x5 x6 x7 x8 r wr) (T : Nat → Value) (KK : Act → World → Prop) (Q0 : Exit → Act → World → Prop)
    (hK : ∀ t w', FrR t M c xk xn xs Ax j cx w ad A1 c1 go ((i : Int) - 1) → BV w' go M (fun q => if M - (k0 + 1) ≤ q then isV ns q (It.mk xk xn xs xl) else false) → Fr (fun b => b = go) wr w' → KK ⟨t, []⟩ w') :
    Code.wp Tryd.prog body2 (Exit.then KK Q0) ⟨#[.agg #[.slice (some ad) M c], .agg #[.int .i64 xk, .int .u64 xn, .string xs, .slice Ax j cx], .pointer (some ⟨w.heap.size, 0, none⟩), .pointer (some ⟨w.heap.size + 1, 0, none⟩), .slice none 0 0, .slice (some ⟨go, 0, none⟩) M M, .slice A1 j c1, T 7, .int .i64 (i : Int), T 9, T 10, T 11, T 12, T 13, T 14, T 15, T 16, T 17, T 18, T 19, T 20, T 21, T 22, T 23, T 24, T 25, T 26, T 27, T 28, T 29, T 30, T 31, T 32, T 33, T 34, T 35, T 36, T 37, T 38, T 39, T 40, T 41, T 42, T 43, T 44, T 45, T 46, T 47, T 48, T 49, T 50, T 51, T 52, T 53, T 54, T 55, T 56, T 57, T 58, T 59, T 60, T 61, T 62, T 63, T 64, T 65, T 66, T 67, T 68, T 69, T 70, T 71, T 72, T 73, T 74, T 75, T 76, T 77, T 78, T 79, T 80, T 81, T 82, T 83, T 84, T 85, T 86, T 87, T 88, T 89, T 90, T 91, T 92, T 93, T 94, T 95, T 96, T 97, T 98, T 99, T 100, T 101, T 102, T 103, T 104, T 105, T 106, T 107, T 108, T 109, T 110, T 111, T 112, T 113, T 114, T 115, T 116, T 117, T 118, T 119, T 120, T 121, T 122, T 123, T 124, T 125, T 126, T 127, T 128, T 129, T 130, T 131, T 132, T 133, T 134, T 135, T 136, T 137, T 138, T 139, T 140, T 141, T 142, T 143, T 144, T 145, T 146, T 147, T 148, T 149, T 150, T 151, T 152, T 153, T 154, T 155, T 156, T 157, T 158, T 159, T 160, T 161, T 162, T 163, T 164, T 165, T 166, T 167, T 168, T 169, T 170, T 171, T 172, T 173, T 174, T 175, T 176, T 177, T 178, T 179, T 180, T 181, T 182, T 183, T 184, T 185, T 186, T 187, T 188, T 189, T 190, T 191, T 192, T 193, T 194, T 195, T 196, T 197, T 198, T 199, T 200, T 201, T 202, T 203, T 204, T 205, T 206, T 207, T 208, T 209, T 210, T 211, T 212, T 213, T 214, T 215, T 216, T 217, T 218, T 219, T 220, T 221, T 222, T 223, T 224, T 225, T 226, T 227, T 228, T 229, T 230, T 231, T 232, T 233, T 234, T 235, T 236, T 237, T 238, T 239, T 240, T 241, T 242, T 243, T 244, T 245, T 246, T 247, T 248, T 249, T 250, T 251, T 252, T 253, T 254, T 255, T 256, T 257, T 258, T 259, T 260, T 261, T 262, T 263, T 264, T 265, T 266, T 267, T 268, T 269, T 270, T 271, T 272, T 273, T 274, T 275, T 276, T 277, T 278, T 279, T 280, T 281, T 282, T 283, T 284, T 285, T 286, T 287, T 288, T 289, T 290, T 291, T 292, T 293, T 294, T 295, T 296, T 297, T 298, T 299, T 300, T 301, T 302, T 303, T 304, T 305, T 306, T 307, T 308, T 309, T 310, T 311, T 312, T 313, T 314, T 315, T 316, T 317, T 318, T 319, T 320, T 321, T 322, T 323, T 324, T 325, T 326, T 327, T 328, T 329, T 330, T 331, T 332, T 333, T 334, T 335, T 336, T 337, T 338, T 339, T 340, T 341, T 342, T 343, T 344, T 345, T 346, T 347, T 348, T 349, T 350], []⟩ wr := by
  have HK := hid hK
  have HH := hid H
  have m0 := fun o => cell_a H.n0 o
  have m1 := fun o => cell_a H.n1 o
  have m2 := fun o => cell_a H.n2 o
  have m3 := fun o => cell_a H.n3 o
  have m4 := fun o => cell_a H.n4 o
  have m5 := fun o => cell_a H.n5 o
  have m6 := fun o => cell_a H.n6 o
  have m7 := fun o => cell_a H.n7 o
  have m8 := fun o => cell_a H.n8 o
  have n0 := H.n0
  have n1 := H.n1
  have n2 := H.n2
  have n3 := H.n3
  have n4 := H.n4
  have n5 := H.n5
  have n6 := H.n6
  have n7 := H.n7
  have n8 := H.n8
  have p0 := H.s0
  have p2 := H.y2
  have q0 := fun o => cell_a H.s0 o
  have q1 := fun o => cell_a H.y0 o
  have q2 := fun o => cell_a H.y1 o
  have q3 := fun o => cell_a H.y2 o
  have q4 := fun o => cell_a H.y3 o
  have hi0 : (0 : Int) ≤ (i : Int) := by omega
  have HI64 := hid (show some (Value.int .i64 (wrap64 ((i : Int) - 1))) = some (Value.int .i64 ((i : Int) - 1)) by rw [wrap64_in _ (by have := H.ik; have := H.hM; omega)])
  have him : (i : Int) < (M : Int) := by have := H.ik; omega
  have hic : (i : Int) < (c : Int) := by have := H.ik; have := H.hc; omega
  obtain ⟨w3, hw3⟩ : ∃ w3, wr.alloc (.cells #[.int .i64 3, .int .i64 nlo, .int .i64 nhi, .int .i64 x3, .int .u64 x4, .string x5, .slice Av x6 cv, .slice Al x7 cl, .slice Af x8 cf] 54) = w3 := ⟨_, rfl⟩
  have HST := hid (show ∀ w', Fr (fun _ => False) w3 w' → _ by rw [← hw3]; exact H.step)
  obtain ⟨_, _, _, _, _, _, g1, g2, _, _, hf3⟩ := HST.out w3 (Fr.refl _ _)
  have q5 : (wr.alloc (.cells #[.int .i64 3, .int .i64 nlo, .int .i64 nhi, .int .i64 x3, .int .u64 x4, .string x5, .slice Av x6 cv, .slice Al x7 cl, .slice Af x8 cf] 54)).cell? ⟨go, i, none⟩ = some (.bool false) := by rw [hw3]; exact g1
  have q6 : (wr.alloc (.cells #[.int .i64 3, .int .i64 nlo, .int .i64 nhi, .int .i64 x3, .int .u64 x4, .string x5, .slice Av x6 cv, .slice Al x7 cl, .slice Af x8 cf] 54)).frozen? ⟨go, i, none⟩ = false := by rw [hw3]; exact g2
  have HF3 := hid hf3
  have HW3 := hid hw3
  clear hw3 H hK g1 g2 hf3
  conv => arg 2; whnf
  have HE := hid (show r = (decide (xk = 3) && decide (nlo ≤ (xs.size : Int) ∧ (xs.size : Int) ≤ nhi)) by rw [HH.out.eq, one3 rfl]; rfl)
  by_cases h2 : xk = 3
  · by_cases h3 : (xs.size : Int) ≥ nlo
    · by_cases h4 : (xs.size : Int) ≤ nhi
      · obtain rfl : r = true := by rw [HE.out, decide_eq_true h2, decide_eq_true ⟨h3, h4⟩]; rfl
        subst h2
        go_wp2_with fail
        rw [HW3.out]
        exact HK.out _ _ ⟨rfl, rfl, rfl, rfl, rfl, rfl, rfl, rfl, HI64.out⟩ (HST.out w3 (Fr.refl _ _)).2.2.2.2.2.2.2.2.1 (HST.out w3 (Fr.refl _ _)).2.2.2.2.2.2.2.2.2.1

      · obtain rfl : r = false := by rw [HE.out, decide_eq_false (fun h : nlo ≤ (xs.size : Int) ∧ (xs.size : Int) ≤ nhi => h4 h.2)]; simp
        have hd4 := decide_eq_false h4
        subst h2
        go_wp2_with fail
        rw [HW3.out]
        exact HK.out _ _ ⟨rfl, rfl, rfl, rfl, rfl, rfl, rfl, rfl, HI64.out⟩ (HST.out w3 (Fr.refl _ _)).2.2.2.2.2.2.2.2.1 (HST.out w3 (Fr.refl _ _)).2.2.2.2.2.2.2.2.2.1

    · obtain rfl : r = false := by rw [HE.out, decide_eq_false (fun h : nlo ≤ (xs.size : Int) ∧ (xs.size : Int) ≤ nhi => h3 h.1)]; simp
      have hd3 := decide_eq_false h3
      have hd5 : decide (nlo ≤ (xs.size : Int)) = false := hd3
      subst h2
      go_wp2_with fail
      rw [HW3.out]
      exact HK.out _ _ ⟨rfl, rfl, rfl, rfl, rfl, rfl, rfl, rfl, HI64.out⟩ (HST.out w3 (Fr.refl _ _)).2.2.2.2.2.2.2.2.1 (HST.out w3 (Fr.refl _ _)).2.2.2.2.2.2.2.2.2.1

  · obtain rfl : r = false := by rw [HE.out, decide_eq_false h2]; rfl
    have hb : (xk == 3) = false := beq_eq_false_iff_ne.2 h2
    go_wp2_with fail
    rw [HW3.out]
    exact HK.out _ _ ⟨rfl, rfl, rfl, rfl, rfl, rfl, rfl, rfl, HI64.out⟩ (HST.out w3 (Fr.refl _ _)).2.2.2.2.2.2.2.2.1 (HST.out w3 (Fr.refl _ _)).2.2.2.2.2.2.2.2.2.1

set_option maxRecDepth 1000000 in
set_option maxHeartbeats 16000000 in
theorem case4 (ns : List Nod) (M c h : Nat) (xk : Int) (xn : Nat) (xs : ByteArray) (xl : List It) (Ax : Option Addr) (j cx lo hi : Nat) (w : World) (ad : Addr) (A1 : Option Addr) (c1 go k0 i : Nat) (nlo nhi : Int) (v : It) (l : List Int) (f : List Fld) (Av : Option Addr) (cv : Nat) (Al : Option Addr) (cl : Nat) (Af : Option Addr) (cf : Nat) (x3 : Int) (x4 : Nat) (x5 : ByteArray) (x6 x7 x8 : Nat) (r : Bool) (wr : World) (H : RK ns M c h xk xn xs xl Ax j cx lo hi w ad A1 c1 go k0 i 4 nlo nhi v l f Av cv Al cl Af cf x3 x4 x5 x6 x7 x8 r wr) (T : Nat → Value) (KK : Act → World → Prop) (Q0 : Exit → Act → World → Prop)
    (hK : ∀ t w', FrR t M c xk xn xs Ax j cx w ad A1 c1 go ((i : Int) - 1) → BV w' go M (fun q => if M - (k0 + 1) ≤ q then isV ns q (It.mk xk xn xs xl) else false) → Fr (fun b => b = go) wr w' → KK ⟨t, []⟩ w') :
    Code.wp Tryd.prog body2 (Exit.then KK Q0) ⟨#[.agg #[.slice (some ad) M c], .agg #[.int .i64 xk, .int .u64 xn, .string xs, .slice Ax j cx], .pointer (some ⟨w.heap.size, 0, none⟩), .pointer (some ⟨w.heap.size + 1, 0, none⟩), .slice none 0 0, .slice (some ⟨go, 0, none⟩) M M, .slice A1 j c1, T 7, .int .i64 (i : Int), T 9, T 10, T 11, T 12, T 13, T 14, T 15, T 16, T 17, T 18, T 19, T 20, T 21, T 22, T 23, T 24, T 25, T 26, T 27, T 28, T 29, T 30, T 31, T 32, T 33, T 34, T 35, T 36, T 37, T 38, T 39, T 40, T 41, T 42, T 43, T 44, T 45, T 46, T 47, T 48, T 49, T 50, T 51, T 52, T 53, T 54, T 55, T 56, T 57, T 58, T 59, T 60, T 61, T 62, T 63, T 64, T 65, T 66, T 67, T 68, T 69, T 70, T 71, T 72, T 73, T 74, T 75, T 76, T 77, T 78, T 79, T 80, T 81, T 82, T 83, T 84, T 85, T 86, T 87, T 88, T 89, T 90, T 91, T 92, T 93, T 94, T 95, T 96, T 97, T 98, T 99, T 100, T 101, T 102, T 103, T 104, T 105, T 106, T 107, T 108, T 109, T 110, T 111, T 112, T 113, T 114, T 115, T 116, T 117, T 118, T 119, T 120, T 121, T 122, T 123, T 124, T 125, T 126, T 127, T 128, T 129, T 130, T 131, T 132, T 133, T 134, T 135, T 136, T 137, T 138, T 139, T 140, T 141, T 142, T 143, T 144, T 145, T 146, T 147, T 148, T 149, T 150, T 151, T 152, T 153, T 154, T 155, T 156, T 157, T 158, T 159, T 160, T 161, T 162, T 163, T 164, T 165, T 166, T 167, T 168, T 169, T 170, T 171, T 172, T 173, T 174, T 175, T 176, T 177, T 178, T 179, T 180, T 181, T 182, T 183, T 184, T 185, T 186, T 187, T 188, T 189, T 190, T 191, T 192, T 193, T 194, T 195, T 196, T 197, T 198, T 199, T 200, T 201, T 202, T 203, T 204, T 205, T 206, T 207, T 208, T 209, T 210, T 211, T 212, T 213, T 214, T 215, T 216, T 217, T 218, T 219, T 220, T 221, T 222, T 223, T 224, T 225, T 226, T 227, T 228, T 229, T 230, T 231, T 232, T 233, T 234, T 235, T 236, T 237, T 238, T 239, T 240, T 241, T 242, T 243, T 244, T 245, T 246, T 247, T 248, T 249, T 250, T 251, T 252, T 253, T 254, T 255, T 256, T 257, T 258, T 259, T 260, T 261, T 262, T 263, T 264, T 265, T 266, T 267, T 268, T 269, T 270, T 271, T 272, T 273, T 274, T 275, T 276, T 277, T 278, T 279, T 280, T 281, T 282, T 283, T 284, T 285, T 286, T 287, T 288, T 289, T 290, T 291, T 292, T 293, T 294, T 295, T 296, T 297, T 298, T 299, T 300, T 301, T 302, T 303, T 304, T 305, T 306, T 307, T 308, T 309, T 310, T 311, T 312, T 313, T 314, T 315, T 316, T 317, T 318, T 319, T 320, T 321, T 322, T 323, T 324, T 325, T 326, T 327, T 328, T 329, T 330, T 331, T 332, T 333, T 334, T 335, T 336, T 337, T 338, T 339, T 340, T 341, T 342, T 343, T 344, T 345, T 346, T 347, T 348, T 349, T 350], []⟩ wr := by
  have HK := hid hK
  have HH := hid H
  have m0 := fun o => cell_a H.n0 o
  have m1 := fun o => cell_a H.n1 o
  have m2 := fun o => cell_a H.n2 o
  have m3 := fun o => cell_a H.n3 o
  have m4 := fun o => cell_a H.n4 o
  have m5 := fun o => cell_a H.n5 o
  have m6 := fun o => cell_a H.n6 o
  have m7 := fun o => cell_a H.n7 o
  have m8 := fun o => cell_a H.n8 o
  have n0 := H.n0
  have n1 := H.n1
  have n2 := H.n2
  have n3 := H.n3
  have n4 := H.n4
  have n5 := H.n5
  have n6 := H.n6
  have n7 := H.n7
  have n8 := H.n8
  have p0 := H.s0
  have p2 := H.y2
  have q0 := fun o => cell_a H.s0 o
  have q1 := fun o => cell_a H.y0 o
  have q2 := fun o => cell_a H.y1 o
  have q3 := fun o => cell_a H.y2 o
  have q4 := fun o => cell_a H.y3 o
  have hi0 : (0 : Int) ≤ (i : Int) := by omega
  have HI64 := hid (show some (Value.int .i64 (wrap64 ((i : Int) - 1))) = some (Value.int .i64 ((i : Int) - 1)) by rw [wrap64_in _ (by have := H.ik; have := H.hM; omega)])
  have him : (i : Int) < (M : Int) := by have := H.ik; omega
  have hic : (i : Int) < (c : Int) := by have := H.ik; have := H.hc; omega
  obtain ⟨w3, hw3⟩ : ∃ w3, wr.alloc (.cells #[.int .i64 4, .int .i64 nlo, .int .i64 nhi, .int .i64 x3, .int .u64 x4, .string x5, .slice Av x6 cv, .slice Al x7 cl, .slice Af x8 cf] 54) = w3 := ⟨_, rfl⟩
  have HST := hid (show ∀ w', Fr (fun _ => False) w3 w' → _ by rw [← hw3]; exact H.step)
  obtain ⟨_, _, _, _, _, _, g1, g2, _, _, hf3⟩ := HST.out w3 (Fr.refl _ _)
  have q5 : (wr.alloc (.cells #[.int .i64 4, .int .i64 nlo, .int .i64 nhi, .int .i64 x3, .int .u64 x4, .string x5, .slice Av x6 cv, .slice Al x7 cl, .slice Af x8 cf] 54)).cell? ⟨go, i, none⟩ = some (.bool false) := by rw [hw3]; exact g1
  have q6 : (wr.alloc (.cells #[.int .i64 4, .int .i64 nlo, .int .i64 nhi, .int .i64 x3, .int .u64 x4, .string x5, .slice Av x6 cv, .slice Al x7 cl, .slice Af x8 cf] 54)).frozen? ⟨go, i, none⟩ = false := by rw [hw3]; exact g2
  have HF3 := hid hf3
  have HW3 := hid hw3
  clear hw3 H hK g1 g2 hf3
  conv => arg 2; whnf
  have HE := hid (show r = decide (It.mk xk xn xs xl = v) by rw [HH.out.eq, one4 rfl])
  go_wp2_with fail
  rw [HW3.out]
  refine (refsame_calls 2000000 (.mk xk xn xs xl) v HH.out.xsz (Nat.le_refl _) lo hi 0 h _ _ w3 (Nat.le_trans HH.out.hh HF3.out.size) (Nat.le_trans HH.out.nd.hh HF3.out.size) (HH.out.it.fr0 HF3.out HH.out.hh) (HH.out.va.fr0 HF3.out HH.out.nd.hh)).mono ?_
  rintro e w4 ⟨rfl, hf⟩
  have HF4 := hid hf
  rw [← HE.out]
  obtain ⟨_, _, _, _, _, _, g1, g2, _, _, _⟩ := HST.out w4 HF4.out
  clear hf m0 m1 m2 m3 m4 m5 m6 m7 m8 q0 q1 q2 q3 q4 q5 q6 n0 n1 n2 n3 n4 n5 n6 n7 n8 p0 p2
  go_wp2_with fail
  exact HK.out _ _ ⟨rfl, rfl, rfl, rfl, rfl, rfl, rfl, rfl, HI64.out⟩ (HST.out w4 HF4.out).2.2.2.2.2.2.2.2.1 (HST.out w4 HF4.out).2.2.2.2.2.2.2.2.2.1

set_option maxRecDepth 1000000 in
set_option maxHeartbeats 16000000 in
theorem case5 (ns : List Nod) (M c h : Nat) (xk : Int) (xn : Nat) (xs : ByteArray) (xl : List It) (Ax : Option Addr) (j cx lo hi : Nat) (w : World) (ad : Addr) (A1 : Option Addr) (c1 go k0 i : Nat) (nlo nhi : Int) (v : It) (l : List Int) (f : List Fld) (Av : Option Addr) (cv : Nat) (Al : Option Addr) (cl : Nat) (Af : Option Addr) (cf : Nat) (x3 : Int) (x4 : Nat) (x5 : ByteArray) (x6 x7 x8 : Nat) (r : Bool) (wr : World) (H : RK ns M c h xk xn xs xl Ax j cx lo hi w ad A1 c1 go k0 i 5 nlo nhi v l f Av cv Al cl Af cf x3 x4 x5 x6 x7 x8 r wr) (T : Nat → Value) (KK : Act → World → Prop) (Q0 : Exit → Act → World → Prop)
    (hK : ∀ t w', FrR t M c xk xn xs Ax j cx w ad A1 c1 go ((i : Int) - 1) → BV w' go M (fun q => if M - (k0 + 1) ≤ q then isV ns q (It.mk xk xn xs xl) else false) → Fr (fun b => b = go) wr w' → KK ⟨t, []⟩ w') :
    Code.wp Tryd.prog body2 (Exit.then KK Q0) ⟨#[.agg #[.slice (some ad) M c], .agg #[.int .i64 xk, .int .u64 xn, .string xs, .slice Ax j cx], .pointer (some ⟨w.heap.size, 0, none⟩), .pointer (some ⟨w.heap.size + 1, 0, none⟩), .slice none 0 0, .slice (some ⟨go, 0, none⟩) M M, .slice A1 j c1, T 7, .int .i64 (i : Int), T 9, T 10, T 11, T 12, T 13, T 14, T 15, T 16, T 17, T 18, T 19, T 20, T 21, T 22, T 23, T 24, T 25, T 26, T 27, T 28, T 29, T 30, T 31, T 32, T 33, T 34, T 35, T 36, T 37, T 38, T 39, T 40, T 41, T 42, T 43, T 44, T 45, T 46, T 47, T 48, T 49, T 50, T 51, T 52, T 53, T 54, T 55, T 56, T 57, T 58, T 59, T 60, T 61, T 62, T 63, T 64, T 65, T 66, T 67, T 68, T 69, T 70, T 71, T 72, T 73, T 74, T 75, T 76, T 77, T 78, T 79, T 80, T 81, T 82, T 83, T 84, T 85, T 86, T 87, T 88, T 89, T 90, T 91, T 92, T 93, T 94, T 95, T 96, T 97, T 98, T 99, T 100, T 101, T 102, T 103, T 104, T 105, T 106, T 107, T 108, T 109, T 110, T 111, T 112, T 113, T 114, T 115, T 116, T 117, T 118, T 119, T 120, T 121, T 122, T 123, T 124, T 125, T 126, T 127, T 128, T 129, T 130, T 131, T 132, T 133, T 134, T 135, T 136, T 137, T 138, T 139, T 140, T 141, T 142, T 143, T 144, T 145, T 146, T 147, T 148, T 149, T 150, T 151, T 152, T 153, T 154, T 155, T 156, T 157, T 158, T 159, T 160, T 161, T 162, T 163, T 164, T 165, T 166, T 167, T 168, T 169, T 170, T 171, T 172, T 173, T 174, T 175, T 176, T 177, T 178, T 179, T 180, T 181, T 182, T 183, T 184, T 185, T 186, T 187, T 188, T 189, T 190, T 191, T 192, T 193, T 194, T 195, T 196, T 197, T 198, T 199, T 200, T 201, T 202, T 203, T 204, T 205, T 206, T 207, T 208, T 209, T 210, T 211, T 212, T 213, T 214, T 215, T 216, T 217, T 218, T 219, T 220, T 221, T 222, T 223, T 224, T 225, T 226, T 227, T 228, T 229, T 230, T 231, T 232, T 233, T 234, T 235, T 236, T 237, T 238, T 239, T 240, T 241, T 242, T 243, T 244, T 245, T 246, T 247, T 248, T 249, T 250, T 251, T 252, T 253, T 254, T 255, T 256, T 257, T 258, T 259, T 260, T 261, T 262, T 263, T 264, T 265, T 266, T 267, T 268, T 269, T 270, T 271, T 272, T 273, T 274, T 275, T 276, T 277, T 278, T 279, T 280, T 281, T 282, T 283, T 284, T 285, T 286, T 287, T 288, T 289, T 290, T 291, T 292, T 293, T 294, T 295, T 296, T 297, T 298, T 299, T 300, T 301, T 302, T 303, T 304, T 305, T 306, T 307, T 308, T 309, T 310, T 311, T 312, T 313, T 314, T 315, T 316, T 317, T 318, T 319, T 320, T 321, T 322, T 323, T 324, T 325, T 326, T 327, T 328, T 329, T 330, T 331, T 332, T 333, T 334, T 335, T 336, T 337, T 338, T 339, T 340, T 341, T 342, T 343, T 344, T 345, T 346, T 347, T 348, T 349, T 350], []⟩ wr := by
  have HK := hid hK
  have HH := hid H
  have m0 := fun o => cell_a H.n0 o
  have m1 := fun o => cell_a H.n1 o
  have m2 := fun o => cell_a H.n2 o
  have m3 := fun o => cell_a H.n3 o
  have m4 := fun o => cell_a H.n4 o
  have m5 := fun o => cell_a H.n5 o
  have m6 := fun o => cell_a H.n6 o
  have m7 := fun o => cell_a H.n7 o
  have m8 := fun o => cell_a H.n8 o
  have n0 := H.n0
  have n1 := H.n1
  have n2 := H.n2
  have n3 := H.n3
  have n4 := H.n4
  have n5 := H.n5
  have n6 := H.n6
  have n7 := H.n7
  have n8 := H.n8
  have p0 := H.s0
  have p2 := H.y2
  have q0 := fun o => cell_a H.s0 o
  have q1 := fun o => cell_a H.y0 o
  have q2 := fun o => cell_a H.y1 o
  have q3 := fun o => cell_a H.y2 o
  have q4 := fun o => cell_a H.y3 o
  have hi0 : (0 : Int) ≤ (i : Int) := by omega
  have HI64 := hid (show some (Value.int .i64 (wrap64 ((i : Int) - 1))) = some (Value.int .i64 ((i : Int) - 1)) by rw [wrap64_in _ (by have := H.ik; have := H.hM; omega)])
  have him : (i : Int) < (M : Int) := by have := H.ik; omega
  have hic : (i : Int) < (c : Int) := by have := H.ik; have := H.hc; omega
  obtain ⟨w3, hw3⟩ : ∃ w3, wr.alloc (.cells #[.int .i64 5, .int .i64 nlo, .int .i64 nhi, .int .i64 x3, .int .u64 x4, .string x5, .slice Av x6 cv, .slice Al x7 cl, .slice Af x8 cf] 54) = w3 := ⟨_, rfl⟩
  have HST := hid (show ∀ w', Fr (fun _ => False) w3 w' → _ by rw [← hw3]; exact H.step)
  obtain ⟨_, _, _, _, _, _, g1, g2, _, _, hf3⟩ := HST.out w3 (Fr.refl _ _)
  have q5 : (wr.alloc (.cells #[.int .i64 5, .int .i64 nlo, .int .i64 nhi, .int .i64 x3, .int .u64 x4, .string x5, .slice Av x6 cv, .slice Al x7 cl, .slice Af x8 cf] 54)).cell? ⟨go, i, none⟩ = some (.bool false) := by rw [hw3]; exact g1
  have q6 : (wr.alloc (.cells #[.int .i64 5, .int .i64 nlo, .int .i64 nhi, .int .i64 x3, .int .u64 x4, .string x5, .slice Av x6 cv, .slice Al x7 cl, .slice Af x8 cf] 54)).frozen? ⟨go, i, none⟩ = false := by rw [hw3]; exact g2
  have HF3 := hid hf3
  have HW3 := hid hw3
  clear hw3 H hK g1 g2 hf3
  conv => arg 2; whnf
  have HE := hid (show r = decide (xk = 8) by rw [HH.out.eq, one5 rfl]; rfl)
  by_cases h2 : xk = 8
  · obtain rfl : r = true := by rw [HE.out, decide_eq_true h2]
    subst h2
    go_wp2_with fail
    rw [HW3.out]
    exact HK.out _ _ ⟨rfl, rfl, rfl, rfl, rfl, rfl, rfl, rfl, HI64.out⟩ (HST.out w3 (Fr.refl _ _)).2.2.2.2.2.2.2.2.1 (HST.out w3 (Fr.refl _ _)).2.2.2.2.2.2.2.2.2.1

  · obtain rfl : r = false := by rw [HE.out, decide_eq_false h2]
    have hb : (xk == 8) = false := beq_eq_false_iff_ne.2 h2
    go_wp2_with fail
    rw [HW3.out]
    exact HK.out _ _ ⟨rfl, rfl, rfl, rfl, rfl, rfl, rfl, rfl, HI64.out⟩ (HST.out w3 (Fr.refl _ _)).2.2.2.2.2.2.2.2.1 (HST.out w3 (Fr.refl _ _)).2.2.2.2.2.2.2.2.2.1

theorem getD0 {l : List Int} (hl : l.length = 1) {Al : Option Addr} {wr : World} (H : RdI .i64 wr Al l) {M i : Nat} (hn : ∀ p ∈ l, (i : Int) < p ∧ p < (M : Int)) : ∃ (al : Addr) (q : Nat), Al = some al ∧ wr.cell? al = some (.int .i64 (q : Int)) ∧ q < M ∧ l.getD 0 0 = (q : Int) ∧ i < q := by
  obtain ⟨al, rfl, _, ca⟩ := H 0 (by omega)
  obtain ⟨h1, h2⟩ := hn _ (getD_mem (l := l) (k := 0) (by omega))
  obtain ⟨q, hq⟩ : ∃ q : Nat, l.getD 0 0 = (q : Int) := ⟨(l.getD 0 0).toNat, by omega⟩
  rw [hq] at h1 h2 ca
  exact ⟨al, q, rfl, ca, by omega, hq, by omega⟩
