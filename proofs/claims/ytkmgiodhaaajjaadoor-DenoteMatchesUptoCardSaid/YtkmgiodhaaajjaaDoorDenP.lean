/- Which items a schema means: the plain law. No program is named here. -/
import Derived.Test.YtkmgiodhaaajjaaDoorSchM
set_option linter.unusedVariables false
set_option linter.unusedSimpArgs false
namespace Go.Proofs.YtkmgiodhaaajjaaDoor.DenP
open Go.RowKit Go.Proofs.YtkmgiodhaaajjaaDoor.Mem Go.Proofs.YtkmgiodhaaajjaaDoor.UtfP Go.Proofs.YtkmgiodhaaajjaaDoor.ItemP Go.Proofs.YtkmgiodhaaajjaaDoor.SchP

/-- Is the number of a Uint or Nint from lo to hi? -/
def numV (x : It) (lo hi : Int) : Bool :=
  if 9223372036854775807 < x.n then false else if x.k = 0 then decide (lo ≤ (x.n : Int) ∧ (x.n : Int) ≤ hi) else decide (x.k = 1 ∧ lo ≤ -1 - (x.n : Int) ∧ -1 - (x.n : Int) ≤ hi)
/-- Is the key of pair m this text? -/
def keyAt (l : List It) (m : Nat) (s : ByteArray) : Bool := decide ((l.getD (2 * m) noIt).k = 3) && decide ((l.getD (2 * m) noIt).s = s)
/-- Has one of the first j pairs the key of this field? -/
def hitBy (l : List It) (j : Nat) (f : Fld) : Bool := (List.range j).any (fun m => keyAt l m f.key)
/-- Pairs against fields; B k j: matches item k node j? -/
def recV (l : List It) (fs : List Fld) (B : Nat → Int → Bool) : Bool :=
  (List.range (l.length / 2)).all (fun m => fs.any (fun f => keyAt l m f.key && B (2 * m + 1) f.node)) && fs.all (fun f => f.opt || hitBy l (l.length / 2) f)
/-- An item against one node, once it is known which nodes its items match (B) and it matches itself (g). -/
def oneV (n : Nod) (x : It) (B : Nat → Int → Bool) (g : Int → Bool) : Bool :=
  if n.k = 0 then true
  else if n.k = 1 then numV x n.lo n.hi
  else if n.k = 2 then decide (x.k = 2) && decide (n.lo ≤ (x.s.size : Int) ∧ (x.s.size : Int) ≤ n.hi)
  else if n.k = 3 then decide (x.k = 3) && decide (n.lo ≤ (x.s.size : Int) ∧ (x.s.size : Int) ≤ n.hi)
  else if n.k = 4 then x.same n.v
  else if n.k = 5 then decide (x.k = 8)
  else if n.k = 6 then decide (x.k = 4) && decide (n.lo ≤ (x.l.length : Int) ∧ (x.l.length : Int) ≤ n.hi) && (List.range x.l.length).all (fun k => B k (n.l.getD 0 0))
  else if n.k = 7 then decide (x.k = 4) && decide (x.l.length = n.l.length) && (List.range x.l.length).all (fun k => B k (n.l.getD k 0))
  else if n.k = 8 then decide (x.k = 5) && recV x.l n.f B
  else if n.k = 9 then decide (x.k = 6) && decide ((x.n : Int) = n.lo) && B 0 (n.l.getD 0 0)
  else n.l.any g
def noNd : Nod := ⟨0, 0, 0, noIt, [], []⟩
/-- Whether an item matches a node, by as many steps at most. -/
def mt (ns : List Nod) : Nat → Nat → It → Bool
  | 0, _, _ => false
  | d + 1, i, x => oneV (ns.getD i noNd) x (fun k j => mt ns d j.toNat (x.l.getD k noIt)) (fun j => mt ns d j.toNat x)
/-- Each node leads on. -/
def Leads (ns : List Nod) : Prop := ∀ i (h : i < ns.length), ns[i].ok = true ∧ ∀ k ∈ ns[i].named, (i : Int) < k ∧ k < (ns.length : Int)

theorem all_congr {α : Type} {l : List α} {p q : α → Bool} (h : ∀ x ∈ l, p x = q x) : l.all p = l.all q := by
  induction l with
  | nil => rfl
  | cons x l ih => rw [List.all_cons, List.all_cons, h x (by simp), ih (fun y hy => h y (by simp [hy]))]
theorem any_congr {α : Type} {l : List α} {p q : α → Bool} (h : ∀ x ∈ l, p x = q x) : l.any p = l.any q := by
  induction l with
  | nil => rfl
  | cons x l ih => rw [List.any_cons, List.any_cons, h x (by simp), ih (fun y hy => h y (by simp [hy]))]
theorem getD_mem {l : List Int} {k : Nat} (h : k < l.length) : l.getD k 0 ∈ l := by
  rw [List.getD_eq_getElem?_getD, List.getElem?_eq_getElem h]
  exact List.getElem_mem h
theorem ok_one {n : Nod} (h : n.ok = true) (hk : n.k = 6 ∨ n.k = 9) : n.l.length = 1 := by
  unfold Nod.ok at h
  rw [if_neg (by omega), if_neg (by omega), if_neg (by omega), if_pos (by omega)] at h
  simpa using h
/-- Only the nodes that a node names count. -/
theorem oneV_congr {n : Nod} {x : It} {B B' : Nat → Int → Bool} {g g' : Int → Bool} (ho : n.ok = true) (hB : ∀ k, ∀ j ∈ n.named, B k j = B' k j) (hg : ∀ j ∈ n.named, g j = g' j) : oneV n x B g = oneV n x B' g' := by
  have hl : ∀ j ∈ n.l, j ∈ n.named := fun j hj => by simp [Nod.named, hj]
  have hf : ∀ f ∈ n.f, f.node ∈ n.named := fun f hf => by
    simp only [Nod.named, List.mem_append, List.mem_map]
    exact Or.inr ⟨f, hf, rfl⟩
  unfold oneV
  by_cases h0 : n.k = 0
  · rw [if_pos h0, if_pos h0]
  rw [if_neg h0, if_neg h0]
  by_cases h1 : n.k = 1
  · rw [if_pos h1, if_pos h1]
  rw [if_neg h1, if_neg h1]
  by_cases h2 : n.k = 2
  · rw [if_pos h2, if_pos h2]
  rw [if_neg h2, if_neg h2]
  by_cases h3 : n.k = 3
  · rw [if_pos h3, if_pos h3]
  rw [if_neg h3, if_neg h3]
  by_cases h4 : n.k = 4
  · rw [if_pos h4, if_pos h4]
  rw [if_neg h4, if_neg h4]
  by_cases h5 : n.k = 5
  · rw [if_pos h5, if_pos h5]
  rw [if_neg h5, if_neg h5]
  by_cases h6 : n.k = 6
  · rw [if_pos h6, if_pos h6]
    have := ok_one ho (Or.inl h6)
    rw [all_congr (fun k hk => hB k _ (hl _ (getD_mem (by omega))))]
  rw [if_neg h6, if_neg h6]
  by_cases h7 : n.k = 7
  · rw [if_pos h7, if_pos h7]
    cases hq : decide (x.l.length = n.l.length)
    · simp
    · have := of_decide_eq_true hq
      rw [all_congr (fun k hk => hB k _ (hl _ (getD_mem (by have := List.mem_range.1 hk; omega))))]
  rw [if_neg h7, if_neg h7]
  by_cases h8 : n.k = 8
  · rw [if_pos h8, if_pos h8]
    unfold recV
    rw [all_congr (fun m hm => any_congr (fun f hff => by rw [hB _ _ (hf f hff)]))]
  rw [if_neg h8, if_neg h8]
  by_cases h9 : n.k = 9
  · rw [if_pos h9, if_pos h9]
    have := ok_one ho (Or.inr h9)
    rw [hB 0 _ (hl _ (getD_mem (by omega)))]
  rw [if_neg h9, if_neg h9]
  exact any_congr (fun j hj => hg j (hl j hj))
theorem getD_nd {ns : List Nod} {i : Nat} (h : i < ns.length) : ns.getD i noNd = ns[i] := by
  rw [List.getD_eq_getElem?_getD, List.getElem?_eq_getElem h]
  rfl
/-- How many steps are given counts nothing, if there are enough. -/
theorem mt_fuel {ns : List Nod} (H : Leads ns) : ∀ (d d' i : Nat) (x : It), i < ns.length → ns.length - i ≤ d → ns.length - i ≤ d' → mt ns d i x = mt ns d' i x
  | 0, d', i, x, hi, h, h' => by omega
  | d + 1, 0, i, x, hi, h, h' => by omega
  | d + 1, d' + 1, i, x, hi, h, h' => by
    unfold mt
    rw [getD_nd hi]
    obtain ⟨ho, hn⟩ := H i hi
    refine oneV_congr ho (fun k j hj => ?_) (fun j hj => ?_)
    · have := hn j hj
      exact mt_fuel H d d' j.toNat _ (by omega) (by omega) (by omega)
    · have := hn j hj
      exact mt_fuel H d d' j.toNat _ (by omega) (by omega) (by omega)
/-- Whether an item matches a node. -/
def isV (ns : List Nod) (i : Nat) (x : It) : Bool := mt ns ns.length i x
theorem isV_eq {ns : List Nod} (H : Leads ns) (i : Nat) (x : It) (hi : i < ns.length) : isV ns i x = oneV ns[i] x (fun k j => isV ns j.toNat (x.l.getD k noIt)) (fun j => isV ns j.toNat x) := by
  unfold isV
  rw [mt_fuel H ns.length (ns.length + 1) i x hi (by omega) (by omega)]
  conv => lhs; unfold mt
  rw [getD_nd hi]
/-- A well-formed schema leads on. -/
theorem checkFrom_zero : ∀ (l : List Nod) (i m : Nat), (checkFrom l i m).2 = 0 → ∀ j (hj : j < l.length), l[j].wrong (i + j) m = 0
  | n :: l, i, m, h, j, hj => by
    unfold checkFrom at h
    by_cases hw : n.wrong i m ≠ 0
    · rw [if_pos hw] at h
      exact absurd h hw
    · rw [if_neg hw] at h
      cases j with
      | zero => simpa using hw
      | succ j =>
        have := checkFrom_zero l (i + 1) m h j (by simpa using hj)
        rw [show i + (j + 1) = i + 1 + j by omega]
        simpa using this
theorem check_wrong {ns : List Nod} (h : (checkS ns).2 = 0) : 1 ≤ ns.length ∧ ns.length ≤ 256 ∧ ∀ i (hi : i < ns.length), ns[i].wrong i ns.length = 0 := by
  unfold checkS at h
  by_cases hl : ns.length < 1 ∨ 256 < ns.length
  · rw [if_pos hl] at h
    cases h
  · rw [if_neg hl] at h
    refine ⟨by omega, by omega, fun i hi => ?_⟩
    have := checkFrom_zero ns 0 ns.length h i hi
    rwa [Nat.zero_add] at this
theorem wrong_zero {n : Nod} {i m : Nat} (h : n.wrong i m = 0) : (0 ≤ n.k ∧ n.k ≤ 10) ∧ n.ok = true ∧ n.bare = n ∧ n.bounds = true ∧ keysE [] n.f = 0 ∧ ∀ k ∈ n.named, (i : Int) < k ∧ k < (m : Int) := by
  unfold Nod.wrong at h
  by_cases h1 : n.k < 0 ∨ 10 < n.k
  · rw [if_pos h1] at h; cases h
  rw [if_neg h1] at h
  by_cases h2 : n.formB = false
  · rw [if_pos h2] at h; cases h
  rw [if_neg h2] at h
  by_cases h3 : n.bounds = false
  · rw [if_pos h3] at h; cases h
  rw [if_neg h3] at h
  by_cases h4 : keysE [] n.f ≠ 0
  · rw [if_pos h4] at h; exact absurd h h4
  rw [if_neg h4] at h
  by_cases h5 : n.named.any (badN i m) = true
  · rw [if_pos h5] at h; cases h
  have hf : n.formB = true := by simpa using h2
  unfold Nod.formB at hf
  rw [Bool.and_eq_true, decide_eq_true_eq] at hf
  refine ⟨by omega, hf.1, hf.2, by simpa using h3, by simpa using h4, fun k hk => ?_⟩
  have hb : badN i m k = false := by
    cases hb : badN i m k
    · rfl
    · exact absurd (List.any_eq_true.2 ⟨k, hk, hb⟩) h5
  unfold badN at hb
  rw [Bool.or_eq_false_iff, decide_eq_false_iff_not, decide_eq_false_iff_not] at hb
  omega
theorem leads_of {ns : List Nod} (h : (checkS ns).2 = 0) : Leads ns := fun i hi => by
  have := wrong_zero ((check_wrong h).2.2 i hi)
  exact ⟨this.2.1, this.2.2.2.2.2⟩
/-- Fields of different keys. -/
theorem keys_apart : ∀ (l : List Fld) (seen : List ByteArray), keysE seen l = 0 → (∀ f ∈ l, f.key ∉ seen) ∧ l.Pairwise (fun f g => f.key ≠ g.key)
  | [], seen, _ => ⟨by simp, List.Pairwise.nil⟩
  | f :: l, seen, h => by
    unfold keysE at h
    by_cases h1 : validS f.key = false
    · rw [if_pos h1] at h; cases h
    rw [if_neg h1] at h
    by_cases h2 : 1021 < f.key.size
    · rw [if_pos h2] at h; cases h
    rw [if_neg h2] at h
    by_cases h3 : seen.any (fun s => decide (s = f.key)) = true
    · rw [if_pos h3] at h; cases h
    rw [if_neg h3] at h
    obtain ⟨g1, g2⟩ := keys_apart l _ h
    have h0 : f.key ∉ seen := fun hm => h3 (List.any_eq_true.2 ⟨f.key, hm, by simp⟩)
    refine ⟨fun g hg => ?_, List.Pairwise.cons (fun g hg he => g1 g hg (by simp [he])) g2⟩
    rcases List.mem_cons.1 hg with rfl | hg
    · exact h0
    · exact fun hm => g1 g hg (by simp [hm])

/-- An item that may be: all items in it are right by themselves. -/
def MayBe (x : It) : Prop := ∀ p ∈ x.all 1, p.1.wrong = 0
theorem firstW_zero : ∀ (l : List (It × Nat)), firstW l = 0 → ∀ p ∈ l, p.1.wrong = 0
  | [], _, p, hp => by simp at hp
  | y :: l, h, p, hp => by
    unfold firstW at h
    by_cases hw : y.1.wrong ≠ 0
    · rw [if_pos hw] at h; exact absurd h hw
    · rw [if_neg hw] at h
      rcases List.mem_cons.1 hp with rfl | hp
      · simpa using hw
      · exact firstW_zero l h p hp
theorem good_of {x : It} (h : x.check = 0) : MayBe x := by
  unfold It.check at h
  by_cases hd : 64 < x.depth
  · rw [if_pos hd] at h; cases h
  · rw [if_neg hd] at h
    exact firstW_zero _ h
mutual
theorem all_fst : ∀ (x : It) (d e : Nat), (x.all d).map Prod.fst = (x.all e).map Prod.fst
  | .mk k n s l, d, e => by simp [It.all, alls_fst l (d + 1) (e + 1)]
theorem alls_fst : ∀ (l : List It) (d e : Nat), (alls l d).map Prod.fst = (alls l e).map Prod.fst
  | [], d, e => rfl
  | x :: l, d, e => by simp [alls, all_fst x d e, alls_fst l d e]
end
theorem alls_mem : ∀ (l : List It) (d j : Nat) (hj : j < l.length), ∀ p ∈ (l[j]).all d, p ∈ alls l d
  | x :: l, d, 0, _, p, hp => by simp only [alls, List.mem_append]; exact Or.inl hp
  | x :: l, d, j + 1, hj, p, hp => by
    simp only [alls, List.mem_append]
    exact Or.inr (alls_mem l d j (by simpa using hj) p (by simpa using hp))
theorem MayBe.kid {x : It} (h : MayBe x) (j : Nat) (hj : j < x.l.length) : MayBe x.l[j] := by
  intro p hp
  have h1 : p.1 ∈ ((x.l[j]).all 2).map Prod.fst := by
    rw [all_fst _ 2 1]
    exact List.mem_map.2 ⟨p, hp, rfl⟩
  obtain ⟨q, hq, he⟩ := List.mem_map.1 h1
  rw [← he]
  refine h q ?_
  have := alls_mem x.l 2 j hj q hq
  cases x with
  | mk k n s l =>
    simp only [It.all, List.mem_cons]
    exact Or.inr this
theorem MayBe.self {x : It} (h : MayBe x) : x.wrong = 0 := h (x, 1) (by cases x; simp [It.all])
theorem MayBe.form {x : It} (h : MayBe x) : x.form = true := by
  have := h.self
  unfold It.wrong at this
  by_cases hf : x.form = false
  · rw [if_pos hf] at this; cases this
  · simpa using hf
theorem MayBe.dup {x : It} (h : MayBe x) (hk : x.k = 5) : ¬ ItemP.dup x.l := by
  have := h.self
  unfold It.wrong at this
  intro hd
  rw [if_neg (by rw [h.form]; simp), if_neg (by omega), if_neg (by omega), if_pos ⟨hk, hd⟩] at this
  cases this
theorem MayBe.even {x : It} (h : MayBe x) (hk : x.k = 5) : x.l.length % 2 = 0 := by
  have := h.form
  cases x with
  | mk k n s l =>
    obtain rfl : k = 5 := hk
    simp [It.form] at this
    exact this.2
theorem MayBe.tag {x : It} (h : MayBe x) (hk : x.k = 6) : x.l.length = 1 := by
  have := h.form
  cases x with
  | mk k n s l =>
    obtain rfl : k = 6 := hk
    simp [It.form] at this
    exact this.2
theorem MayBe.text {x : It} (h : MayBe x) (hk : x.k = 3) : x = .mk 3 0 x.s [] := by
  have := h.form
  cases x with
  | mk k n s l =>
    obtain rfl : k = 3 := hk
    simp [It.form] at this
    simp only [It.s]
    rw [this.1, this.2]
theorem getD_it {l : List It} {i : Nat} (h : i < l.length) : l.getD i noIt = l[i] := by
  rw [List.getD_eq_getElem?_getD, List.getElem?_eq_getElem h]
  rfl
/-- Two pairs of one text key are one. -/
theorem key_once {x : It} (h : MayBe x) (hk : x.k = 5) {i j : Nat} {s : ByteArray} (hi : 2 * i < x.l.length) (hj : 2 * j < x.l.length) (h1 : keyAt x.l i s = true) (h2 : keyAt x.l j s = true) : i = j := by
  have hd := h.dup hk
  have e : ∀ m (hm : 2 * m < x.l.length), keyAt x.l m s = true → x.l[2 * m] = .mk 3 0 s [] := by
    intro m hm hq
    unfold keyAt at hq
    rw [getD_it hm, Bool.and_eq_true, decide_eq_true_eq, decide_eq_true_eq] at hq
    rw [(h.kid _ hm).text hq.1, hq.2]
  have he : x.l[2 * i]? = x.l[2 * j]? := by rw [List.getElem?_eq_getElem hi, List.getElem?_eq_getElem hj, e i hi h1, e j hj h2]
  rcases Nat.lt_trichotomy i j with hl | hl | hl
  · exact absurd ⟨i, j, hl, hj, he⟩ hd
  · exact hl
  · exact absurd ⟨j, i, hl, hi, he.symm⟩ hd

/-- Counts of two predicates that differ at one key alone. -/
theorem count_one : ∀ (fs : List Fld) (k : Nat) (hk : k < fs.length) (P Q : Fld → Bool), fs.Pairwise (fun f g => f.key ≠ g.key) → (∀ f ∈ fs, f.key ≠ fs[k].key → P f = Q f) → fs.countP P + (if Q fs[k] = true then 1 else 0) = fs.countP Q + (if P fs[k] = true then 1 else 0)
  | f :: fs, 0, _, P, Q, hp, h => by
    have e : fs.countP P = fs.countP Q := List.countP_congr (fun g hg => by rw [h g (by simp [hg]) (fun q => (List.pairwise_cons.1 hp).1 g hg (by simpa using q.symm))])
    simp only [List.getElem_cons_zero, List.countP_cons, e]
    omega
  | f :: fs, k + 1, hk, P, Q, hp, h => by
    have e := count_one fs k (by simpa using hk) P Q (List.pairwise_cons.1 hp).2 (fun g hg hn => h g (by simp [hg]) (by simpa using hn))
    have hf := h f (by simp) (by simpa using (List.pairwise_cons.1 hp).1 _ (List.getElem_mem _))
    simp only [List.getElem_cons_succ, List.countP_cons, hf]
    omega
theorem hit_zero (l : List It) (f : Fld) : hitBy l 0 f = false := by simp [hitBy]
theorem hit_succ (l : List It) (j : Nat) (f : Fld) : hitBy l (j + 1) f = (hitBy l j f || keyAt l j f.key) := by simp [hitBy, List.range_succ]
/-- How many fields that mustn't lack are not there in the first j pairs. -/
def left (l : List It) (fs : List Fld) (j : Nat) : Nat := fs.countP (fun f => !f.opt && !hitBy l j f)
def had (l : List It) (fs : List Fld) (j : Nat) : Nat := fs.countP (fun f => hitBy l j f)
theorem left_zero (l : List It) (fs : List Fld) : left l fs 0 = fs.countP (fun f => !f.opt) := by simp [left, hit_zero]
theorem had_zero (l : List It) (fs : List Fld) : had l fs 0 = 0 := by simp [had, hit_zero]
theorem key_eq {l : List It} {m : Nat} {s s' : ByteArray} (h : keyAt l m s = true) (h' : keyAt l m s' = true) : s = s' := by
  unfold keyAt at h h'
  rw [Bool.and_eq_true, decide_eq_true_eq, decide_eq_true_eq] at h h'
  exact h.2.symm.trans h'.2
theorem key_ne {l : List It} {m : Nat} {s s' : ByteArray} (h : keyAt l m s = true) (h' : s' ≠ s) : keyAt l m s' = false := by
  cases hq : keyAt l m s'
  · rfl
  · exact absurd (key_eq hq h) h'
theorem miss_step {l : List It} {fs : List Fld} {j : Nat} (h : ∀ f ∈ fs, keyAt l j f.key = false) : left l fs (j + 1) = left l fs j ∧ had l fs (j + 1) = had l fs j :=
  ⟨List.countP_congr (fun f hf => by simp [hit_succ, h f hf]), List.countP_congr (fun f hf => by simp [hit_succ, h f hf])⟩
theorem hit_not {x : It} (h : MayBe x) (hk : x.k = 5) {j : Nat} {f : Fld} (hj : 2 * j < x.l.length) (hq : keyAt x.l j f.key = true) : hitBy x.l j f = false := by
  cases hh : hitBy x.l j f
  · rfl
  · unfold hitBy at hh
    obtain ⟨m, hm, hm'⟩ := List.any_eq_true.1 hh
    have := List.mem_range.1 hm
    have := key_once h hk (by omega) hj hm' hq
    omega
theorem hit_step {x : It} {fs : List Fld} (h : MayBe x) (hk : x.k = 5) (hp : fs.Pairwise (fun f g => f.key ≠ g.key)) {j k : Nat} (hj : 2 * j < x.l.length) (hkf : k < fs.length) (hq : keyAt x.l j fs[k].key = true) :
    left x.l fs (j + 1) + (if fs[k].opt = true then 0 else 1) = left x.l fs j ∧ had x.l fs (j + 1) = had x.l fs j + 1 := by
  have h0 := hit_not h hk hj hq
  have e1 : left x.l fs (j + 1) + (if (!fs[k].opt && !hitBy x.l j fs[k]) = true then 1 else 0) = left x.l fs j + (if (!fs[k].opt && !hitBy x.l (j + 1) fs[k]) = true then 1 else 0) := count_one fs k hkf (fun f => !f.opt && !hitBy x.l (j + 1) f) (fun f => !f.opt && !hitBy x.l j f) hp (fun f hf hn => by simp [hit_succ, key_ne hq hn])
  have e2 : had x.l fs (j + 1) + (if hitBy x.l j fs[k] = true then 1 else 0) = had x.l fs j + (if hitBy x.l (j + 1) fs[k] = true then 1 else 0) := count_one fs k hkf (fun f => hitBy x.l (j + 1) f) (fun f => hitBy x.l j f) hp (fun f hf hn => by simp [hit_succ, key_ne hq hn])
  rw [hit_succ, h0, hq] at e1 e2
  cases ho : fs[k].opt
  · rw [ho] at e1
    simp at e1 e2 ⊢
    exact ⟨by omega, by omega⟩
  · rw [ho] at e1
    simp at e1 e2 ⊢
    exact ⟨by omega, by omega⟩
theorem had_count {x : It} {fs : List Fld} (h : MayBe x) (hk : x.k = 5) (hp : fs.Pairwise (fun f g => f.key ≠ g.key)) : ∀ j, j ≤ x.l.length / 2 → had x.l fs j = (List.range j).countP (fun m => fs.any (fun f => keyAt x.l m f.key))
  | 0, _ => by simp [had_zero]
  | j + 1, hj => by
    have ih := had_count h hk hp j (by omega)
    rw [List.range_succ, List.countP_append, List.countP_singleton, ← ih]
    by_cases ha : fs.any (fun f => keyAt x.l j f.key) = true
    · rw [if_pos ha]
      obtain ⟨f, hf, hq⟩ := List.any_eq_true.1 ha
      obtain ⟨k, hkf, rfl⟩ := List.getElem_of_mem hf
      exact (hit_step h hk hp (by omega) hkf hq).2
    · rw [if_neg ha]
      refine (miss_step (fun f hf => ?_)).2
      cases hq : keyAt x.l j f.key
      · rfl
      · exact absurd (List.any_eq_true.2 ⟨f, hf, hq⟩) ha
theorem rec_yes {l : List It} {fs : List Fld} {B : Nat → Int → Bool} (h : ∀ m, m < l.length / 2 → ∃ f ∈ fs, keyAt l m f.key = true ∧ B (2 * m + 1) f.node = true) : recV l fs B = decide (left l fs (l.length / 2) = 0) := by
  unfold recV left
  rw [show (List.range (l.length / 2)).all (fun m => fs.any (fun f => keyAt l m f.key && B (2 * m + 1) f.node)) = true from List.all_eq_true.2 (fun m hm => by
    obtain ⟨f, hf, h1, h2⟩ := h m (List.mem_range.1 hm)
    exact List.any_eq_true.2 ⟨f, hf, by rw [h1, h2]; rfl⟩), Bool.true_and]
  rw [Bool.eq_iff_iff, decide_eq_true_eq, List.countP_eq_zero, List.all_eq_true]
  constructor
  · intro g f hf hq
    have := g f hf
    cases ho : f.opt <;> simp_all
  · intro g f hf
    have := g f hf
    cases ho : f.opt <;> simp_all
theorem rec_no1 {l : List It} {fs : List Fld} {B : Nat → Int → Bool} {m : Nat} (hm : m < l.length / 2) (h : ∀ f ∈ fs, keyAt l m f.key = false) : recV l fs B = false := by
  unfold recV
  rw [Bool.and_eq_false_iff]
  refine Or.inl ?_
  rw [List.all_eq_false]
  refine ⟨m, List.mem_range.2 hm, ?_⟩
  simp only [Bool.not_eq_true, List.any_eq_false, Bool.and_eq_true, not_and]
  intro f hf hq
  rw [h f hf] at hq
  cases hq
theorem rec_no2 {l : List It} {fs : List Fld} {B : Nat → Int → Bool} {m k : Nat} (hp : fs.Pairwise (fun f g => f.key ≠ g.key)) (hm : m < l.length / 2) (hk : k < fs.length) (hq : keyAt l m fs[k].key = true) (hB : B (2 * m + 1) fs[k].node = false) : recV l fs B = false := by
  unfold recV
  rw [Bool.and_eq_false_iff]
  refine Or.inl ?_
  rw [List.all_eq_false]
  refine ⟨m, List.mem_range.2 hm, ?_⟩
  simp only [Bool.not_eq_true, List.any_eq_false, Bool.and_eq_true, not_and]
  intro f hf hqf
  obtain ⟨i, hi, rfl⟩ := List.getElem_of_mem hf
  have he := key_eq hqf hq
  have : i = k := by
    rcases Nat.lt_trichotomy i k with hl | hl | hl
    · exact absurd he (List.pairwise_iff_getElem.1 hp i k hi hk hl)
    · exact hl
    · exact absurd he.symm (List.pairwise_iff_getElem.1 hp k i hk hi hl)
  subst this
  rw [hB]
theorem ref_yes {x : It} {fs : List Fld} {B : Nat → Int → Bool} (h : MayBe x) (hk : x.k = 5) (hp : fs.Pairwise (fun f g => f.key ≠ g.key)) (hy : ∀ f ∈ fs, (hitBy x.l (x.l.length / 2) f = true → ∀ m, m < x.l.length / 2 → keyAt x.l m f.key = true → B (2 * m + 1) f.node = true) ∧ (hitBy x.l (x.l.length / 2) f = false → f.opt = true)) :
    recV x.l fs B = decide (had x.l fs (x.l.length / 2) = x.l.length / 2) := by
  rw [had_count h hk hp _ (Nat.le_refl _)]
  have hr : ((List.range (x.l.length / 2)).countP (fun m => fs.any (fun f => keyAt x.l m f.key)) = x.l.length / 2) ↔ ∀ m, m < x.l.length / 2 → fs.any (fun f => keyAt x.l m f.key) = true := by
    have := List.countP_eq_length (p := fun m => fs.any (fun f => keyAt x.l m f.key)) (l := List.range (x.l.length / 2))
    rw [List.length_range] at this
    rw [this]
    simp only [List.mem_range]
  unfold recV
  rw [Bool.eq_iff_iff, decide_eq_true_eq, hr, Bool.and_eq_true, List.all_eq_true, List.all_eq_true]
  constructor
  · rintro ⟨g, _⟩ m hm
    obtain ⟨f, hf, hq⟩ := List.any_eq_true.1 (g m (List.mem_range.2 hm))
    exact List.any_eq_true.2 ⟨f, hf, (Bool.and_eq_true _ _ ▸ hq).1⟩
  · intro g
    refine ⟨fun m hm => ?_, fun f hf => ?_⟩
    · have hm := List.mem_range.1 hm
      obtain ⟨f, hf, hq⟩ := List.any_eq_true.1 (g m hm)
      refine List.any_eq_true.2 ⟨f, hf, ?_⟩
      rw [hq, (hy f hf).1 (List.any_eq_true.2 ⟨m, List.mem_range.2 hm, hq⟩) m hm hq]
      rfl
    · cases hh : hitBy x.l (x.l.length / 2) f
      · rw [(hy f hf).2 hh]; rfl
      · simp
theorem ref_no {l : List It} {fs : List Fld} {B : Nat → Int → Bool} {f : Fld} (hf : f ∈ fs) (h : hitBy l (l.length / 2) f = false) (ho : f.opt = false) : recV l fs B = false := by
  unfold recV
  rw [Bool.and_eq_false_iff]
  refine Or.inr ?_
  rw [List.all_eq_false]
  exact ⟨f, hf, by rw [h, ho]; simp⟩
end Go.Proofs.YtkmgiodhaaajjaaDoor.DenP
