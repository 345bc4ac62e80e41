/- Data items as trees: the plain law. No program is named here. -/
import Derived.Test.YtkmgiodhaaajjaaDoorMem
import Derived.Test.YtkmgiodhaaajjaaDoorUtfP
import Derived.Test.YtkmgiodhaaajjaaDoorFloatP
set_option linter.unusedVariables false
set_option linter.unusedSimpArgs false
namespace Go.Proofs.YtkmgiodhaaajjaaDoor.ItemP
open Go.RowKit Go.Proofs.YtkmgiodhaaajjaaDoor.Mem Go.Proofs.YtkmgiodhaaajjaaDoor.UtfP Go.Proofs.YtkmgiodhaaajjaaDoor.FloatP

/-- An item: its kind, its number, its text, its items. -/
inductive It where
  | mk (k : Int) (n : Nat) (s : ByteArray) (l : List It)
def It.k : It → Int | .mk k _ _ _ => k
def It.n : It → Nat | .mk _ n _ _ => n
def It.s : It → ByteArray | .mk _ _ s _ => s
def It.l : It → List It | .mk _ _ _ l => l
theorem It.eta (x : It) : x = .mk x.k x.n x.s x.l := by cases x; rfl

mutual
/-- How many items there are. -/
def It.size : It → Nat
  | .mk _ _ _ l => sizes l + 1
def sizes : List It → Nat
  | [] => 0
  | x :: l => x.size + sizes l
end
mutual
/-- How deep they stand in one another. -/
def It.depth : It → Nat
  | .mk _ _ _ l => depths l + 1
def depths : List It → Nat
  | [] => 0
  | x :: l => max x.depth (depths l)
end
mutual
/-- An item, and all in it, each with its depth. -/
def It.all : It → Nat → List (It × Nat)
  | .mk k n s l, d => (.mk k n s l, d) :: alls l (d + 1)
def alls : List It → Nat → List (It × Nat)
  | [], _ => []
  | x :: l, d => x.all d ++ alls l d
end
mutual
/-- Are two items the same? -/
def It.same : It → It → Bool
  | .mk k n s l, .mk k' n' s' l' => k == k' && n == n' && decide (s = s') && sames l l'
def sames : List It → List It → Bool
  | [], [] => true
  | x :: l, y :: l' => x.same y && sames l l'
  | [], _ :: _ => false
  | _ :: _, [] => false
end
mutual
theorem It.same_iff : ∀ (a b : It), a.same b = true ↔ a = b
  | .mk k n s l, .mk k' n' s' l' => by
    have := sames_iff l l'
    simp only [It.same, Bool.and_eq_true, beq_iff_eq, decide_eq_true_eq, It.mk.injEq, this]
    constructor
    · rintro ⟨⟨⟨h1, h2⟩, h3⟩, h4⟩; exact ⟨h1, h2, h3, h4⟩
    · rintro ⟨h1, h2, h3, h4⟩; exact ⟨⟨⟨h1, h2⟩, h3⟩, h4⟩
theorem sames_iff : ∀ (a b : List It), sames a b = true ↔ a = b
  | [], [] => by simp [sames]
  | x :: l, y :: l' => by
    have h1 := It.same_iff x y
    have h2 := sames_iff l l'
    simp [sames, h1, h2]
  | [], _ :: _ => by simp [sames]
  | _ :: _, [] => by simp [sames]
end
instance : DecidableEq It := fun a b => decidable_of_iff (a.same b = true) (It.same_iff a b)
theorem It.same_decide (a b : It) : a.same b = decide (a = b) := by
  by_cases h : a = b
  · rw [decide_eq_true h]; exact (It.same_iff a b).2 h
  · rw [decide_eq_false h]
    cases hs : a.same b
    · rfl
    · exact absurd ((It.same_iff a b).1 hs) h

theorem size_pos (x : It) : 0 < x.size := by cases x; simp [It.size]
theorem sizes_get : ∀ (l : List It) (i : Nat) (h : i < l.length), l[i].size ≤ sizes l
  | x :: l, 0, _ => by simp [sizes]
  | x :: l, i + 1, h => by
    have := sizes_get l i (by simpa using h)
    simp [sizes]
    omega
theorem size_get (k : Int) (n : Nat) (s : ByteArray) (l : List It) (i : Nat) (h : i < l.length) : l[i].size < (It.mk k n s l).size := by
  have := sizes_get l i h
  simp [It.size]; omega
theorem sizes_take_succ : ∀ (l : List It) (i : Nat) (h : i < l.length), sizes (l.take (i + 1)) = sizes (l.take i) + l[i].size
  | x :: l, 0, _ => by simp [sizes]
  | x :: l, i + 1, h => by
    have := sizes_take_succ l i (by simpa using h)
    simp only [List.take_succ_cons, sizes, List.getElem_cons_succ]
    omega
theorem sizes_append : ∀ (a b : List It), sizes (a ++ b) = sizes a + sizes b
  | [], b => by simp [sizes]
  | x :: a, b => by simp [sizes, sizes_append a b]; omega
theorem sizes_take_le (l : List It) (i : Nat) : sizes (l.take i) ≤ sizes l := by
  have := sizes_append (l.take i) (l.drop i)
  rw [List.take_append_drop] at this
  omega
theorem sizes_length : ∀ (l : List It), l.length ≤ sizes l
  | [] => by simp [sizes]
  | x :: l => by
    have := sizes_length l
    have := size_pos x
    simp [sizes]; omega
theorem depths_append : ∀ (a b : List It), depths (a ++ b) = max (depths a) (depths b)
  | [], b => by simp [depths]
  | x :: a, b => by simp [depths, depths_append a b] <;> omega
theorem depths_take_succ (l : List It) (i : Nat) (h : i < l.length) : depths (l.take (i + 1)) = max (depths (l.take i)) l[i].depth := by
  rw [List.take_succ_eq_append_getElem h, depths_append]
  simp [depths]
mutual
theorem It.depth_le : ∀ (x : It), x.depth ≤ x.size
  | .mk k n s l => by
    have := depths_le l
    simp only [It.depth, It.size]; omega
theorem depths_le : ∀ (l : List It), depths l ≤ sizes l
  | [] => by simp [depths]
  | x :: l => by
    have h1 := It.depth_le x
    have h2 := depths_le l
    simp only [depths, sizes]; omega
end
theorem alls_append : ∀ (a b : List It) (d : Nat), alls (a ++ b) d = alls a d ++ alls b d
  | [], b, d => by simp [alls]
  | x :: a, b, d => by simp [alls, alls_append a b d]
theorem alls_take_succ (l : List It) (i d : Nat) (h : i < l.length) : alls (l.take (i + 1)) d = alls (l.take i) d ++ l[i].all d := by
  rw [List.take_succ_eq_append_getElem h, alls_append]
  simp [alls]
mutual
theorem It.all_length : ∀ (x : It) (d : Nat), (x.all d).length = x.size
  | .mk k n s l, d => by
    have := alls_length l (d + 1)
    simp [It.all, It.size, this]
theorem alls_length : ∀ (l : List It) (d : Nat), (alls l d).length = sizes l
  | [], d => by simp [alls, sizes]
  | x :: l, d => by
    have h1 := It.all_length x d
    have h2 := alls_length l d
    simp [alls, sizes, h1, h2]
end
/-- The greatest depth of a list of items with their depths. -/
def most (l : List (It × Nat)) : Nat := l.foldl (fun n x => max n x.2) 0
theorem most_from (l : List (It × Nat)) (n : Nat) : l.foldl (fun n x => max n x.2) n = max n (most l) := by
  unfold most
  induction l generalizing n with
  | nil => simp
  | cons x l ih =>
    simp only [List.foldl_cons]
    rw [ih (max n x.2), ih (max 0 x.2)]
    omega
theorem most_append (a b : List (It × Nat)) : most (a ++ b) = max (most a) (most b) := by
  unfold most
  rw [List.foldl_append, most_from]
  rfl
theorem most_cons (x : It × Nat) (l : List (It × Nat)) : most (x :: l) = max x.2 (most l) := by
  have := most_append [x] l
  simpa [most] using this
mutual
theorem most_all : ∀ (x : It) (d : Nat), most (x.all d) = d + x.depth - 1
  | .mk k n s l, d => by
    have h := most_alls l (d + 1)
    rw [It.all, most_cons]
    simp only [It.depth]
    cases l with
    | nil => simp [alls, most, depths]
    | cons x l =>
      have := h (by simp)
      rw [this]
      omega
theorem most_alls : ∀ (l : List It) (d : Nat), l ≠ [] → most (alls l d) = d + depths l - 1
  | [], d, h => absurd rfl h
  | x :: l, d, _ => by
    have h1 := most_all x d
    rw [alls, most_append, h1]
    have hx : 0 < x.depth := by cases x; simp [It.depth]
    cases l with
    | nil => simp [alls, most, depths] <;> omega
    | cons y l =>
      have h2 := most_alls (y :: l) d (by simp)
      rw [h2]
      have hy : 0 < depths (y :: l) := by
        have : 0 < y.depth := by cases y; simp [It.depth]
        simp [depths]; omega
      simp only [depths] at hy ⊢
      omega
end
theorem depth_most (x : It) : most (x.all 1) = x.depth := by
  rw [most_all]
  have : 0 < x.depth := by cases x; simp [It.depth]
  omega

/-- Has an item just the fields of its kind? -/
def It.form : It → Bool
  | .mk k n s l =>
    if k = 0 ∨ k = 1 ∨ k = 7 ∨ k = 8 then decide (s.size = 0) && decide (l.length = 0)
    else if k = 2 ∨ k = 3 then decide (n = 0) && decide (l.length = 0)
    else if k = 4 then decide (n = 0) && decide (s.size = 0)
    else if k = 5 then decide (n = 0) && decide (s.size = 0) && decide (l.length % 2 = 0)
    else if k = 6 then decide (s.size = 0) && decide (l.length = 1)
    else false
/-- Is a key there twice? -/
def dup (l : List It) : Prop := ∃ i j, i < j ∧ 2 * j < l.length ∧ l[2 * i]? = l[2 * j]?
noncomputable instance (l : List It) : Decidable (dup l) := Classical.propDecidable _
/-- What is wrong with an item by itself: an error's number. -/
noncomputable def It.wrong (x : It) : Int :=
  if x.form = false then 11
  else if (x.k = 7 ∧ (255 < x.n ∨ (24 ≤ x.n ∧ x.n < 32))) ∨ (x.k = 8 ∧ nanB x.n = true ∧ x.n ≠ 9221120237041090560) then 15
  else if x.k = 3 ∧ validS x.s = false then 6
  else if x.k = 5 ∧ dup x.l then 14
  else 0
noncomputable def firstW : List (It × Nat) → Int
  | [] => 0
  | y :: l => if y.1.wrong ≠ 0 then y.1.wrong else firstW l
/-- Whether an item may be: an error's number. -/
noncomputable def It.check (x : It) : Int := if 64 < x.depth then 3 else firstW (x.all 1)
theorem wrong_bd (x : It) : 0 ≤ x.wrong ∧ x.wrong ≤ 15 := by
  unfold It.wrong
  split
  · omega
  · split
    · omega
    · split
      · omega
      · split <;> omega
theorem firstW_bd (l : List (It × Nat)) : 0 ≤ firstW l ∧ firstW l ≤ 15 := by
  induction l with
  | nil => simp [firstW]
  | cons y l ih =>
    have := wrong_bd y.1
    unfold firstW
    split <;> omega
theorem check_bd (x : It) : 0 ≤ x.check ∧ x.check ≤ 15 := by
  have := firstW_bd (x.all 1)
  unfold It.check
  split <;> omega
end Go.Proofs.YtkmgiodhaaajjaaDoor.ItemP
