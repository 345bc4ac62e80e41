/- Layer item: a copy in memory of its own. No program is named here. -/
import Derived.Test.YtkmgiodhaaajjaaDoorItemM
set_option linter.unusedVariables false
set_option linter.unusedSimpArgs false
namespace Go.Proofs.YtkmgiodhaaajjaaDoor.ItemQ
open Go.RowKit Go.Proofs.YtkmgiodhaaajjaaDoor.Mem Go.Proofs.YtkmgiodhaaajjaaDoor.ItemP Go.Proofs.YtkmgiodhaaajjaaDoor.ItemM Go.Proofs.YtkmgiodhaaajjaaDoor.Own

mutual
/-- Four cells read as an item, whose rows are the call's own, in blocks of B. -/
def CpAt (t : TypeId) (w : World) (B : Nat → Prop) : It → List Value → Prop
  | .mk k n s l, cs => ∃ (A : Option Addr) (c : Nat) (ccs : List Value), cs = [.int .i64 k, .int .u64 n, .string s, .slice A l.length c] ∧ (-9223372036854775808 ≤ k ∧ k ≤ 9223372036854775807) ∧ n < 18446744073709551616 ∧ s.size ≤ 140737488355328 ∧ l.length ≤ 140737488355328 ∧
      OwnG t 4 w 0 (.slice A l.length c) l.length ccs ∧ (∀ g, (Value.slice A l.length c).ownBlock = some g → B g) ∧ CpsAt t w B l ccs
def CpsAt (t : TypeId) (w : World) (B : Nat → Prop) : List It → List Value → Prop
  | [], ccs => ccs = []
  | x :: l, ccs => ∃ cs rest, ccs = cs ++ rest ∧ CpAt t w B x cs ∧ CpsAt t w B l rest
end
section
variable {t : TypeId} {w w' : World} {B B' : Nat → Prop}
theorem CpAt.len {x : It} {cs : List Value} (h : CpAt t w B x cs) : cs.length = 4 := by
  obtain ⟨k, n, s, l⟩ := x
  obtain ⟨A, c, ccs, rfl, _⟩ := h
  rfl
theorem CpAt.one {x : It} {cs : List Value} (h : CpAt t w B x cs) : ∀ u ∈ cs, u.oneCell' = true := by
  obtain ⟨k, n, s, l⟩ := x
  obtain ⟨A, c, ccs, rfl, _⟩ := h
  intro u hu
  simp at hu
  rcases hu with rfl | rfl | rfl | rfl <;> rfl
mutual
theorem CpAt.mono (hB : ∀ b, B b → B' b) : ∀ (x : It) (cs : List Value), CpAt t w B x cs → CpAt t w B' x cs
  | .mk k n s l, cs, h => by
    obtain ⟨A, c, ccs, h1, h2, h3, h4, h5, h6, h7, h8⟩ := h
    exact ⟨A, c, ccs, h1, h2, h3, h4, h5, h6, fun g hg => hB g (h7 g hg), CpsAt.mono hB l ccs h8⟩
theorem CpsAt.mono (hB : ∀ b, B b → B' b) : ∀ (l : List It) (cs : List Value), CpsAt t w B l cs → CpsAt t w B' l cs
  | [], _, h => h
  | x :: l, ccs, ⟨cs, rest, h1, h2, h3⟩ => ⟨cs, rest, h1, CpAt.mono hB x cs h2, CpsAt.mono hB l rest h3⟩
end
mutual
theorem CpAt.fr {S : Nat → Prop} (hf : Fr S w w') (hS : ∀ b, B b → ¬ S b) : ∀ (x : It) (cs : List Value), CpAt t w B x cs → CpAt t w' B x cs
  | .mk k n s l, cs, h => by
    obtain ⟨A, c, ccs, h1, h2, h3, h4, h5, h6, h7, h8⟩ := h
    exact ⟨A, c, ccs, h1, h2, h3, h4, h5, h6.fr hf (fun g hg => hS g (h7 g hg)), h7, CpsAt.fr hf hS l ccs h8⟩
theorem CpsAt.fr {S : Nat → Prop} (hf : Fr S w w') (hS : ∀ b, B b → ¬ S b) : ∀ (l : List It) (cs : List Value), CpsAt t w B l cs → CpsAt t w' B l cs
  | [], _, h => h
  | x :: l, ccs, ⟨cs, rest, h1, h2, h3⟩ => ⟨cs, rest, h1, CpAt.fr hf hS x cs h2, CpsAt.fr hf hS l rest h3⟩
end
theorem CpsAt.snoc {x : It} {cs : List Value} (hx : CpAt t w B x cs) : ∀ (l : List It) (ccs : List Value), CpsAt t w B l ccs → CpsAt t w B (l ++ [x]) (ccs ++ cs)
  | [], ccs, h => by
    have h : ccs = [] := h
    subst h
    exact ⟨cs, [], by simp, hx, rfl⟩
  | y :: l, ccs, ⟨c1, rest, h1, h2, h3⟩ => ⟨c1, rest ++ cs, by rw [h1, List.append_assoc], h2, CpsAt.snoc hx l rest h3⟩
mutual
theorem CpAt.it {lo hi : Nat} (hB : ∀ b, B b → lo ≤ b ∧ b < hi) : ∀ (x : It) (cs : List Value), CpAt t w B x cs → ItAt w lo hi x cs
  | .mk k n s l, cs, h => by
    obtain ⟨A, c, ccs, h1, h2, h3, h4, h5, h6, h7, h8⟩ := h
    have hc : l.length ≤ c := by
      obtain ⟨A', c', g1, g2, _⟩ := h6.form
      injection g1 with _ g1 g3
      subst g3
      exact g2
    refine ⟨A, c, h1, hc, h2, h3, h4, h5, CpsAt.it hB A l.length c ccs h6 h7 l ccs 0 (by simp) h8⟩
theorem CpsAt.it {lo hi : Nat} (hB : ∀ b, B b → lo ≤ b ∧ b < hi) (A : Option Addr) (m c : Nat) (all : List Value) (hO : OwnG t 4 w 0 (.slice A m c) m all) (hb : ∀ g, (Value.slice A m c).ownBlock = some g → B g) : ∀ (l : List It) (ccs : List Value) (i : Nat), all.drop (i * 4) = ccs → CpsAt t w B l ccs → ItsAt w lo hi l A i
  | [], _, _, _, _ => trivial
  | x :: l, ccs, i, hd, ⟨cs, rest, h1, h2, h3⟩ => by
    have h4 := h2.len
    subst h1
    have hcell : ∀ j, j < 4 → ∃ ad u, A = some ad ∧ cs[j]? = some u ∧ w.cell? (ad.add (i * 4 + j)) = some u := fun j hj => by
      have hu : all[i * 4 + j]? = cs[j]? := by
        have := congrArg (fun l => l[j]?) hd
        simp only [List.getElem?_drop] at this
        rw [this, List.getElem?_append_left (by omega)]
      obtain ⟨u, hu2⟩ : ∃ u, cs[j]? = some u := ⟨cs[j], List.getElem?_eq_getElem (by omega)⟩
      obtain ⟨ad, hA, _, hc⟩ := hO.rd.1 (i * 4 + j) u (by rw [hu, hu2])
      exact ⟨ad, u, hA, hu2, hc⟩
    obtain ⟨ad, u, hA, _, _⟩ := hcell 0 (by omega)
    subst hA
    obtain ⟨h5, h6⟩ := hB _ (hb ad.block rfl)
    refine ⟨⟨ad, cs, rfl, h5, h6, fun j hj => ?_, CpAt.it hB x cs h2⟩, CpsAt.it hB (some ad) m c all hO hb l rest (i + 1) ?_ h3⟩
    · obtain ⟨ad', u, hA, hu, hc⟩ := hcell j hj
      injection hA with hA
      subst hA
      rw [hc, hu]
    · have h9 : (all.drop (i * 4)).drop 4 = rest := by rw [hd]; exact List.drop_left' h4
      rw [List.drop_drop] at h9
      rw [show (i + 1) * 4 = i * 4 + 4 by omega]
      first | exact h9 | (rw [Nat.add_comm] at h9; exact h9)
end
end
/-- One element more. -/
theorem cp_step {t : TypeId} {w1 wr w4 w6 : World} {b3 j c1 c6 : Nat} {A1 A6 : Option Addr} {ccs cs5 : List Value} {l : List It} {x : It} {k0 k1 k2 : Value} {o5 o6 : Obj} (hb3 : w1.heap.size = b3)
    (HBX : Blk wr b3 t #[k0, k1, k2, .slice A1 j c1]) (HO : OwnG t 4 wr (b3 + 1) (.slice A1 j c1) j ccs) (HCP : CpsAt t wr (fun b => b3 + 1 ≤ b ∧ b < wr.heap.size ∧ (Value.slice A1 j c1).ownBlock ≠ some b) l ccs) (HF : Fr (fun _ => False) w1 wr)
    (hx : CpAt t w4 (fun b => wr.heap.size + 1 ≤ b ∧ b < w4.heap.size) x cs5) (hf4 : Fr (fun _ => False) (wr.alloc o5) w4)
    (h6 : AppdG t 4 (w4.alloc o6) (b3 + 1) (.slice A1 j c1) (j + 1) (ccs ++ cs5) (.slice A6 (j + 1) c6) w6) :
    Blk (w6.setCell ⟨b3, 3, none⟩ (.slice A6 (j + 1) c6)) b3 t #[k0, k1, k2, .slice A6 (j + 1) c6] ∧
    OwnG t 4 (w6.setCell ⟨b3, 3, none⟩ (.slice A6 (j + 1) c6)) (b3 + 1) (.slice A6 (j + 1) c6) (j + 1) (ccs ++ cs5) ∧
    CpsAt t (w6.setCell ⟨b3, 3, none⟩ (.slice A6 (j + 1) c6)) (fun b => b3 + 1 ≤ b ∧ b < (w6.setCell ⟨b3, 3, none⟩ (.slice A6 (j + 1) c6)).heap.size ∧ (Value.slice A6 (j + 1) c6).ownBlock ≠ some b) (l ++ [x]) (ccs ++ cs5) ∧
    Fr (fun _ => False) w1 (w6.setCell ⟨b3, 3, none⟩ (.slice A6 (j + 1) c6)) := by
  have hown := HO.lt
  have hown6 := h6.own.lt
  have hwr : b3 < wr.heap.size := HBX.lt
  have hz4 : wr.heap.size + 1 ≤ w4.heap.size := by have := hf4.size; simpa using this
  have hz6 : w4.heap.size + 1 ≤ w6.heap.size := by have := h6.fr.size; simpa using this
  have hsz : (w6.setCell ⟨b3, 3, none⟩ (.slice A6 (j + 1) c6)).heap.size = w6.heap.size := by simp [World.setCell]
  have hblk := h6.2.2
  rw [World.size_alloc] at hblk
  have f4 : Fr (fun _ => False) wr (w4.alloc o6) := (((Fr.refl _ wr).alloc o5).then_ hf4 (fun _ _ h => h)).alloc o6
  have f6 : Fr (fun b => (Value.slice A1 j c1).ownBlock = some b) wr w6 := (f4.mono (fun _ _ h => h.elim)).trans h6.fr
  have f7 : Fr (fun b => (Value.slice A1 j c1).ownBlock = some b ∨ b = b3) wr (w6.setCell ⟨b3, 3, none⟩ (.slice A6 (j + 1) c6)) := (f6.mono (fun _ _ h => .inl h)).setCell (.inl (.inr rfl)) _
  have g7 : Fr (fun b => (Value.slice A1 j c1).ownBlock = some b ∨ b = b3) w4 (w6.setCell ⟨b3, 3, none⟩ (.slice A6 (j + 1) c6)) := ((((Fr.refl (fun _ => False) w4).alloc o6).mono (fun _ _ h => h.elim)).trans (h6.fr.mono (fun _ _ h => .inl h))).setCell (.inl (.inr rfl)) _
  refine ⟨?_, ?_, ?_, ?_⟩
  · have h := (HBX.fr f6 (fun h => by have := (hown b3 h).1; omega)).set_ 3 (.slice A6 (j + 1) c6)
    simpa using h
  · exact h6.own.fr ((Fr.refl (fun b => b = b3) w6).setCell (.inl rfl) _) (fun g hg h => by have := (hown6 g hg).1; omega)
  · refine CpsAt.snoc (CpAt.mono (fun b hb => ?_) x cs5 (CpAt.fr g7 (fun b hb h => ?_) x cs5 hx)) l ccs (CpsAt.mono (fun b hb => ?_) l ccs (CpsAt.fr f7 (fun b hb h => ?_) l ccs HCP))
    · refine ⟨by omega, by rw [hsz]; omega, fun h => ?_⟩
      rcases hblk with h1 | h1
      · rw [h1] at h; have := (hown b h).2; omega
      · rw [h] at h1; injection h1 with h1; omega
    · rcases h with h | h
      · have := (hown b h).2; omega
      · omega
    · refine ⟨hb.1, by rw [hsz]; omega, fun h => ?_⟩
      rcases hblk with h1 | h1
      · rw [h1] at h; exact hb.2.2 h
      · rw [h] at h1; injection h1 with h1; omega
    · rcases h with h | h
      · exact hb.2.2 h
      · omega
  · refine HF.then_ f7 (fun b hb h => ?_)
    rcases h with h | h
    · have := (hown b h).1; omega
    · omega
end Go.Proofs.YtkmgiodhaaajjaaDoor.ItemQ
