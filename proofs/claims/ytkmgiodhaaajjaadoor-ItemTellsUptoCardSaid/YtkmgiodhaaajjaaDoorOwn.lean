/- Rows of any cells that the call owns and appends to. No program is named here. -/
import Derived.Test.YtkmgiodhaaajjaaDoorApp
set_option linter.unusedVariables false
set_option linter.unusedSimpArgs false
namespace Go.Proofs.YtkmgiodhaaajjaaDoor.Own
open Go.RowKit Go.Proofs.YtkmgiodhaaajjaaDoor.Mem

/-- Cells that are read. -/
def RdC (w : World) (A : Option Addr) (cs : List Value) : Prop := ∀ j u, cs[j]? = some u → ∃ ad, A = some ad ∧ ad.block < w.heap.size ∧ w.cell? (ad.add j) = some u
/-- A row that the call owns: n elements of sz cells each, together cs; its block is not below base. -/
def OwnG (e : TypeId) (sz : Nat) (w : World) (base : Nat) (v : Value) (n : Nat) (cs : List Value) : Prop := w.ownsRow base e sz v n cs

section
variable {e : TypeId} {sz : Nat} {w w' : World} {base : Nat} {v : Value} {n : Nat} {cs ds : List Value}
theorem RdC.fr {A : Option Addr} {S : Nat → Prop} (h : RdC w A cs) (hf : Fr S w w') (hS : ∀ ad, A = some ad → ad.block < w.heap.size → ¬ S ad.block) : RdC w' A cs := fun j u hu => by
  obtain ⟨ad, rfl, hb, hc⟩ := h j u hu
  exact ⟨ad, rfl, Nat.lt_of_lt_of_le hb hf.size, (hf.cell (by rw [block_of_add]; exact hb) (by rw [block_of_add]; exact hS _ rfl hb)).trans hc⟩
theorem RdC.fr0 {A : Option Addr} (h : RdC w A cs) (hf : Fr (fun _ => False) w w') : RdC w' A cs := h.fr hf (fun _ _ _ h => h)
theorem RdC.nil (w : World) (A : Option Addr) : RdC w A [] := fun j u hu => by simp at hu
theorem RdC.blk {t : TypeId} {g : Nat} {cs : Array Value} (h : Blk w g t cs) : RdC w (some ⟨g, 0, none⟩) cs.toList := fun j u hu =>
  ⟨_, rfl, h.lt, by rw [add_plain, Nat.zero_add, h.cell]; simpa using hu⟩
theorem RdC.drop {A : Option Addr} (h : RdC w A cs) (k : Nat) : RdC w (A.map fun ad => ad.add k) (cs.drop k) := fun j u hu => by
  rw [List.getElem?_drop] at hu
  obtain ⟨ad, rfl, hb, hc⟩ := h _ u hu
  exact ⟨ad.add k, rfl, by rw [block_of_add]; exact hb, by rw [add_of_add]; exact hc⟩
theorem RdC.take {A : Option Addr} (h : RdC w A cs) (k : Nat) : RdC w A (cs.take k) := fun j u hu => by
  rw [List.getElem?_take] at hu
  split at hu
  · exact h j u hu
  · cases hu
theorem OwnG.nil (e : TypeId) (sz : Nat) (w : World) (base : Nat) : OwnG e sz w base (.slice none 0 0) 0 [] := World.ownsRow_nil w base e sz
theorem OwnG.len (h : OwnG e sz w base v n cs) : cs.length = n * sz := h.1
theorem OwnG.lt (h : OwnG e sz w base v n cs) : ∀ g, v.ownBlock = some g → base ≤ g ∧ g < w.heap.size := World.ownsRow.lt h
theorem OwnG.form (h : OwnG e sz w base v n cs) : ∃ A c, v = .slice A n c ∧ n ≤ c ∧ (A = none → n = 0 ∧ c = 0) ∧ (∀ ad, A = some ad → ∃ g, ad = ⟨g, 0, none⟩ ∧ base ≤ g ∧ g < w.heap.size) := by
  rcases h.2 with ⟨hv, h0⟩ | ⟨g, cap, cur, hv, hb, hg, hn, _⟩
  · exact ⟨none, 0, by rw [hv, h0], by omega, fun _ => ⟨h0, rfl⟩, fun _ h => by cases h⟩
  · refine ⟨some ⟨g, 0, none⟩, cap, hv, hn, (fun h => by cases h), fun ad h => ?_⟩
    injection h with h
    exact ⟨g, h.symm, hb, (Array.getElem?_eq_some_iff.1 hg).1⟩
theorem OwnG.rd {A : Option Addr} {m c : Nat} (h : OwnG e sz w base (.slice A m c) n cs) : RdC w A cs ∧ m = n := by
  obtain ⟨A', c', hv, _, _, hA⟩ := h.form
  injection hv with h1 h2 h3
  subst h1 h2
  refine ⟨fun j u hu => ?_, rfl⟩
  rcases h.2 with ⟨hv, h0⟩ | ⟨g, cap, cur, hv, hb, hg, hn, _⟩
  · have := h.1
    rw [h0] at this
    have hn : cs = [] := List.eq_nil_of_length_eq_zero (by simpa using this)
    rw [hn] at hu
    cases hu
  · injection hv with h1
    subst h1
    obtain ⟨g', hg', _, hlt⟩ := hA _ rfl
    injection hg' with hg'
    subst hg'
    exact ⟨_, rfl, hlt, World.ownsRow.cells h (g := g) rfl j u hu⟩
theorem OwnG.fr {S : Nat → Prop} (h : OwnG e sz w base v n cs) (hf : Fr S w w') (hS : ∀ g, v.ownBlock = some g → ¬ S g) : OwnG e sz w' base v n cs := by
  refine ⟨h.1, ?_⟩
  rcases h.2 with h0 | ⟨g, cap, cur, rfl, hb, hg, hr⟩
  · exact .inl h0
  · refine .inr ⟨g, cap, cur, rfl, hb, ?_, hr⟩
    rw [hf.block g (h.lt g rfl).2 (hS g rfl)]
    exact hg
theorem OwnG.fr0 (h : OwnG e sz w base v n cs) (hf : Fr (fun _ => False) w w') : OwnG e sz w' base v n cs := h.fr hf (fun _ _ h => h)
theorem OwnG.mono {b' : Nat} (h : OwnG e sz w base v n cs) (hb : b' ≤ base) : OwnG e sz w b' v n cs := by
  refine ⟨h.1, ?_⟩
  rcases h.2 with h0 | ⟨g, cap, cur, rfl, hb', hr⟩
  · exact .inl h0
  · exact .inr ⟨g, cap, cur, rfl, by omega, hr⟩
theorem OwnG.up {b' : Nat} (h : OwnG e sz w base v n cs) (hb : ∀ g, v.ownBlock = some g → b' ≤ g) : OwnG e sz w b' v n cs := by
  refine ⟨h.1, ?_⟩
  rcases h.2 with h0 | ⟨g, cap, cur, rfl, hb', hr⟩
  · exact .inl h0
  · exact .inr ⟨g, cap, cur, rfl, hb g rfl, hr⟩
theorem OwnG.blk {g : Nat} {cs : Array Value} (h : Blk w g e cs) (hb : base ≤ g) (hl : cs.size = n * sz) (hm : n ≤ maxLen) : OwnG e sz w base (.slice (some ⟨g, 0, none⟩) n n) n cs.toList :=
  ⟨by simpa using hl, .inr ⟨g, n, cs, rfl, hb, h, Nat.le_refl _, hm, hl, List.take_of_length_le (by simp [hl])⟩⟩
theorem OwnG.made0 (e : TypeId) (sz : Nat) (w : World) : OwnG e sz (w.alloc (.cells #[] e)) w.heap.size (.slice (some ⟨w.heap.size, 0, none⟩) 0 0) 0 [] :=
  World.ownsRow_made w #[] 0 (Nat.le_refl _) (by simp [maxLen]) (by simp)
/-- What append gives. -/
def AppdG (e : TypeId) (sz : Nat) (w : World) (base : Nat) (v : Value) (n : Nat) (zs : List Value) (v' : Value) (w' : World) : Prop :=
  OwnG e sz w' base v' n zs ∧ Fr (fun i => v.ownBlock = some i) w w' ∧ (v'.ownBlock = v.ownBlock ∨ v'.ownBlock = some w.heap.size)
theorem AppdG.own {v' : Value} {m : Nat} {zs : List Value} (h : AppdG e sz w base v m zs v' w') : OwnG e sz w' base v' m zs := h.1
theorem AppdG.fr {v' : Value} {m : Nat} {zs : List Value} (h : AppdG e sz w base v m zs v' w') : Fr (fun i => v.ownBlock = some i) w w' := h.2.1
theorem AppdG.fr0 {w0 : World} {v' : Value} {m : Nat} {zs : List Value} {S : Nat → Prop} (h : AppdG e sz w base v m zs v' w') (ho : OwnG e sz w base v n cs) (h0 : Fr S w0 w) (hb : w0.heap.size ≤ base) : Fr S w0 w' :=
  h0.then_ h.fr (fun i hi e => by have := (ho.lt i e).1; omega)
theorem run_appG {P : Program} (t ty : TypeId) (z : Value) (bytes : Nat) (ht : P.underlying t = some (.slice e)) (hi : (P.info? e).map (fun i => (i.zero, i.size, i.bytes)) = some (some z, sz, bytes)) (hzs : z.cells.size = sz) (hsz : 0 < sz)
    (hown : OwnG e sz w base v n cs) (A : Option Addr) (m c : Nat) (hm : ds.length = m * sz) (h1 : ∀ u ∈ ds, u.oneCell' = true) (hr : RdC w A ds) (h63 : n + m ≤ maxLen) (hbytes : (n + m) * bytes ≤ 140737488355328) (hbase : base ≤ w.heap.size) :
    ∃ v' w', (Builtin.append_ #[t, t] ty #[v, .slice A m c]).run P w = .ok v' w' ∧ AppdG e sz w base v (n + m) (cs ++ ds) v' w' := by
  obtain ⟨i, hi, hzz⟩ := Option.map_eq_some_iff.1 hi
  simp only [Prod.mk.injEq] at hzz
  obtain ⟨hz0, hz1, hz2⟩ := hzz
  cases A with
  | some ad =>
    obtain ⟨v', w', hrun, h2, h3, _, h5⟩ := run_append_own_at (P := P) w base t ty e i z sz bytes ht hi hz0 hz1 hz2 hzs hsz v n cs hown ad m c ds hm
      (fun j u hu => by
        obtain ⟨ad', he, _, hc⟩ := hr j u hu
        injection he with he
        subst he
        exact hc) h1 h63 hbytes hbase
    exact ⟨v', w', hrun, h2, ⟨h3.os, h3.tape, h3.output, h3.size, fun k hk hn => h3.block k hk (fun e => hn e.symm)⟩, h5⟩
  | none =>
    have h0 : ds = [] := by
      cases ds with
      | nil => rfl
      | cons y ys => obtain ⟨_, he, _⟩ := hr 0 y (by simp); cases he
    subst h0
    have hm0 : m = 0 := by
      rcases Nat.eq_zero_or_pos m with h | h
      · exact h
      · have : 0 < m * sz := Nat.mul_pos h hsz
        simp at hm
        omega
    subst hm0
    refine ⟨v, w, ?_, by simpa using hown, Fr.refl _ _, .inl rfl⟩
    obtain ⟨A, c', rfl, hcap, hA0, hA⟩ := hown.form
    cases A with
    | some ad =>
      obtain ⟨g, rfl, _, _⟩ := hA ad rfl
      have := run_append_room_src (P := P) w t t ty e i ht hi g 0 n c' (.slice none 0 c) 0 [] (by rw [hz1]; exact Src.ofNil w ht c) (by omega) (fun j hj => by simp at hj) (fun j hj => by simp at hj)
      simpa [World.setCells] using this
    | none =>
      obtain ⟨h0, hc0⟩ := hA0 rfl
      subst h0 hc0
      simp [Builtin.append_, run_underlying ht, sizeOf, typeInfo, hi, Builtin.lenOf, hz1, Builtin.firstCells, storeCells, run_firstCells_none]
end

section
variable {P : Program} {ops : Array Oper} {rest : List Oper} {o : Oper} {a : Act} {Q : Exit → Act → World → Prop} {K : Act → World → Prop} {E : Prop} {e : TypeId} {sz : Nat} {w : World} {base : Nat}
theorem wp_appG (s x : Operand) (t : TypeId) (ho : o.op = .call { callee := .builtin .append, args := #[s, x], argTypes := #[t, t] }) (z : Value) (bytes : Nat) (ht : P.underlying t = some (.slice e)) (hi : (P.info? e).map (fun i => (i.zero, i.size, i.bytes)) = some (some z, sz, bytes)) (hzs : z.cells.size = sz) (hsz : 0 < sz)
    (v : Value) (n : Nat) (cs : List Value) (hs : a.eval s = v) (hown : OwnG e sz w base v n cs) (A : Option Addr) (m c : Nat) (hx : a.eval x = .slice A m c) (ds : List Value) (hm : ds.length = m * sz) (h1 : ∀ u ∈ ds, u.oneCell' = true) (hr : RdC w A ds) (hb : (n + m) * bytes ≤ 140737488355328 ∧ n + m ≤ 140737488355328) (hbase : base ≤ w.heap.size)
    (h : ∀ v' w', Hid (AppdG e sz w base v (n + m) (cs ++ ds) v' w') → K (a.put o.dst v') w') : o.wp P a w K Q := by
  obtain ⟨v', w', hr, h2⟩ := run_appG (P := P) t o.type z bytes ht hi hzs hsz hown A m c hm h1 hr (by unfold maxLen; omega) hb.1 hbase
  unfold Oper.wp execOp
  simp only [ho, resolve, invoke, builtin, Sem.run_bind, Sem.run_pure, Result.andThen_ok, List.map_toArray, List.map_cons, List.map_nil, hs, hx, hr]
  exact h v' w' h2
theorem wpList_appG (hgd : o.guard = none) (s x : Operand) (t : TypeId) (ho : o.op = .call { callee := .builtin .append, args := #[s, x], argTypes := #[t, t] }) (z : Value) (bytes : Nat) (ht : P.underlying t = some (.slice e)) (hi : (P.info? e).map (fun i => (i.zero, i.size, i.bytes)) = some (some z, sz, bytes)) (hzs : z.cells.size = sz) (hsz : 0 < sz)
    (v : Value) (n : Nat) (cs : List Value) (hs : a.eval s = v) (hown : OwnG e sz w base v n cs) (A : Option Addr) (m c : Nat) (hx : a.eval x = .slice A m c) (ds : List Value) (hm : ds.length = m * sz) (h1 : ∀ u ∈ ds, u.oneCell' = true) (hr : RdC w A ds) (hb : (n + m) * bytes ≤ 140737488355328 ∧ n + m ≤ 140737488355328) (hbase : base ≤ w.heap.size)
    (h : ∀ v' w', Hid (AppdG e sz w base v (n + m) (cs ++ ds) v' w') → wpList P ops Q rest (a.put o.dst v') w') : wpList P ops Q (o :: rest) a w :=
  wpList_plain hgd fun _ hK => wp_appG s x t ho z bytes ht hi hzs hsz v n cs hs hown A m c hx ds hm h1 hr hb hbase fun v' w' h2 => hK _ _ (h v' w' h2)
theorem step_appG (hgd : o.guard = none) (s x : Operand) (t : TypeId) (ho : o.op = .call { callee := .builtin .append, args := #[s, x], argTypes := #[t, t] }) (z : Value) (bytes : Nat) (ht : P.underlying t = some (.slice e)) (hi : (P.info? e).map (fun i => (i.zero, i.size, i.bytes)) = some (some z, sz, bytes)) (hzs : z.cells.size = sz) (hsz : 0 < sz)
    (v : Value) (n : Nat) (cs : List Value) (hs : a.eval s = v) (hown : OwnG e sz w base v n cs) (A : Option Addr) (m c : Nat) (hx : a.eval x = .slice A m c) (ds : List Value) (hm : ds.length = m * sz) (h1 : ∀ u ∈ ds, u.oneCell' = true) (hr : RdC w A ds) (hb : (n + m) * bytes ≤ 140737488355328 ∧ n + m ≤ 140737488355328) (hbase : base ≤ w.heap.size)
    (h : ∀ v' w', Hid (AppdG e sz w base v (n + m) (cs ++ ds) v' w') → K (a.put o.dst v') w') : if Region.wanted o (yielded ops a.tmps) = true then Oper.wp P o a w K Q else E := by
  have hw : Region.wanted o (yielded ops a.tmps) = true := by simp [Region.wanted, hgd]
  rw [if_pos hw]
  exact wp_appG s x t ho z bytes ht hi hzs hsz v n cs hs hown A m c hx ds hm h1 hr hb hbase h
/-- One element that lies in a block of its own. -/
theorem wpList_appG1 (hgd : o.guard = none) (s x : Operand) (t : TypeId) (ho : o.op = .call { callee := .builtin .append, args := #[s, x], argTypes := #[t, t] }) (z : Value) (bytes : Nat) (ht : P.underlying t = some (.slice e)) (hi : (P.info? e).map (fun i => (i.zero, i.size, i.bytes)) = some (some z, sz, bytes)) (hzs : z.cells.size = sz) (hsz : 0 < sz)
    (w0 : World) (u : Array Value) (T : TypeId) (v : Value) (n : Nat) (cs : List Value) (hs : a.eval s = v) (hown : OwnG e sz w0 base v n cs) (hx : a.eval x = .slice (some ⟨w0.heap.size, 0, none⟩) 1 1) (hu : u.size = sz) (h1 : ∀ x ∈ u.toList, x.oneCell' = true) (hb : (n + 1) * bytes ≤ 140737488355328 ∧ n + 1 ≤ 140737488355328) (hbase : base ≤ w0.heap.size)
    (h : ∀ v' w', Hid (OwnG e sz w' base v' (n + 1) (cs ++ u.toList)) → Hid (∀ S W, Fr S W w0 → W.heap.size ≤ base → Fr S W w') → wpList P ops Q rest (a.put o.dst v') w') : wpList P ops Q (o :: rest) a (w0.alloc (.cells u T)) := by
  have hown' : OwnG e sz (w0.alloc (.cells u T)) base v n cs := hown.fr0 ((Fr.refl (fun _ => False) w0).alloc _)
  exact wpList_appG hgd s x t ho z bytes ht hi hzs hsz v n cs hs hown' _ 1 1 hx u.toList (by simpa using hu) h1 (RdC.blk (Blk.new w0 T u)) hb (by simp; omega) fun v' w' h2 => h v' w' h2.out.own (fun S W hf hW => h2.out.fr0 hown' (hf.alloc _) hW)
/-- The same, told block by block. -/
theorem wpList_appG2 (hgd : o.guard = none) (s x : Operand) (t : TypeId) (ho : o.op = .call { callee := .builtin .append, args := #[s, x], argTypes := #[t, t] }) (z : Value) (bytes : Nat) (ht : P.underlying t = some (.slice e)) (hi : (P.info? e).map (fun i => (i.zero, i.size, i.bytes)) = some (some z, sz, bytes)) (hzs : z.cells.size = sz) (hsz : 0 < sz)
    (w0 : World) (u : Array Value) (T : TypeId) (v : Value) (n : Nat) (cs : List Value) (hs : a.eval s = v) (hown : OwnG e sz w0 base v n cs) (hx : a.eval x = .slice (some ⟨w0.heap.size, 0, none⟩) 1 1) (hu : u.size = sz) (h1 : ∀ x ∈ u.toList, x.oneCell' = true) (hb : (n + 1) * bytes ≤ 140737488355328 ∧ n + 1 ≤ 140737488355328) (hbase : base ≤ w0.heap.size)
    (h : ∀ v' w', Hid (OwnG e sz w' base v' (n + 1) (cs ++ u.toList)) → Hid (Fr (fun i => v.ownBlock = some i) w0 w') → Hid (v'.ownBlock = v.ownBlock ∨ v'.ownBlock = some (w0.heap.size + 1)) → wpList P ops Q rest (a.put o.dst v') w') : wpList P ops Q (o :: rest) a (w0.alloc (.cells u T)) := by
  have hown' : OwnG e sz (w0.alloc (.cells u T)) base v n cs := hown.fr0 ((Fr.refl (fun _ => False) w0).alloc _)
  exact wpList_appG hgd s x t ho z bytes ht hi hzs hsz v n cs hs hown' _ 1 1 hx u.toList (by simpa using hu) h1 (RdC.blk (Blk.new w0 T u)) hb (by simp; omega) fun v' w' h2 => h v' w' h2.out.own (((Fr.refl _ w0).alloc _).trans h2.out.fr) (hid (by have := h2.out.2.2; simpa using this))
end
end Go.Proofs.YtkmgiodhaaajjaaDoor.Own
