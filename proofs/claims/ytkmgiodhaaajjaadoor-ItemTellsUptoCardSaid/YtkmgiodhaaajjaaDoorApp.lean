/- Rows of whole numbers that the call owns and appends to; copy at a step of a region. No program is named here. -/
import Derived.Test.YtkmgiodhaaajjaaDoorMem
import Derived.Deep.AppendLies
import Derived.Deep.AppendSrc
import Derived.Laws.CopyOwn
import Derived.Laws.Tables
import Derived.Deep.MidRow
set_option linter.unusedVariables false
set_option linter.unusedSimpArgs false
namespace Go.Proofs.YtkmgiodhaaajjaaDoor.App
open Go.RowKit Go.Proofs.YtkmgiodhaaajjaaDoor.Mem

/-- A row that the call owns: v's elements are xs; its block is not below base. -/
def Own (k : IntKind) (e : TypeId) (w : World) (base : Nat) (v : Value) (xs : List Int) : Prop := w.ownsRow base e 1 v xs.length (xs.map (Value.int k))

section
variable {k : IntKind} {e : TypeId} {w w' : World} {base : Nat} {v : Value} {xs ys : List Int}
theorem Own.nil (k : IntKind) (e : TypeId) (w : World) (base : Nat) : Own k e w base (.slice none 0 0) [] := World.ownsRow_nil w base e 1
theorem Own.form (h : Own k e w base v xs) : ∃ A c, v = .slice A xs.length c ∧ xs.length ≤ c ∧ (∀ ad, A = some ad → ∃ g, ad = ⟨g, 0, none⟩ ∧ base ≤ g ∧ g < w.heap.size) := by
  rcases h.2 with ⟨hv, h0⟩ | ⟨g, cap, cur, hv, hb, hg, hn, _⟩
  · exact ⟨none, 0, by rw [hv, h0], by omega, fun _ h => by cases h⟩
  · refine ⟨some ⟨g, 0, none⟩, cap, hv, hn, fun ad h => ?_⟩
    injection h with h
    refine ⟨g, h.symm, hb, ?_⟩
    rcases Nat.lt_or_ge g w.heap.size with hlt | hge
    · exact hlt
    · rw [Array.getElem?_eq_none hge] at hg; cases hg
theorem Own.rd {A : Option Addr} {n c : Nat} (h : Own k e w base (.slice A n c) xs) : RdI k w A xs ∧ n = xs.length := by
  obtain ⟨A', c', hv, _, hA⟩ := h.form
  injection hv with h1 h2 h3
  subst h1 h2
  refine ⟨fun i hi => ?_, rfl⟩
  rcases h.2 with ⟨hv, h0⟩ | ⟨g, cap, cur, hv, hb, hg, hn, _⟩
  · omega
  · injection hv with h1
    subst h1
    obtain ⟨g', hg', _, hlt⟩ := hA _ rfl
    have hc := h.cells (g := g) rfl i (.int k (xs.getD i 0)) (by simp [List.getD_eq_getElem?_getD, List.getElem?_eq_getElem hi])
    injection hg' with hg'
    subst hg'
    exact ⟨_, rfl, hlt, hc⟩
theorem Own.lt (h : Own k e w base v xs) : ∀ g, v.ownBlock = some g → base ≤ g ∧ g < w.heap.size := World.ownsRow.lt h
theorem Own.fr {S : Nat → Prop} (h : Own k e w base v xs) (hf : Fr S w w') (hS : ∀ g, v.ownBlock = some g → ¬ S g) : Own k e w' base v xs := by
  refine ⟨h.1, ?_⟩
  rcases h.2 with h0 | ⟨g, cap, cur, rfl, hb, hg, hr⟩
  · exact .inl h0
  · refine .inr ⟨g, cap, cur, rfl, hb, ?_, hr⟩
    rw [hf.block g (h.lt g rfl).2 (hS g rfl)]
    exact hg
theorem Own.mono {b' : Nat} (h : Own k e w base v xs) (hb : b' ≤ base) : Own k e w b' v xs := by
  refine ⟨h.1, ?_⟩
  rcases h.2 with h0 | ⟨g, cap, cur, rfl, hb', hr⟩
  · exact .inl h0
  · exact .inr ⟨g, cap, cur, rfl, by omega, hr⟩
/-- The same row, of which it is known that its block is not below b'. -/
theorem Own.up {b' : Nat} (h : Own k e w base v xs) (hb : ∀ g, v.ownBlock = some g → b' ≤ g) : Own k e w b' v xs := by
  refine ⟨h.1, ?_⟩
  rcases h.2 with h0 | ⟨g, cap, cur, rfl, hb', hr⟩
  · exact .inl h0
  · exact .inr ⟨g, cap, cur, rfl, hb g rfl, hr⟩
theorem Own.vec {t : TypeId} {g : Nat} (h : VecI k t w g xs) (hb : base ≤ g) (hl : xs.length ≤ maxLen) : Own k t w base (.slice (some ⟨g, 0, none⟩) xs.length xs.length) xs :=
  ⟨by simp, .inr ⟨g, xs.length, _, rfl, hb, h, Nat.le_refl _, hl, by simp, by rw [Nat.mul_one]; exact List.take_of_length_le (by simp)⟩⟩

theorem own_froz {g n c : Nat} (h : Own k e w base (.slice (some ⟨g, 0, none⟩) n c) xs) (i : Nat) : w.frozen? ⟨g, i, none⟩ = false := by
  obtain ⟨_, hn⟩ := h.rd
  subst hn
  exact World.ownsRow.frozenAt h i
theorem own_set {g n c : Nat} (h : Own k e w base (.slice (some ⟨g, 0, none⟩) n c) xs) (i : Nat) (hi : i < xs.length) (u : Int) : Own k e (w.setCell ⟨g, i, none⟩ (.int k u)) base (.slice (some ⟨g, 0, none⟩) n c) (xs.set i u) := by
  obtain ⟨_, hn⟩ := h.rd
  subst hn
  have := World.ownsRow.stored h i (.int k u)
  unfold Own
  rw [List.length_set, List.map_set]
  exact this.1
/-- What append gives. -/
def Appd (k : IntKind) (e : TypeId) (w : World) (base : Nat) (v : Value) (zs : List Int) (v' : Value) (w' : World) : Prop :=
  Own k e w' base v' zs ∧ Fr (fun i => v.ownBlock = some i) w w' ∧ (v'.ownBlock = v.ownBlock ∨ v'.ownBlock = some w.heap.size)
theorem Appd.own {v' : Value} {zs : List Int} (h : Appd k e w base v zs v' w') : Own k e w' base v' zs := h.1
theorem Appd.fr {v' : Value} {zs : List Int} (h : Appd k e w base v zs v' w') : Fr (fun i => v.ownBlock = some i) w w' := h.2.1
theorem Appd.blk {v' : Value} {zs : List Int} (h : Appd k e w base v zs v' w') : v'.ownBlock = v.ownBlock ∨ v'.ownBlock = some w.heap.size := h.2.2
/-- All that turned is new to w0. -/
theorem Appd.fr0 {w0 : World} {v' : Value} {zs : List Int} {S : Nat → Prop} (h : Appd k e w base v zs v' w') (ho : Own k e w base v xs) (h0 : Fr S w0 w) (hb : w0.heap.size ≤ base) : Fr S w0 w' :=
  h0.then_ h.fr (fun i hi e => by have := (ho.lt i e).1; omega)
/-- Another row, as it was. -/
theorem Appd.other {v' : Value} {zs : List Int} (h : Appd k e w base v zs v' w') {k2 : IntKind} {e2 : TypeId} {base2 : Nat} {v2 : Value} {zs2 : List Int} (h2 : Own k2 e2 w base2 v2 zs2) (hne : ∀ g, v2.ownBlock = some g → v.ownBlock ≠ some g) : Own k2 e2 w' base2 v2 zs2 :=
  h2.fr h.fr hne

/-- A constant's bytes, marked as those of a text. -/
theorem rd_const (k : IntKind) (w : World) (t : TypeId) (xs : List Int) (fr : Nat × Nat) : RdI k (w.alloc (.cells (xs.map (Value.int k)).toArray t fr)) (some ⟨w.heap.size, 0, none⟩) xs := fun i hi =>
  ⟨_, rfl, by simp, by
    rw [add_plain, Nat.zero_add, cell_of_row _ _ _ _ _ _ (heap_alloc_new w _)]
    simp [List.getD_eq_getElem?_getD, List.getElem?_eq_getElem hi]⟩
/-- '[]T{}'. -/
theorem own_made0 (k : IntKind) (e : TypeId) (w : World) : Own k e (w.alloc (.cells #[] e)) w.heap.size (.slice (some ⟨w.heap.size, 0, none⟩) 0 0) [] :=
  World.ownsRow_made w #[] 0 (Nat.le_refl _) (by simp [maxLen]) (by simp)
theorem own_blk {p o n c i : Nat} (e : (Value.slice (some ⟨p, o, none⟩) n c).ownBlock = some i) : p = i := Option.some.inj e
theorem run_app {P : Program} (t ty : TypeId) (bytes : Nat) (ht : P.underlying t = some (.slice e)) (hi : (P.info? e).map (fun i => (i.zero, i.size, i.bytes)) = some (some (.int k 0), 1, bytes))
    (hown : Own k e w base v xs) (A : Option Addr) (n c : Nat) (hn : ys.length = n) (hr : RdI k w A ys) (h63 : xs.length + n ≤ maxLen) (hbytes : (xs.length + n) * bytes ≤ 140737488355328) (hbase : base ≤ w.heap.size) :
    ∃ v' w', (Builtin.append_ #[t, t] ty #[v, .slice A n c]).run P w = .ok v' w' ∧ Appd k e w base v (xs ++ ys) v' w' := by
  subst hn
  obtain ⟨i, hi, hzz⟩ := Option.map_eq_some_iff.1 hi
  simp only [Prod.mk.injEq] at hzz
  obtain ⟨hz0, hz1, hz2⟩ := hzz
  cases A with
  | some ad =>
    obtain ⟨v', w', hrun, h2, h3, _, h5⟩ := run_append_own_at (P := P) w base t ty e i (.int k 0) 1 bytes ht hi hz0 hz1 hz2 rfl (by decide) v xs.length (xs.map (Value.int k)) hown ad ys.length c (ys.map (Value.int k)) (by simp)
      (fun j u hu => by
        rcases Nat.lt_or_ge j ys.length with hj | hj
        · obtain ⟨ad', he, _, hc⟩ := hr j hj
          injection he with he
          subst he
          rw [hc]
          simp [List.getElem?_eq_getElem hj] at hu
          rw [← hu]
          simp [List.getD_eq_getElem?_getD, List.getElem?_eq_getElem hj]
        · rw [List.getElem?_eq_none (by simpa using hj)] at hu; cases hu)
      (fun u hu => by obtain ⟨_, _, rfl⟩ := List.mem_map.1 hu; rfl) h63 hbytes hbase
    refine ⟨v', w', hrun, ?_, ⟨h3.os, h3.tape, h3.output, h3.size, fun k hk hn => h3.block k hk (fun e => hn e.symm)⟩, h5⟩
    unfold Own
    rw [List.length_append, List.map_append]
    exact h2
  | none =>
    have h0 : ys = [] := by
      cases ys with
      | nil => rfl
      | cons y ys => obtain ⟨_, he, _⟩ := hr 0 (by simp); cases he
    subst h0
    refine ⟨v, w, ?_, by simpa using hown, Fr.refl _ _, .inl rfl⟩
    obtain ⟨A, c', rfl, hcap, hA⟩ := hown.form
    cases A with
    | some ad =>
      obtain ⟨g, rfl, _, _⟩ := hA ad rfl
      have := run_append_room_src (P := P) w t t ty e i ht hi g 0 xs.length c' (.slice none 0 c) 0 [] (by rw [hz1]; exact Src.ofNil w ht c) (by omega) (fun j hj => by simp at hj) (fun j hj => by simp at hj)
      simpa [World.setCells] using this
    | none =>
      have hx : xs.length = 0 ∧ c' = 0 := by
        rcases hown.2 with ⟨hv, h0⟩ | ⟨g, cap, cur, hv, _⟩
        · injection hv with _ h1 h2; exact ⟨h0, h2⟩
        · injection hv with h; cases h
      rw [hx.1, hx.2]
      simp [Builtin.append_, run_underlying ht, sizeOf, typeInfo, hi, Builtin.lenOf, hz1, Builtin.firstCells, storeCells, run_firstCells_none]
end

section
variable {P : Program} {ops : Array Oper} {rest : List Oper} {o : Oper} {a : Act} {Q : Exit → Act → World → Prop} {K : Act → World → Prop} {E : Prop} {k : IntKind} {e : TypeId} {w : World} {base : Nat}
theorem wp_app (s x : Operand) (t : TypeId) (ho : o.op = .call { callee := .builtin .append, args := #[s, x], argTypes := #[t, t] }) (bytes : Nat) (ht : P.underlying t = some (.slice e)) (hi : (P.info? e).map (fun i => (i.zero, i.size, i.bytes)) = some (some (.int k 0), 1, bytes))
    (v : Value) (xs : List Int) (hs : a.eval s = v) (hown : Own k e w base v xs) (A : Option Addr) (n c : Nat) (hx : a.eval x = .slice A n c) (ys : List Int) (hn : ys.length = n) (hr : RdI k w A ys) (hb : (xs.length + n) * bytes ≤ 140737488355328 ∧ xs.length + n ≤ 140737488355328) (hbase : base ≤ w.heap.size)
    (h : ∀ v' w', Hid (Appd k e w base v (xs ++ ys) v' w') → K (a.put o.dst v') w') : o.wp P a w K Q := by
  obtain ⟨v', w', hr, h2⟩ := run_app (P := P) t o.type bytes ht hi hown A n c hn hr (by unfold maxLen; omega) hb.1 hbase
  unfold Oper.wp execOp
  simp only [ho, resolve, invoke, builtin, Sem.run_bind, Sem.run_pure, Result.andThen_ok, List.map_toArray, List.map_cons, List.map_nil, hs, hx, hr]
  exact h v' w' h2
theorem wpList_app (hgd : o.guard = none) (s x : Operand) (t : TypeId) (ho : o.op = .call { callee := .builtin .append, args := #[s, x], argTypes := #[t, t] }) (bytes : Nat) (ht : P.underlying t = some (.slice e)) (hi : (P.info? e).map (fun i => (i.zero, i.size, i.bytes)) = some (some (.int k 0), 1, bytes))
    (v : Value) (xs : List Int) (hs : a.eval s = v) (hown : Own k e w base v xs) (A : Option Addr) (n c : Nat) (hx : a.eval x = .slice A n c) (ys : List Int) (hn : ys.length = n) (hr : RdI k w A ys) (hb : (xs.length + n) * bytes ≤ 140737488355328 ∧ xs.length + n ≤ 140737488355328) (hbase : base ≤ w.heap.size)
    (h : ∀ v' w', Hid (Appd k e w base v (xs ++ ys) v' w') → wpList P ops Q rest (a.put o.dst v') w') : wpList P ops Q (o :: rest) a w :=
  wpList_plain hgd fun _ hK => wp_app s x t ho bytes ht hi v xs hs hown A n c hx ys hn hr hb hbase fun v' w' h2 => hK _ _ (h v' w' h2)
theorem step_app (hgd : o.guard = none) (s x : Operand) (t : TypeId) (ho : o.op = .call { callee := .builtin .append, args := #[s, x], argTypes := #[t, t] }) (bytes : Nat) (ht : P.underlying t = some (.slice e)) (hi : (P.info? e).map (fun i => (i.zero, i.size, i.bytes)) = some (some (.int k 0), 1, bytes))
    (v : Value) (xs : List Int) (hs : a.eval s = v) (hown : Own k e w base v xs) (A : Option Addr) (n c : Nat) (hx : a.eval x = .slice A n c) (ys : List Int) (hn : ys.length = n) (hr : RdI k w A ys) (hb : (xs.length + n) * bytes ≤ 140737488355328 ∧ xs.length + n ≤ 140737488355328) (hbase : base ≤ w.heap.size)
    (h : ∀ v' w', Hid (Appd k e w base v (xs ++ ys) v' w') → K (a.put o.dst v') w') : if Region.wanted o (yielded ops a.tmps) = true then Oper.wp P o a w K Q else E := by
  have hw : Region.wanted o (yielded ops a.tmps) = true := by simp [Region.wanted, hgd]
  rw [if_pos hw]
  exact wp_app s x t ho bytes ht hi v xs hs hown A n c hx ys hn hr hb hbase h

/-- One element that lies in a block of its own. -/
theorem wpList_app1 (hgd : o.guard = none) (s x : Operand) (t : TypeId) (ho : o.op = .call { callee := .builtin .append, args := #[s, x], argTypes := #[t, t] }) (bytes : Nat) (ht : P.underlying t = some (.slice e)) (hi : (P.info? e).map (fun i => (i.zero, i.size, i.bytes)) = some (some (.int k 0), 1, bytes))
    (w0 : World) (u : Int) (T : TypeId) (v : Value) (xs : List Int) (hs : a.eval s = v) (hown : Own k e w0 base v xs) (hx : a.eval x = .slice (some ⟨w0.heap.size, 0, none⟩) 1 1) (hb : (xs.length + 1) * bytes ≤ 140737488355328 ∧ xs.length + 1 ≤ 140737488355328) (hbase : base ≤ w0.heap.size)
    (h : ∀ v' w', Hid (Own k e w' base v' (xs ++ [u])) → Hid (∀ S W, Fr S W w0 → W.heap.size ≤ base → Fr S W w') → wpList P ops Q rest (a.put o.dst v') w') : wpList P ops Q (o :: rest) a (w0.alloc (.cells #[.int k u] T)) := by
  have hv : VecI k T (w0.alloc (.cells #[.int k u] T)) w0.heap.size [u] := Blk.new w0 T _
  have hown' : Own k e (w0.alloc (.cells #[.int k u] T)) base v xs := hown.fr ((Fr.refl (fun _ => False) w0).alloc _) (fun _ _ h => h)
  exact wpList_app hgd s x t ho bytes ht hi v xs hs hown' _ 1 1 hx [u] rfl hv.rd hb (by simp; omega) fun v' w' h2 => h v' w' h2.out.own (fun S W hf hW => h2.out.fr0 hown' (hf.alloc _) hW)
/-- A whole row is stored. -/
theorem wp_storeB (hgd : o.guard = none) (ty : TypeId) (x y : Operand) (ho : o.op = .store ty x y) (g : Nat) (cells : Array Value) (hx : a.eval x = .pointer (some ⟨g, 0, none⟩)) (hy : a.eval y = .agg cells)
    (t : TypeId) (old : Array Value) (hg : Blk w g t old) (hi : (P.info? ty).map (·.size) = some cells.size) (hold : old.size = cells.size) (h1 : cells.all (·.oneCell') = true)
    (h : ∀ w2, Hid (Blk w2 g t cells) → Hid (Fr (fun k => k = g) w w2) → wpList P ops Q rest (a.put o.dst undef) w2) : wpList P ops Q (o :: rest) a w :=
  wpList_store_row hgd ty x y ho g cells hx hy t old hg hi hold h1 (h _ (hid (setRow_heap w g old cells t (0, 0) hg)) (hid (fr_setRow _)))
/-- copy, as a step of a region that draws. -/
theorem step_copyB (hgd : o.guard = none) (d s : Operand) (dT sT : TypeId) (ho : o.op = .call { callee := .builtin .copy, args := #[d, s], argTypes := #[dT, sT] }) (e : TypeId) (hu : P.underlying dT = some (.slice e)) (hsz : (P.info? e).map (·.size) = some 1)
    (k : IntKind) (g off dLen dCap : Nat) (A : Option Addr) (sLen sCap : Nat) (hd : a.eval d = .slice (some ⟨g, off, none⟩) dLen dCap) (hs : a.eval s = .slice A sLen sCap)
    (T : TypeId) (cur : List Value) (hB : Blk w g T cur.toArray) (xs : List Int) (hr : RdI k w A xs) (hx : xs.length = sLen) (hfit : off + min sLen dLen ≤ cur.length)
    (h : ∀ w', Hid (Blk w' g T (splice cur off ((xs.take dLen).map (Value.int k))).toArray) → Hid (Fr (fun k => k = g) w w') → K (a.put o.dst (.int .i64 (min sLen dLen : Nat))) w') :
    if Region.wanted o (yielded ops a.tmps) = true then Oper.wp P o a w K Q else E := by
  have hw : Region.wanted o (yielded ops a.tmps) = true := by simp [Region.wanted, hgd]
  rw [if_pos hw]
  obtain ⟨cs, hcs⟩ : ∃ cs, cs = (xs.take dLen).map (Value.int k) := ⟨_, rfl⟩
  have hl : cs.length = min sLen dLen := by rw [hcs]; simp [hx, Nat.min_comm]
  have h1 : ∀ v ∈ cs, v.oneCell' = true := by rw [hcs]; intro v hv; simp only [List.mem_map] at hv; obtain ⟨x, _, rfl⟩ := hv; rfl
  rw [← hcs] at h
  by_cases h0 : cs.length = 0
  · have hn : cs = [] := List.eq_nil_of_length_eq_zero h0
    subst hn
    have hrun := run_copy_none (P := P) w dT sT o.type e (some ⟨g, off, none⟩) A dLen dCap sLen sCap hu hsz (by rw [← h0]; exact hl.symm)
    unfold Oper.wp
    simp [execOp, ho, resolve, invoke, builtin, hd, hs, hrun, Result.andThen]
    have := h w (by simpa [splice] using hid hB) (hid (Fr.refl _ _))
    rw [← hl] at this
    exact this
  · obtain ⟨ad, rfl, _, _⟩ := hr 0 (by omega)
    have hrun := run_copy_row (P := P) w dT sT o.type e g off dLen dCap ad sLen sCap cur.toArray T cs hu hsz hB hl (fun j v hv => by
      rw [hcs] at hv
      have hj : j < (xs.take dLen).length := by
        rcases Nat.lt_or_ge j (xs.take dLen).length with h | h
        · exact h
        · rw [List.getElem?_eq_none (by simpa using h)] at hv; cases hv
      have hj2 : j < xs.length ∧ j < dLen := by simp at hj; omega
      obtain ⟨ad', he, _, hc⟩ := hr j hj2.1
      injection he with he
      subst he
      rw [hc]
      simp only [List.getElem?_map, List.getElem?_take, hj2.2, if_true, List.getElem?_eq_getElem hj2.1, Option.map_some] at hv
      rw [← hv]
      simp [List.getD_eq_getElem?_getD, List.getElem?_eq_getElem hj2.1]) (by rw [hl]; simpa using hfit) h1
    unfold Oper.wp
    simp [execOp, ho, resolve, invoke, builtin, hd, hs, hrun, Result.andThen]
    have := h (w.setRow g (cur.take off ++ (cs ++ cur.drop (off + cs.length))).toArray) (by
      have := setRow_heap w g _ (cur.take off ++ (cs ++ cur.drop (off + cs.length))).toArray T _ hB
      exact hid this) (hid (fr_setRow _))
    rw [← hl] at this
    exact this
end
end Go.Proofs.YtkmgiodhaaajjaaDoor.App
