/- Words for memory: a block known whole, what an event leaves alone. No program is named here. -/
import Derived.WalkKit
import Derived.Below
import Derived.Deep.Draws
import Derived.Laws.Rows
import Derived.Laws.OwnMore
import Derived.Deep.AppendLies
import Derived.Laws.CopyOwn
import Derived.Laws.MakeOwn
import Derived.Deep.OwnRows
set_option linter.unusedVariables false
set_option linter.unusedSimpArgs false
namespace Go.Proofs.YtkmgiodhaaajjaaDoor.Mem
open Go.RowKit

theorem hid {p : Prop} (h : p) : Hid p := h

/-- Of the elder blocks only those in S may have turned. -/
structure Fr (S : Nat → Prop) (w w' : World) : Prop where
  os : w'.os = w.os
  tape : w'.tape = w.tape
  output : w'.output = w.output
  size : w.heap.size ≤ w'.heap.size
  block : ∀ k, k < w.heap.size → ¬ S k → w'.heap[k]? = w.heap[k]?

section
variable {S T : Nat → Prop} {w w1 w2 : World}
theorem Fr.refl (S : Nat → Prop) (w : World) : Fr S w w := ⟨rfl, rfl, rfl, Nat.le_refl _, fun _ _ _ => rfl⟩
theorem Fr.trans (h : Fr S w w1) (k : Fr S w1 w2) : Fr S w w2 :=
  ⟨k.os.trans h.os, k.tape.trans h.tape, k.output.trans h.output, Nat.le_trans h.size k.size, fun i hi hn => (k.block i (Nat.lt_of_lt_of_le hi h.size) hn).trans (h.block i hi hn)⟩
theorem Fr.mono (h : Fr S w w1) (hS : ∀ k, k < w.heap.size → S k → T k) : Fr T w w1 := ⟨h.os, h.tape, h.output, h.size, fun k hk hn => h.block k hk (fun hs => hn (hS k hk hs))⟩
/-- What is told of what was already there. -/
theorem Fr.then_ (h : Fr S w w1) (k : Fr T w1 w2) (hT : ∀ i, i < w.heap.size → T i → S i) : Fr S w w2 :=
  ⟨k.os.trans h.os, k.tape.trans h.tape, k.output.trans h.output, Nat.le_trans h.size k.size, fun i hi hn => (k.block i (Nat.lt_of_lt_of_le hi h.size) (fun ht => hn (hT i hi ht))).trans (h.block i hi hn)⟩
theorem Fr.drewN (h : Fr S w w1) (n : Nat) : Fr S w (w1.drewN n) := ⟨h.os, h.tape, h.output, h.size, h.block⟩
theorem Fr.drew (h : Fr S w w1) : Fr S w w1.drew := ⟨h.os, h.tape, h.output, h.size, h.block⟩
theorem Fr.alloc (h : Fr S w w1) (o : Obj) : Fr S w (w1.alloc o) :=
  ⟨h.os, h.tape, h.output, Nat.le_trans h.size (by simp), fun i hi hn => (Below.heap_alloc w1 o i (Nat.lt_of_lt_of_le hi h.size)).trans (h.block i hi hn)⟩
theorem Fr.setCell (h : Fr S w w1) {p : Addr} (hp : S p.block ∨ w.heap.size ≤ p.block) (u : Value) : Fr S w (w1.setCell p u) :=
  ⟨h.os, h.tape, h.output, by simpa [World.setCell] using h.size, fun i hi hn => (Below.heap_setCell w1 p u i (by
    rintro rfl
    rcases hp with hp | hp
    · exact hn hp
    · omega)).trans (h.block i hi hn)⟩
theorem Fr.set1 {g : Nat} (h : Fr (fun k => k = g) w w1) (i : Nat) (u : Value) : Fr (fun k => k = g) w (w1.setCell ⟨g, i, none⟩ u) := h.setCell (.inl rfl) u
theorem Fr.below (h : Below w.heap.size w w1) : Fr S w w1 := ⟨h.os, h.tape, h.output, h.size, fun i hi _ => h.block i hi⟩
theorem Fr.grown {g : Nat} (h : w.grownBy w1 (some g)) (hg : S g) : Fr S w w1 := ⟨h.os, h.tape, h.output, h.size, fun i hi hn => h.block i hi (fun e => hn (by injection e with e; rw [e]; exact hg))⟩
theorem Fr.grownN (h : w.grownBy w1 none) : Fr S w w1 := ⟨h.os, h.tape, h.output, h.size, fun i hi _ => h.block i hi (by simp)⟩
theorem Fr.toBelow (h : Fr S w w1) (hS : ∀ k, k < w.heap.size → ¬ S k) : Below w.heap.size w w1 := ⟨h.os, h.tape, h.output, h.size, fun i hi => h.block i hi (hS i hi)⟩
/-- Below a block from which on all may turn. -/
theorem Fr.toBelowAt {B : Nat} (h : Fr S w w1) (hB : B ≤ w.heap.size) (hS : ∀ k, k < B → ¬ S k) : Below B w w1 := ⟨h.os, h.tape, h.output, h.size, fun i hi => h.block i (by omega) (hS i hi)⟩
theorem Fr.cell (h : Fr S w w1) {p : Addr} (hp : p.block < w.heap.size) (hn : ¬ S p.block) : w1.cell? p = w.cell? p := World.cell?_of_block (h.block _ hp hn)
theorem Fr.frozen (h : Fr S w w1) {p : Addr} (hp : p.block < w.heap.size) (hn : ¬ S p.block) : w1.frozen? p = w.frozen? p := World.frozen?_of_block (h.block _ hp hn)
end

/-- Block g is just these cells, none of them frozen. -/
def Blk (w : World) (g : Nat) (t : TypeId) (cs : Array Value) : Prop := w.heap[g]? = some (.cells cs t (0, 0))

section
variable {w w' : World} {g : Nat} {t : TypeId} {cs : Array Value}
theorem Blk.lt (h : Blk w g t cs) : g < w.heap.size := by
  rcases Nat.lt_or_ge g w.heap.size with hlt | hge
  · exact hlt
  · unfold Blk at h; rw [Array.getElem?_eq_none hge] at h; cases h
theorem Blk.cell (h : Blk w g t cs) (i : Nat) : w.cell? ⟨g, i, none⟩ = cs[i]? := cell_of_row w g i cs t (0, 0) h
theorem Blk.frozen (h : Blk w g t cs) (i : Nat) : w.frozen? ⟨g, i, none⟩ = false := by
  unfold Blk at h
  simp [World.frozen?, h]
theorem Blk.new (w : World) (t : TypeId) (cs : Array Value) : Blk (w.alloc (.cells cs t)) w.heap.size t cs := heap_alloc_new w _
theorem Blk.drew (h : Blk w g t cs) : Blk w.drew g t cs := h
theorem Blk.drewN (h : Blk w g t cs) (n : Nat) : Blk (w.drewN n) g t cs := h
theorem Blk.alloc (h : Blk w g t cs) (o : Obj) : Blk (w.alloc o) g t cs := (Below.heap_alloc w o g h.lt).trans h
theorem Blk.set_ (h : Blk w g t cs) (i : Nat) (u : Value) : Blk (w.setCell ⟨g, i, none⟩ u) g t (cs.setIfInBounds i u) := by
  unfold Blk at h ⊢
  simp [World.setCell, Array.getElem?_modify, h]
theorem Blk.far (h : Blk w g t cs) {p : Addr} (hp : g ≠ p.block) (u : Value) : Blk (w.setCell p u) g t cs := (Below.heap_setCell w p u g hp).trans h
theorem Blk.fr {S : Nat → Prop} (h : Blk w g t cs) (hb : Fr S w w') (hg : ¬ S g) : Blk w' g t cs := (hb.block g h.lt hg).trans h
theorem Blk.below (h : Blk w g t cs) (hb : Below w.heap.size w w') : Blk w' g t cs := (hb.block g h.lt).trans h
theorem Blk.ne_ {g' : Nat} {t' : TypeId} {cs' : Array Value} (h : Blk w g t cs) (h' : Blk w g' t' cs') (hne : t ≠ t') : g ≠ g' := by
  rintro rfl
  unfold Blk at h h'
  rw [h] at h'
  injection h' with h'
  injection h' with _ ht
  exact hne ht
end

theorem drewN_fr (S : Nat → Prop) (w : World) (n : Nat) : Fr S w (w.drewN n) := (Fr.refl S w).drewN n

/-- Results, their numbers told apart. -/
theorem ret_int {k : IntKind} {a b : Int} (h : a = b) : Ending.returned (.int k a) = .returned (.int k b) := by rw [h]
theorem ret_bool {a b : Bool} (h : a = b) : Ending.returned (.bool a) = .returned (.bool b) := by rw [h]
theorem ret3_eq {k1 k2 k3 : IntKind} {a b c : Int} {t : Int × Int × Int} (h : (a, b, c) = t) :
    Ending.returned (.tuple #[.int k1 a, .int k2 b, .int k3 c]) = Ending.returned (.tuple #[.int k1 t.1, .int k2 t.2.1, .int k3 t.2.2]) := by subst h; rfl
theorem ret_ib {k : IntKind} {a b : Int} {p q : Bool} (h : a = b) (h' : p = q) : Ending.returned (.tuple #[.int k a, .bool p]) = Ending.returned (.tuple #[.int k b, .bool q]) := by rw [h, h']
theorem ret_ii {k k' : IntKind} {a b c d : Int} (h : a = b) (h' : c = d) : Ending.returned (.tuple #[.int k a, .int k' c]) = Ending.returned (.tuple #[.int k b, .int k' d]) := by rw [h, h']

/-- The bytes of a text, as numbers. -/
def byt (s : ByteArray) : List Int := s.data.toList.map fun b => (b.toNat : Int)
theorem byt_length (s : ByteArray) : (byt s).length = s.size := by simp [byt]
theorem byt_get (s : ByteArray) (i : Nat) (h : i < s.size) : (byt s)[i]? = some ((s[i]'h).toNat : Int) := by
  have h' : i < s.data.toList.length := by simpa using h
  simp [byt, List.getElem?_eq_getElem h']
  rfl
theorem byt_range (s : ByteArray) : ∀ c ∈ byt s, 0 ≤ c ∧ c ≤ 255 := by
  intro c hc
  simp only [byt, List.mem_map] at hc
  obtain ⟨b, _, rfl⟩ := hc
  have := b.toNat_lt
  omega
theorem byt_take_snoc (s : ByteArray) (k : Nat) (h : k < s.size) : (byt s).take (k + 1) = (byt s).take k ++ [((s[k]'h).toNat : Int)] := by
  have h' : k < (byt s).length := by rw [byt_length]; exact h
  have e := byt_get s k h
  rw [List.getElem?_eq_getElem h'] at e
  injection e with e
  rw [List.take_succ_eq_append_getElem h', e]
theorem byt_extract (s : ByteArray) (a b : Nat) : byt (s.extract a b) = ((byt s).take b).drop a := by
  unfold byt
  rw [ByteArray.data_extract]
  simp [Array.toList_extract, List.extract, List.drop_take]

/-- A slice of whole numbers that is read. -/
def RdI (k : IntKind) (w : World) (A : Option Addr) (xs : List Int) : Prop :=
  ∀ i, i < xs.length → ∃ ad, A = some ad ∧ ad.block < w.heap.size ∧ w.cell? (ad.add i) = some (.int k (xs.getD i 0))
theorem block_of_add (a : Addr) (n : Nat) : (a.add n).block = a.block := by unfold Addr.add; split <;> rfl
theorem add_plain (g o j : Nat) : (⟨g, o, none⟩ : Addr).add j = ⟨g, o + j, none⟩ := by unfold Addr.add; split <;> simp_all
theorem add_of_add (a : Addr) (i j : Nat) : (a.add i).add j = a.add (i + j) := by
  unfold Addr.add
  by_cases hi : i = 0 <;> by_cases hj : j = 0 <;> simp [hi, hj, Nat.add_assoc]
theorem RdI.fr {k : IntKind} {w w' : World} {A : Option Addr} {xs : List Int} {S : Nat → Prop} (h : RdI k w A xs) (hf : Fr S w w') (hS : ∀ ad, A = some ad → ad.block < w.heap.size → ¬ S ad.block) : RdI k w' A xs := fun i hi => by
  obtain ⟨ad, rfl, hb, hc⟩ := h i hi
  exact ⟨ad, rfl, Nat.lt_of_lt_of_le hb hf.size, (hf.cell (by rw [block_of_add]; exact hb) (by rw [block_of_add]; exact hS _ rfl hb)).trans hc⟩
theorem RdI.fr0 {k : IntKind} {w w' : World} {A : Option Addr} {xs : List Int} (h : RdI k w A xs) (hf : Fr (fun _ => False) w w') : RdI k w' A xs := h.fr hf (fun _ _ _ h => h)
/-- A block of whole numbers. -/
def VecI (k : IntKind) (t : TypeId) (w : World) (g : Nat) (xs : List Int) : Prop := Blk w g t (xs.map (Value.int k)).toArray
theorem VecI.at_ {k : IntKind} {t : TypeId} {w : World} {g : Nat} {xs : List Int} (h : VecI k t w g xs) (i : Nat) (hi : i < xs.length) : w.cell? ⟨g, i, none⟩ = some (.int k (xs.getD i 0)) := by
  rw [Blk.cell h]
  simp [List.getD_eq_getElem?_getD, List.getElem?_eq_getElem hi]
theorem VecI.set_ {k : IntKind} {t : TypeId} {w : World} {g : Nat} {xs : List Int} (h : VecI k t w g xs) (i : Nat) (u : Int) : VecI k t (w.setCell ⟨g, i, none⟩ (.int k u)) g (xs.set i u) := by
  have := Blk.set_ h i (.int k u)
  unfold VecI
  simpa [List.map_set] using this
theorem VecI.rd {k : IntKind} {t : TypeId} {w : World} {g : Nat} {xs : List Int} (h : VecI k t w g xs) : RdI k w (some ⟨g, 0, none⟩) xs := fun i hi =>
  ⟨_, rfl, Blk.lt h, by rw [add_plain, Nat.zero_add]; exact h.at_ i hi⟩
theorem VecI.fr {k : IntKind} {t : TypeId} {w w' : World} {g : Nat} {xs : List Int} {S : Nat → Prop} (h : VecI k t w g xs) (hf : Fr S w w') (hg : ¬ S g) : VecI k t w' g xs := Blk.fr h hf hg
/-- What a call hands back: a new row of whole numbers, as long as its block. -/
def NewVec (k : IntKind) (t : TypeId) (w : World) (xs : List Int) (e : Ending) (w' : World) : Prop :=
  ∃ g, e = .returned (.slice (some ⟨g, 0, none⟩) xs.length xs.length) ∧ w.heap.size ≤ g ∧ VecI k t w' g xs ∧ Fr (fun _ => False) w w'
/-- The same, its length told apart. -/
def NewVecN (k : IntKind) (t : TypeId) (w : World) (n : Nat) (xs : List Int) (e : Ending) (w' : World) : Prop :=
  ∃ g, e = .returned (.slice (some ⟨g, 0, none⟩) n n) ∧ w.heap.size ≤ g ∧ VecI k t w' g xs ∧ Fr (fun _ => False) w w'
theorem made_toList (k : IntKind) (n : Nat) : (madeCells #[Value.int k 0] n).toList = (List.replicate n (0 : Int)).map (Value.int k) := by
  apply List.ext_getElem
  · simp [madeCells]
  · intro i h1 h2
    simp [madeCells, Nat.mod_one]
theorem made_vec (k : IntKind) (t : TypeId) (w : World) (n : Nat) : VecI k t (w.alloc (.cells (madeCells #[.int k 0] n) t)) w.heap.size (List.replicate n 0) := by
  have h := Blk.new w t (madeCells #[.int k 0] n)
  unfold VecI
  rw [← made_toList]
  simpa using h

theorem fr_setRow {w : World} {g : Nat} (cs : Array Value) : Fr (fun k => k = g) w (w.setRow g cs) :=
  ⟨rfl, rfl, rfl, by simp [World.setRow], fun k _ hn => setRow_other w g k cs hn⟩

section
variable {P : Program} {ops : Array Oper} {rest : List Oper} {o : Oper} {a : Act} {Q : Exit → Act → World → Prop}
/-- copy of whole numbers that are read into a block that is known whole. -/
theorem wp_copyB {w : World} (hgd : o.guard = none) (d s : Operand) (dT sT : TypeId) (ho : o.op = .call { callee := .builtin .copy, args := #[d, s], argTypes := #[dT, sT] }) (e : TypeId) (hu : P.underlying dT = some (.slice e)) (hsz : (P.info? e).map (·.size) = some 1)
    (k : IntKind) (g off dLen dCap : Nat) (A : Option Addr) (sLen sCap : Nat) (hd : a.eval d = .slice (some ⟨g, off, none⟩) dLen dCap) (hs : a.eval s = .slice A sLen sCap)
    (T : TypeId) (cur : List Value) (hB : Blk w g T cur.toArray) (xs : List Int) (hr : RdI k w A xs) (hx : xs.length = sLen) (hfit : off + min sLen dLen ≤ cur.length)
    (h : ∀ w', Hid (Blk w' g T (splice cur off ((xs.take dLen).map (Value.int k))).toArray) → Hid (Fr (fun k => k = g) w w') → wpList P ops Q rest (a.put o.dst (.int .i64 (min sLen dLen : Nat))) w') :
    wpList P ops Q (o :: rest) a w := by
  obtain ⟨cs, hcs⟩ : ∃ cs, cs = (xs.take dLen).map (Value.int k) := ⟨_, rfl⟩
  have hl : cs.length = min sLen dLen := by rw [hcs]; simp [hx, Nat.min_comm]
  have h1 : ∀ v ∈ cs, v.oneCell' = true := by rw [hcs]; intro v hv; simp only [List.mem_map] at hv; obtain ⟨x, _, rfl⟩ := hv; rfl
  rw [← hcs] at h
  by_cases h0 : cs.length = 0
  · have hn : cs = [] := List.eq_nil_of_length_eq_zero h0
    subst hn
    refine wpList_copy_nothing hgd d s dT sT ho e hu hsz _ A dLen dCap sLen sCap hd hs (by rw [← h0]; exact hl.symm) ?_
    have := h w (by simpa [splice] using hid hB) (hid (Fr.refl _ _))
    rw [← hl] at this
    exact this
  · obtain ⟨ad, rfl, _, _⟩ := hr 0 (by omega)
    refine wpList_copy_own hgd d s dT sT ho e hu hsz g off dLen dCap ad sLen sCap hd hs cur.toArray T hB cs hl ?_ (by rw [hl]; simpa using hfit) h1 ?_
    · intro j v hv
      rw [hcs] at hv
      have hj : j < (xs.take dLen).length := by
        rcases Nat.lt_or_ge j (xs.take dLen).length with h | h
        · exact h
        · rw [List.getElem?_eq_none (by simpa using h)] at hv; cases hv
      have hj2 : j < xs.length ∧ j < dLen := by simp at hj; omega
      obtain ⟨ad', he, _, hc⟩ := hr j hj2.1
      injection he with he
      subst he
      rw [hc]
      simp only [List.getElem?_map, List.getElem?_take, hj2.2, if_true, List.getElem?_eq_getElem hj2.1, Option.map_some] at hv
      rw [← hv]
      simp [List.getD_eq_getElem?_getD, List.getElem?_eq_getElem hj2.1]
    · have := h (w.setRow g (cur.take off ++ (cs ++ cur.drop (off + cs.length))).toArray) (by
        have := setRow_heap w g _ (cur.take off ++ (cs ++ cur.drop (off + cs.length))).toArray T _ hB
        exact hid this) (hid (fr_setRow _))
      rw [← hl] at this
      exact this
end

/-- make([]T, n, c), T of one cell. -/
theorem run_make_nc {P : Program} (t e : TypeId) (z : Value) (bytes : Nat) (ht : P.underlying t = some (.slice e)) (hinfo : (P.info? e).map (fun i => (i.zero, i.size, i.bytes)) = some (some z, 1, bytes)) (n c : Nat) (hnc : n ≤ c) (hb : bytes * c ≤ 281474976710656) (h63 : c ≤ 9223372036854775807) (w : World) :
    (Instr.makeSlice t (.int .i64 (n : Int)) (.int .i64 (c : Int))).run P w = .ok (.slice (some ⟨w.heap.size, 0, none⟩) n c) (w.alloc (.cells (madeCells z.cells c) e)) := by
  obtain ⟨i, hi, hzz⟩ := Option.map_eq_some_iff.1 hinfo
  simp only [Prod.mk.injEq] at hzz
  obtain ⟨hz0, hz1, hz2⟩ := hzz
  have hb' : (i.bytes : Int) * (c : Int) ≤ 281474976710656 := by
    have h : ((i.bytes * c : Nat) : Int) ≤ 281474976710656 := by rw [hz2]; omega
    rwa [Int.natCast_mul] at h
  have hr := run_make (P := P) w t e i z ht hi hz0 .i64 .i64 n c (by omega) (by omega) hb' (by omega)
  simp only [Int.toNat_natCast, hz1, Nat.mul_one] at hr
  exact hr

/-- A cell behind draws and a new block: rules for a region that draws its order. -/
theorem cell_da {w : World} {p : Addr} {v : Value} (h : w.cell? p = some v) (n : Nat) (o : Obj) : ((w.drewN n).alloc o).cell? p = some v :=
  (World.cell?_alloc_lt (w.drewN n) o p (World.block_lt_of_cell? w p h)).trans h
theorem cell_a {w : World} {p : Addr} {v : Value} (h : w.cell? p = some v) (o : Obj) : (w.alloc o).cell? p = some v :=
  (World.cell?_alloc_lt w o p (World.block_lt_of_cell? w p h)).trans h

theorem frozen_da {w : World} {p : Addr} (hlt : p.block < w.heap.size) (h : w.frozen? p = false) (n : Nat) (o : Obj) : ((w.drewN n).alloc o).frozen? p = false :=
  ((((Fr.refl (fun _ => False) w).drewN n).alloc o).frozen hlt (fun h => h)).trans h

/-- A slice of texts that is read. -/
def RdS (w : World) (A : Option Addr) (ss : List ByteArray) : Prop :=
  ∀ i, i < ss.length → ∃ ad, A = some ad ∧ ad.block < w.heap.size ∧ w.cell? (ad.add i) = some (.string (ss.getD i ByteArray.empty))
theorem RdS.fr0 {w w' : World} {A : Option Addr} {ss : List ByteArray} (h : RdS w A ss) (hf : Fr (fun _ => False) w w') : RdS w' A ss := fun i hi => by
  obtain ⟨ad, rfl, hb, hc⟩ := h i hi
  exact ⟨ad, rfl, Nat.lt_of_lt_of_le hb hf.size, (hf.cell (by rw [block_of_add]; exact hb) (fun h => h)).trans hc⟩

end Go.Proofs.YtkmgiodhaaajjaaDoor.Mem
