/- Walks of layer order: the keys' methods. -/
import Derived.Test.YtcbogkpgkdijaaaOrdA
import Derived.Deep.RegionLaw
set_option linter.unusedVariables false
set_option linter.unusedSimpArgs false
namespace Go.Proofs.Ytcbogkpgkdijaaa.OrdB
open Go.RowKit Go.Proofs.Ytcbogkpgkdijaaa.Mem Go.Proofs.Ytcbogkpgkdijaaa.Num Go.Proofs.Ytcbogkpgkdijaaa.OrdA

/-- A row of bytes of which the first ones are these. -/
def RowI (w : World) (b cap : Nat) (xs : List Int) : Prop := ∃ cs : List Value, Blk w b 5 cs.toArray ∧ cs.length = cap ∧ xs.length ≤ cap ∧ cs.take xs.length = xs.map (Value.int .u8)
theorem RowI.fr {w w' : World} {b cap : Nat} {xs : List Int} {S : Nat → Prop} (h : RowI w b cap xs) (hf : Fr S w w') (hS : ¬ S b) : RowI w' b cap xs := by
  obtain ⟨cs, hb, h1, h2, h3⟩ := h
  exact ⟨cs, hb.fr hf hS, h1, h2, h3⟩
theorem RowI.rd {w : World} {b cap : Nat} {xs : List Int} (h : RowI w b cap xs) : RdI .u8 w (some ⟨b, 0, none⟩) xs := by
  obtain ⟨cs, hb, h1, h2, h3⟩ := h
  intro i hi
  refine ⟨_, rfl, hb.lt, ?_⟩
  rw [add_plain, hb.cell]
  have e : (cs.take xs.length)[i]? = (xs.map (Value.int .u8))[i]? := by rw [h3]
  rw [List.getElem?_take, if_pos hi] at e
  simp only [Nat.zero_add, List.getElem?_toArray, e]
  simp [List.getD_eq_getElem?_getD, List.getElem?_eq_getElem hi]
theorem RowI.cut {w : World} {b cap : Nat} {xs : List Int} (h : RowI w b cap xs) : RowI w b cap [] := by
  obtain ⟨cs, hb, h1, h2, h3⟩ := h
  exact ⟨cs, hb, h1, by simp, by simp⟩

/-- The keys: both rows, which one is the next key's, and whether there is a last one. -/
structure K where
  k0 : List Int
  k1 : List Int
  now : Bool
  ended : Bool
def K.cur (k : K) : List Int := if k.now then k.k1 else k.k0
def K.last (k : K) : List Int := if k.now then k.k0 else k.k1
def nowI (b : Bool) : Int := if b then 1 else 0
structure KeyAt (w : World) (g b0 b1 cap : Nat) (k : K) : Prop where
  blk : Blk w g 65 #[.slice (some ⟨b0, 0, none⟩) k.k0.length cap, .slice (some ⟨b1, 0, none⟩) k.k1.length cap, .int .i64 (nowI k.now), .bool k.ended]
  r0 : RowI w b0 cap k.k0
  r1 : RowI w b1 cap k.k1
  ne : b0 ≠ b1
  by0 : BytesL k.k0
  by1 : BytesL k.k1

theorem row_ne {w : World} {b cap g : Nat} {xs : List Int} {cs : Array Value} (h : RowI w b cap xs) (hg : Blk w g 65 cs) : ¬ b = g := by
  obtain ⟨ds, hb, _⟩ := h
  exact hb.ne_ hg (by decide)

theorem len_nil (w : World) : Calls Try.prog 31 #[.pointer none] w fun e w' => e = .returned (.int .i64 0) ∧ w = w' := by
  go_enter Try.func31, Try.ntmps31
  go_wp2
  go_ret
  exact ⟨rfl, rfl⟩

theorem len_calls (g b0 b1 cap : Nat) (k : K) (w : World) (h : KeyAt w g b0 b1 cap k) :
    Calls Try.prog 31 #[.pointer (some ⟨g, 0, none⟩)] w fun e w' => e = .returned (.int .i64 k.cur.length) ∧ ∃ n, w' = w.drewN n := by
  obtain ⟨k0, k1, now, ended⟩ := k
  have c0 := h.blk.cell 0
  have c1 := h.blk.cell 1
  have c2 := h.blk.cell 2
  simp at c0 c1 c2
  clear h
  cases now
  all_goals
    simp only [nowI, if_true, if_false, Bool.false_eq_true] at c2
    go_enter Try.func31, Try.ntmps31
    go_wp2
    go_quiet (fail)
    go_wp2
    go_ret
    exact ⟨rfl, _, rfl⟩

def capM (most : Int) : Nat := if most < 0 then 0 else if 1024 < most then 1024 else most.toNat
theorem capM_le (most : Int) : capM most ≤ 1024 := by unfold capM; repeat' split
                                                      all_goals omega
def K.zero : K := ⟨[], [], false, false⟩
/-- What New hands back. -/
def NewTo (w : World) (cap : Nat) (e : Ending) (w' : World) : Prop :=
  ∃ g b0 b1 : Nat, e = .returned (.pointer (some ⟨g, 0, none⟩)) ∧ w.heap.size ≤ g ∧ w.heap.size ≤ b0 ∧ w.heap.size ≤ b1 ∧ KeyAt w' g b0 b1 cap K.zero ∧ Fr (fun _ => False) w w'

theorem row_made (w : World) (c : Nat) : RowI (w.alloc (.cells (madeCells #[.int .u8 0] c) 5)) w.heap.size c [] :=
  ⟨(madeCells #[.int .u8 0] c).toList, by simpa using Blk.new w 5 _, by simp [madeCells], by simp, by simp⟩
theorem infoByte : (Try.prog.info? 5).map (fun i => (i.zero, i.size, i.bytes)) = some (some (.int .u8 0), 1, 1) := by kernel_rfl

theorem new_to (w W : World) (c b0 b1 : Nat) (hb : Blk W (w.heap.size + 2) 65 #[.slice (some ⟨b0, 0, none⟩) 0 c, .slice (some ⟨b1, 0, none⟩) 0 c, .int .i64 0, .bool false]) (h0 : RowI W b0 c []) (h1 : RowI W b1 c []) (hne : b0 ≠ b1) (g0 : w.heap.size ≤ b0) (g1 : w.heap.size ≤ b1) (hf : Fr (fun _ => False) w W) :
    NewTo w c (.returned (.pointer (some ⟨w.heap.size + 2, 0, none⟩))) W :=
  ⟨w.heap.size + 2, b0, b1, rfl, by omega, g0, g1, ⟨hb, h0, h1, hne, (fun _ h => absurd h (by simp [K.zero])), (fun _ h => absurd h (by simp [K.zero]))⟩, hf⟩

theorem mk_of (c : Nat) (hc : c ≤ 1024) (n m : Int) (hn : n = 0) (hm : m = c) (w : World) :
    (Instr.makeSlice 28 (.int .i64 n) (.int .i64 m)).run Try.prog w = .ok (.slice (some ⟨w.heap.size, 0, none⟩) 0 c) (w.alloc (.cells (madeCells #[.int .u8 0] c) 5)) := by
  subst hn hm
  exact run_make_nc (P := Try.prog) 28 5 (.int .u8 0) 1 Try.underlying28 infoByte 0 c (by omega) (by omega) (by omega) w

theorem rows_made (w : World) (c : Nat) (cs : Array Value) :
    RowI (((w.alloc (.cells (madeCells #[.int .u8 0] c) 5)).alloc (.cells (madeCells #[.int .u8 0] c) 5)).alloc (.cells cs 65)).drew w.heap.size c [] ∧
    RowI (((w.alloc (.cells (madeCells #[.int .u8 0] c) 5)).alloc (.cells (madeCells #[.int .u8 0] c) 5)).alloc (.cells cs 65)).drew (w.heap.size + 1) c [] ∧
    Blk (((w.alloc (.cells (madeCells #[.int .u8 0] c) 5)).alloc (.cells (madeCells #[.int .u8 0] c) 5)).alloc (.cells cs 65)).drew (w.heap.size + 2) 65 cs ∧
    Fr (fun _ => False) w (((w.alloc (.cells (madeCells #[.int .u8 0] c) 5)).alloc (.cells (madeCells #[.int .u8 0] c) 5)).alloc (.cells cs 65)).drew := by
  refine ⟨?_, ?_, ?_, (((Fr.refl _ _).alloc _).alloc _).alloc _ |>.drew⟩
  · exact (row_made w c).fr ((((Fr.refl (fun _ => False) _).alloc _).alloc _).drew) (fun h => h)
  · have := (row_made (w.alloc (.cells (madeCells #[.int .u8 0] c) 5)) c).fr (((Fr.refl (fun _ => False) _).alloc (.cells cs 65)).drew) (fun h => h)
    simpa using this
  · have := (Blk.new ((w.alloc (.cells (madeCells #[.int .u8 0] c) 5)).alloc (.cells (madeCells #[.int .u8 0] c) 5)) 65 cs).drew
    simpa using this

theorem new_calls (most : Int) (w : World) :
    Calls Try.prog 23 #[.int .i64 most] w (NewTo w (capM most)) := by
  by_cases h0 : most < 0
  · have hc : capM most = 0 := by unfold capM; rw [if_pos h0]
    rw [hc]
    have hmk := mk_of 0 (by omega) 0 0 rfl rfl
    clear hc
    go_enter Try.func23, Try.ntmps23
    go_wp2
    go_region
    · go_wp2
      go_ret
      obtain ⟨r0, r1, hb, hf⟩ := rows_made w 0 #[.slice (some ⟨w.heap.size, 0, none⟩) 0 0, .slice (some ⟨w.heap.size + 1, 0, none⟩) 0 0, .int .i64 0, .bool false]
      exact new_to w _ 0 _ _ hb r0 r1 (by omega) (by omega) (by omega) hf
    · go_wp2
      go_ret
      obtain ⟨r0, r1, hb, hf⟩ := rows_made w 0 #[.slice (some ⟨w.heap.size + 1, 0, none⟩) 0 0, .slice (some ⟨w.heap.size, 0, none⟩) 0 0, .int .i64 0, .bool false]
      exact new_to w _ 0 _ _ hb r1 r0 (by omega) (by omega) (by omega) hf
  · by_cases h1 : 1024 < most
    · have hc : capM most = 1024 := by unfold capM; rw [if_neg h0, if_pos h1]
      rw [hc]
      have hmk := mk_of 1024 (by omega) 0 1024 rfl rfl
      clear hc
      go_enter Try.func23, Try.ntmps23
      go_wp2
      go_region
      · go_wp2
        go_ret
        obtain ⟨r0, r1, hb, hf⟩ := rows_made w 1024 #[.slice (some ⟨w.heap.size, 0, none⟩) 0 1024, .slice (some ⟨w.heap.size + 1, 0, none⟩) 0 1024, .int .i64 0, .bool false]
        exact new_to w _ 1024 _ _ hb r0 r1 (by omega) (by omega) (by omega) hf
      · go_wp2
        go_ret
        obtain ⟨r0, r1, hb, hf⟩ := rows_made w 1024 #[.slice (some ⟨w.heap.size + 1, 0, none⟩) 0 1024, .slice (some ⟨w.heap.size, 0, none⟩) 0 1024, .int .i64 0, .bool false]
        exact new_to w _ 1024 _ _ hb r1 r0 (by omega) (by omega) (by omega) hf
    · obtain ⟨m, rfl⟩ := Int.eq_ofNat_of_zero_le (show 0 ≤ most by omega)
      have hc : capM (m : Int) = m := by unfold capM; rw [if_neg h0, if_neg h1]; rfl
      have hm : m ≤ 1024 := by omega
      rw [hc]
      have hmk := mk_of m (by omega) 0 m rfl rfl
      clear hc
      go_enter Try.func23, Try.ntmps23
      go_wp2
      go_region
      · go_wp2
        go_ret
        obtain ⟨r0, r1, hb, hf⟩ := rows_made w m #[.slice (some ⟨w.heap.size, 0, none⟩) 0 m, .slice (some ⟨w.heap.size + 1, 0, none⟩) 0 m, .int .i64 0, .bool false]
        exact new_to w _ m _ _ hb r0 r1 (by omega) (by omega) (by omega) hf
      · go_wp2
        go_ret
        obtain ⟨r0, r1, hb, hf⟩ := rows_made w m #[.slice (some ⟨w.heap.size + 1, 0, none⟩) 0 m, .slice (some ⟨w.heap.size, 0, none⟩) 0 m, .int .i64 0, .bool false]
        exact new_to w _ m _ _ hb r1 r0 (by omega) (by omega) (by omega) hf

theorem cap_nil (w : World) : Calls Try.prog 25 #[.pointer none] w fun e w' => e = .returned (.int .i64 0) ∧ w = w' := by
  go_enter Try.func25, Try.ntmps25
  go_wp2
  go_ret
  exact ⟨rfl, rfl⟩
theorem cap_calls (g b0 b1 cap : Nat) (k : K) (w : World) (hc : cap ≤ 1024) (h : KeyAt w g b0 b1 cap k) :
    Calls Try.prog 25 #[.pointer (some ⟨g, 0, none⟩)] w fun e w' => e = .returned (.int .i64 (cap + cap : Nat)) ∧ ∃ n, w' = w.drewN n := by
  have c0 := h.blk.cell 0
  have c1 := h.blk.cell 1
  simp at c0 c1
  clear h
  go_enter Try.func25, Try.ntmps25
  go_wp2
  go_quiet (fail)
  go_wp2
  go_ret
  exact ⟨ret_int (by first | omega | (unfold wrap64; omega)), _, rfl⟩

theorem reset_nil (w : World) : Calls Try.prog 30 #[.pointer none] w fun e w' => e = .returned (.tuple #[]) ∧ w = w' := by
  go_enter Try.func30, Try.ntmps30
  go_wp2
  go_end0
  exact ⟨rfl, rfl⟩
theorem reset_calls (g b0 b1 cap : Nat) (k : K) (w : World) (hc : cap ≤ 1024) (h : KeyAt w g b0 b1 cap k) :
    Calls Try.prog 30 #[.pointer (some ⟨g, 0, none⟩)] w fun e w' => e = .returned (.tuple #[]) ∧ KeyAt w' g b0 b1 cap ⟨[], [], k.now, false⟩ ∧ Fr (fun i => i = g) w w' := by
  obtain ⟨k0, k1, now, ended⟩ := k
  have c0 := h.blk.cell 0
  have c1 := h.blk.cell 1
  have c2 := h.blk.cell 2
  have c3 := h.blk.cell 3
  have f0 := h.blk.frozen 0
  have f1 := h.blk.frozen 1
  have f2 := h.blk.frozen 2
  have f3 := h.blk.frozen 3
  simp at c0 c1 c2 c3
  have H := hid h
  clear h
  go_enter Try.func30, Try.ntmps30
  go_wp2
  go_region
  go_end0
  refine ⟨rfl, ?_, ((((Fr.refl _ w).set1 _ _).set1 _ _).set1 _ _).drew⟩
  obtain ⟨hb, hr0, hr1, hne, _, _⟩ := H.out
  have hf : Fr (fun i => i = g) w (((w.setCell ⟨g, 3, none⟩ (.bool false)).setCell ⟨g, 0, none⟩ (.slice (some ⟨b0, 0, none⟩) 0 cap)).setCell ⟨g, 1, none⟩ (.slice (some ⟨b1, 0, none⟩) 0 cap)).drew := ((((Fr.refl _ w).set1 _ _).set1 _ _).set1 _ _).drew
  refine ⟨?_, (hr0.fr hf (row_ne hr0 hb)).cut, (hr1.fr hf (row_ne hr1 hb)).cut, hne, (fun _ h => absurd h (by simp)), (fun _ h => absurd h (by simp))⟩
  have := (((hb.set_ 3 (.bool false)).set_ 0 (.slice (some ⟨b0, 0, none⟩) 0 cap)).set_ 1 (.slice (some ⟨b1, 0, none⟩) 0 cap)).drew
  simpa using this

/-- append of one byte to a row that has room, as a step of a region that draws its order. -/
theorem step_push {P : Program} {ops : Array Oper} {o : Oper} {a : Act} {w : World} {K : Act → World → Prop} {Q : Exit → Act → World → Prop} {E : Prop}
    (hg : o.guard = none) (s x : Operand) (t : TypeId) (hop : o.op = Op.call { callee := Callee.builtin Builtin.append, args := #[s, x], argTypes := #[t, t] })
    (h1 : P.underlying t = some (.slice 5)) (h2 : (P.info? 5).map (·.size) = some 1)
    (b n cap : Nat) (hs : a.eval s = .slice (some ⟨b, 0, none⟩) n cap) (ad : Addr) (c : Nat) (hx : a.eval x = .slice (some ad) 1 c) (u : Int) (hu : w.cell? ad = some (.int .u8 u))
    (xs : List Int) (hn : xs.length = n) (hr : RowI w b cap xs) (hlt : n < cap)
    (hK : ∀ w2, Hid (RowI w2 b cap (xs ++ [u])) → Hid (Fr (fun i => i = b) w w2) → K (a.put o.dst (.slice (some ⟨b, 0, none⟩) (n + 1) cap)) w2) :
    if Region.wanted o (yielded ops a.tmps) = true then Oper.wp P o a w K Q else E := by
  obtain ⟨i, hi, hsz⟩ := Option.map_eq_some_iff.1 h2
  obtain ⟨cs, hb, hl, hle, htk⟩ := hr
  have hcell : w.cell? ⟨b, n, none⟩ = some (cs[n]'(by omega)) := by rw [hb.cell]; simp
  refine step_append_room hg s x t hop 5 i 1 h1 hi hsz b 0 n cap hs ad 1 c [.int .u8 u] hx rfl (fun j v hv => ?_) (fun v hv => ?_) (by omega) (fun j hj => ?_) ?_
  · rcases j with _ | j
    · simp at hv
      subst hv
      unfold Addr.add
      simpa using hu
    · simp at hv
  · simp at hv
    subst hv
    rfl
  · have : j = 0 := by simpa using hj
    subst this
    simp only [Nat.zero_add, Nat.mul_one, Nat.add_zero]
    exact ⟨by rw [hcell]; rfl, hb.frozen n⟩
  · have e : w.setCells b (0 + n * 1) [Value.int .u8 u] = w.setCell ⟨b, n, none⟩ (.int .u8 u) := by simp [World.setCells]
    rw [e]
    refine hK _ ?_ ((Fr.refl _ _).set1 _ _)
    refine ⟨cs.set n (.int .u8 u), ?_, by simpa using hl, by simp; omega, ?_⟩
    · have := hb.set_ n (.int .u8 u)
      simpa using this
    · subst hn
      rw [List.length_append, List.length_singleton, List.take_set, List.take_succ_eq_append_getElem (by omega), htk]
      rw [List.set_append_right _ _ (by simp)]
      simp

theorem sizeByte : (Try.prog.info? 5).map (·.size) = some 1 := by kernel_rfl
theorem byte_nil (c : Int) (w : World) : Calls Try.prog 26 #[.pointer none, .int .u8 c] w fun e w' => e = .returned (.bool false) ∧ ∃ n, w' = w.drewN n := by
  go_enter Try.func26, Try.ntmps26
  go_wp2
  go_quiet (fail)
  go_wp2
  go_ret
  exact ⟨rfl, _, rfl⟩

def K.push (k : K) (c : Int) : K := if k.now then ⟨k.k0, k.k1 ++ [c], k.now, k.ended⟩ else ⟨k.k0 ++ [c], k.k1, k.now, k.ended⟩
theorem byte_full (g b0 b1 cap : Nat) (k : K) (c : Int) (w : World) (h : KeyAt w g b0 b1 cap k) (hf : k.cur.length = cap) :
    Calls Try.prog 26 #[.pointer (some ⟨g, 0, none⟩), .int .u8 c] w fun e w' => e = .returned (.bool false) ∧ ∃ n, w' = w.drewN n := by
  obtain ⟨k0, k1, now, ended⟩ := k
  have c0 := h.blk.cell 0
  have c1 := h.blk.cell 1
  have c2 := h.blk.cell 2
  simp at c0 c1 c2
  clear h
  cases now
  all_goals
    simp only [K.cur, nowI, if_true, if_false, Bool.false_eq_true] at c2 hf
    subst hf
    go_enter Try.func26, Try.ntmps26
    go_wp2
    go_quiet (fail)
    go_wp2
    go_ret
    exact ⟨rfl, _, rfl⟩

/-- Behind the append: a cell of the keys' own block, as it was. -/
theorem after_push {w W w2 : World} {g i b : Nat} {v : Value} (hc : w.cell? ⟨g, i, none⟩ = some v) (hz : w.frozen? ⟨g, i, none⟩ = false) (hlt : g < w.heap.size) (hf : Fr (fun i => i = b) W w2) (hne : ¬ b = g)
    (hW : Fr (fun _ => False) w W := by first | exact ((Fr.refl _ _).drewN _).alloc _ | exact (Fr.refl _ _).alloc _) : w2.cell? ⟨g, i, none⟩ = some v ∧ w2.frozen? ⟨g, i, none⟩ = false := by
  have h1 := hf.cell (p := ⟨g, i, none⟩) (Nat.lt_of_lt_of_le hlt hW.size) (fun h => hne h.symm)
  have h2 := hW.cell (p := ⟨g, i, none⟩) hlt (fun h => h)
  have h3 := hf.frozen (p := ⟨g, i, none⟩) (Nat.lt_of_lt_of_le hlt hW.size) (fun h => hne h.symm)
  have h4 := hW.frozen (p := ⟨g, i, none⟩) hlt (fun h => h)
  exact ⟨(h1.trans h2).trans hc, (h3.trans h4).trans hz⟩

theorem push0 {w W w2 : World} {g b0 b1 cap : Nat} {k0 k1 : List Int} {ended : Bool} {c : Int} (h : KeyAt w g b0 b1 cap ⟨k0, k1, false, ended⟩) (h0 : 0 ≤ c) (h1 : c ≤ 255) (hW : Fr (fun _ => False) w W) (hf : Fr (fun i => i = b0) W w2) (hr : RowI w2 b0 cap (k0 ++ [c])) :
    KeyAt (w2.setCell ⟨g, 0, none⟩ (.slice (some ⟨b0, 0, none⟩) (k0.length + 1) cap)) g b0 b1 cap (K.push ⟨k0, k1, false, ended⟩ c) ∧ Fr (fun i => i = g ∨ i = b0 ∨ i = b1) w (w2.setCell ⟨g, 0, none⟩ (.slice (some ⟨b0, 0, none⟩) (k0.length + 1) cap)) := by
  have n0 : ¬ b0 = g := row_ne h.r0 h.blk
  have n1 : ¬ b1 = g := row_ne h.r1 h.blk
  have hs : Fr (fun k => k = g) w2 (w2.setCell ⟨g, 0, none⟩ (.slice (some ⟨b0, 0, none⟩) (k0.length + 1) cap)) := (Fr.refl _ w2).set1 0 _
  have hg2 := (h.blk.fr hW (fun h => h)).fr hf (fun e => n0 e.symm)
  refine ⟨⟨?_, hr.fr hs n0, ((h.r1.fr hW (fun h => h)).fr hf (fun e => h.ne e.symm)).fr hs n1, h.ne, ?_, h.by1⟩, ?_⟩
  · have := hg2.set_ 0 (.slice (some ⟨b0, 0, none⟩) (k0.length + 1) cap)
    simpa [K.push] using this
  · intro x hx
    rcases List.mem_append.1 hx with hx | hx
    · exact h.by0 x hx
    · rw [List.mem_singleton] at hx; subst hx; exact ⟨h0, h1⟩
  · refine ((hW.mono (fun _ _ h => h.elim)).then_ hf (fun i _ e => .inr (.inl e))).then_ hs (fun i _ e => .inl e)
theorem push1 {w W w2 : World} {g b0 b1 cap : Nat} {k0 k1 : List Int} {ended : Bool} {c : Int} (h : KeyAt w g b0 b1 cap ⟨k0, k1, true, ended⟩) (h0 : 0 ≤ c) (h1 : c ≤ 255) (hW : Fr (fun _ => False) w W) (hf : Fr (fun i => i = b1) W w2) (hr : RowI w2 b1 cap (k1 ++ [c])) :
    KeyAt (w2.setCell ⟨g, 1, none⟩ (.slice (some ⟨b1, 0, none⟩) (k1.length + 1) cap)) g b0 b1 cap (K.push ⟨k0, k1, true, ended⟩ c) ∧ Fr (fun i => i = g ∨ i = b0 ∨ i = b1) w (w2.setCell ⟨g, 1, none⟩ (.slice (some ⟨b1, 0, none⟩) (k1.length + 1) cap)) := by
  have n0 : ¬ b0 = g := row_ne h.r0 h.blk
  have n1 : ¬ b1 = g := row_ne h.r1 h.blk
  have hs : Fr (fun k => k = g) w2 (w2.setCell ⟨g, 1, none⟩ (.slice (some ⟨b1, 0, none⟩) (k1.length + 1) cap)) := (Fr.refl _ w2).set1 1 _
  have hg2 := (h.blk.fr hW (fun h => h)).fr hf (fun e => n1 e.symm)
  refine ⟨⟨?_, ((h.r0.fr hW (fun h => h)).fr hf (fun e => h.ne e)).fr hs n0, hr.fr hs n1, h.ne, h.by0, ?_⟩, ?_⟩
  · have := hg2.set_ 1 (.slice (some ⟨b1, 0, none⟩) (k1.length + 1) cap)
    simpa [K.push] using this
  · intro x hx
    rcases List.mem_append.1 hx with hx | hx
    · exact h.by1 x hx
    · rw [List.mem_singleton] at hx; subst hx; exact ⟨h0, h1⟩
  · refine ((hW.mono (fun _ _ h => h.elim)).then_ hf (fun i _ e => .inr (.inr e))).then_ hs (fun i _ e => .inl e)

set_option maxHeartbeats 16000000 in
theorem byte_calls (g b0 b1 cap : Nat) (k : K) (c : Int) (w : World) (h0 : 0 ≤ c) (h1 : c ≤ 255) (h : KeyAt w g b0 b1 cap k) (hf : k.cur.length < cap) :
    Calls Try.prog 26 #[.pointer (some ⟨g, 0, none⟩), .int .u8 c] w fun e w' => e = .returned (.bool true) ∧ KeyAt w' g b0 b1 cap (k.push c) ∧ Fr (fun i => i = g ∨ i = b0 ∨ i = b1) w w' := by
  obtain ⟨k0, k1, now, ended⟩ := k
  have c0 := h.blk.cell 0
  have c1 := h.blk.cell 1
  have c2 := h.blk.cell 2
  have f0 := h.blk.frozen 0
  have f1 := h.blk.frozen 1
  have f2 := h.blk.frozen 2
  simp at c0 c1 c2
  have hlt := h.blk.lt
  have H := hid h
  clear h
  cases now
  · simp only [K.cur, nowI, if_true, if_false, Bool.false_eq_true] at c2 hf
    have hne : ((k0.length : Int) == (cap : Int)) = false := beq_eq_false_iff_ne.2 (by omega)
    go_enter Try.func26, Try.ntmps26
    go_wp2
    go_quiet (fail)
    go_wp2
    have a0 := cell_da c0
    have a2 := cell_da c2
    go_region_law (refine step_push rfl (.tmp 43) (.tmp 45) 28 rfl Try.underlying28 sizeByte b0 k0.length cap (by simp [Act.eval, Act.put]) ⟨w.heap.size, 0, none⟩ 1 (by simp [Act.eval, Act.put]) c (by exact (Blk.new (w.drewN _) 5 #[.int .u8 c]).cell 0) k0 rfl (by exact H.out.r0.fr (((Fr.refl (fun _ => False) _).drewN _).alloc _) (fun h => h)) hf ?_; intro w2 hr2 hf2; have q0 := after_push c0 f0 hlt hf2.out (row_ne H.out.r0 H.out.blk); have q1 := q0.2; replace q0 := q0.1; have q2 := (after_push c2 f2 hlt hf2.out (row_ne H.out.r0 H.out.blk)).1)
    all_goals
      go_wp2
      go_ret
      exact ⟨rfl, push0 H.out h0 h1 (((Fr.refl (fun _ => False) w).drewN (nq + 1)).alloc (.cells #[.int .u8 c] 5)) hf2.out hr2.out⟩
  · simp only [K.cur, nowI, if_true, if_false, Bool.false_eq_true] at c2 hf
    have hne : ((k1.length : Int) == (cap : Int)) = false := beq_eq_false_iff_ne.2 (by omega)
    go_enter Try.func26, Try.ntmps26
    go_wp2
    go_quiet (fail)
    go_wp2
    have a1 := cell_da c1
    have a2 := cell_da c2
    go_region_law (refine step_push rfl (.tmp 43) (.tmp 45) 28 rfl Try.underlying28 sizeByte b1 k1.length cap (by simp [Act.eval, Act.put]) ⟨w.heap.size, 0, none⟩ 1 (by simp [Act.eval, Act.put]) c (by exact (Blk.new (w.drewN _) 5 #[.int .u8 c]).cell 0) k1 rfl (by exact H.out.r1.fr (((Fr.refl (fun _ => False) _).drewN _).alloc _) (fun h => h)) hf ?_; intro w2 hr2 hf2; have q0 := after_push c1 f1 hlt hf2.out (row_ne H.out.r1 H.out.blk); have q1 := q0.2; replace q0 := q0.1; have q2 := (after_push c2 f2 hlt hf2.out (row_ne H.out.r1 H.out.blk)).1)
    all_goals
      go_wp2
      go_ret
      exact ⟨rfl, push1 H.out h0 h1 (((Fr.refl (fun _ => False) w).drewN (nq + 1)).alloc (.cells #[.int .u8 c] 5)) hf2.out hr2.out⟩

end Go.Proofs.Ytcbogkpgkdijaaa.OrdB
