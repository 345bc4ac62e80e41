/- Walks of layer blake: a digest's cells; one block. -/
import Derived.Test.YtcbogkpgkdijaaaDoorBlaA
import Derived.Test.YtcbogkpgkdijaaaDoorBlaB
import Derived.Deep.RegionLaw
import Derived.Deep.DrawnRows
import Derived.Deep.MidRow
import Derived.Deep.DeepCutAuto
import Derived.Deep.DeepMust
set_option linter.unusedVariables false
set_option linter.unusedSimpArgs false
namespace Go.Proofs.YtcbogkpgkdijaaaDoor.BlaC
open Go.IntWalk Go.RowKit Go.Proofs.YtcbogkpgkdijaaaDoor.Mem Go.Proofs.YtcbogkpgkdijaaaDoor.Num Go.Proofs.YtcbogkpgkdijaaaDoor.BitsA Go.Proofs.YtcbogkpgkdijaaaDoor.BitsB Go.Proofs.YtcbogkpgkdijaaaDoor.App Go.Proofs.YtcbogkpgkdijaaaDoor.BlaP Go.Proofs.YtcbogkpgkdijaaaDoor.BlaB Go.Proofs.YtcbogkpgkdijaaaDoor.BlaA

theorem eight8 {xs : List Int} (h : xs.length = 8) : ∃ a0 a1 a2 a3 a4 a5 a6 a7, xs = [a0, a1, a2, a3, a4, a5, a6, a7] := by
  match xs, h with
  | [a0, a1, a2, a3, a4, a5, a6, a7], _ => exact ⟨_, _, _, _, _, _, _, _, rfl⟩
theorem rd_drop {k : IntKind} {w : World} {Ad : Option Addr} {xs : List Int} (h : RdI k w Ad xs) (n : Nat) : RdI k w (Ad.map fun x => x.add n) (xs.drop n) := by
  intro i hi
  rw [List.length_drop] at hi
  obtain ⟨ad, rfl, hb, hc⟩ := h (n + i) (by omega)
  refine ⟨ad.add n, rfl, by rw [block_of_add]; exact hb, ?_⟩
  rw [add_of_add, hc]
  simp [List.getD_eq_getElem?_getD]
theorem bytes_drop {xs : List Int} (h : Bytes xs) (n : Nat) : Bytes (xs.drop n) := fun c hc => h c (List.mem_of_mem_drop hc)
theorem vec_far {k : IntKind} {t : TypeId} {w : World} {g : Nat} {xs : List Int} (h : VecI k t w g xs) (g' i : Nat) (u : Value) (hne : g ≠ g') : VecI k t (w.setCell ⟨g', i, none⟩ u) g xs := Blk.far h hne u
theorem fr_cell {w w' : World} (h : Fr (fun _ => False) w w') (g i : Nat) (u : Value) (hg : w.heap.size ≤ g) : Fr (fun _ => False) w (w'.setCell ⟨g, i, none⟩ u) := h.setCell (.inr hg) u
theorem lt_of_cell {w : World} {p : Addr} {v : Value} (h : w.cell? p = some v) : p.block < w.heap.size := by
  rcases Nat.lt_or_ge p.block w.heap.size with hlt | hge
  · exact hlt
  · simp [World.cell?, Array.getElem?_eq_none hge] at h
/-- A digest's cells. -/
def dcells (st bl : List Int) (op : Nat) (mn : Int) (bg : Bool) : List Value := st.map (Value.int .u64) ++ (bl.map (Value.int .u8) ++ [.int .i64 op, .int .u64 mn, .bool bg])
def DBlk (w : World) (g : Nat) (st bl : List Int) (op : Nat) (mn : Int) (bg : Bool) : Prop := Blk w g 52 (dcells st bl op mn bg).toArray
theorem dcells_length {st bl : List Int} (h : st.length = 8) (h' : bl.length = 128) (op : Nat) (mn : Int) (bg : Bool) : (dcells st bl op mn bg).length = 139 := by simp [dcells, h, h']
theorem dcells_one {st bl : List Int} {op : Nat} {mn : Int} {bg : Bool} {v : Value} (h : v ∈ dcells st bl op mn bg) : v.oneCell' = true := by
  simp only [dcells, List.mem_append, List.mem_map, List.mem_cons, List.not_mem_nil, or_false] at h
  rcases h with ⟨_, _, rfl⟩ | ⟨_, _, rfl⟩ | rfl | rfl | rfl <;> rfl
section
variable {w : World} {g : Nat} {st bl : List Int} {op : Nat} {mn : Int} {bg : Bool}
theorem DBlk.st_at (h : DBlk w g st bl op mn bg) (h8 : st.length = 8) (i : Nat) (hi : i < 8) : w.cell? ⟨g, i, none⟩ = some (.int .u64 (st.getD i 0)) := by
  rw [Blk.cell h, List.getElem?_toArray, dcells, List.getElem?_append_left (by simp; omega)]
  simp [List.getD_eq_getElem?_getD, List.getElem?_eq_getElem (show i < st.length by omega)]
theorem DBlk.bl_at (h : DBlk w g st bl op mn bg) (h8 : st.length = 8) (hb : bl.length = 128) (i : Nat) (hi : i < 128) : w.cell? ⟨g, 8 + i, none⟩ = some (.int .u8 (bl.getD i 0)) := by
  rw [Blk.cell h, List.getElem?_toArray, dcells, List.getElem?_append_right (by simp; omega), List.getElem?_append_left (by simp; omega)]
  simp [h8, List.getD_eq_getElem?_getD, List.getElem?_eq_getElem (show i < bl.length by omega)]
theorem DBlk.tail (h : DBlk w g st bl op mn bg) (h8 : st.length = 8) (hb : bl.length = 128) :
    w.cell? ⟨g, 136, none⟩ = some (.int .i64 op) ∧ w.cell? ⟨g, 137, none⟩ = some (.int .u64 mn) ∧ w.cell? ⟨g, 138, none⟩ = some (.bool bg) := by
  refine ⟨?_, ?_, ?_⟩ <;>
    (rw [Blk.cell h, List.getElem?_toArray, dcells, List.getElem?_append_right (by simp; omega), List.getElem?_append_right (by simp; omega)]; simp [h8, hb])
theorem DBlk.eight (h : DBlk w g st bl op mn bg) {a0 a1 a2 a3 a4 a5 a6 a7 : Int} (hs : st = [a0, a1, a2, a3, a4, a5, a6, a7]) :
    w.cell? ⟨g, 0, none⟩ = some (.int .u64 a0) ∧ w.cell? ⟨g, 1, none⟩ = some (.int .u64 a1) ∧ w.cell? ⟨g, 2, none⟩ = some (.int .u64 a2) ∧ w.cell? ⟨g, 3, none⟩ = some (.int .u64 a3) ∧
    w.cell? ⟨g, 4, none⟩ = some (.int .u64 a4) ∧ w.cell? ⟨g, 5, none⟩ = some (.int .u64 a5) ∧ w.cell? ⟨g, 6, none⟩ = some (.int .u64 a6) ∧ w.cell? ⟨g, 7, none⟩ = some (.int .u64 a7) := by
  subst hs
  exact ⟨h.st_at rfl 0 (by omega), h.st_at rfl 1 (by omega), h.st_at rfl 2 (by omega), h.st_at rfl 3 (by omega), h.st_at rfl 4 (by omega), h.st_at rfl 5 (by omega), h.st_at rfl 6 (by omega), h.st_at rfl 7 (by omega)⟩
theorem DBlk.fr {w' : World} {S : Nat → Prop} (h : DBlk w g st bl op mn bg) (hf : Fr S w w') (hg : ¬ S g) : DBlk w' g st bl op mn bg := Blk.fr h hf hg
theorem DBlk.setOp (h : DBlk w g st bl op mn bg) (h8 : st.length = 8) (hb : bl.length = 128) (n : Nat) : DBlk (w.setCell ⟨g, 136, none⟩ (.int .i64 n)) g st bl n mn bg := by
  have := Blk.set_ h 136 (.int .i64 n)
  unfold DBlk
  have e : (dcells st bl op mn bg).toArray.setIfInBounds 136 (.int .i64 n) = (dcells st bl n mn bg).toArray := by
    rw [List.setIfInBounds_toArray]
    unfold dcells
    rw [List.set_append_right _ _ (by simp; omega), List.set_append_right _ _ (by simp; omega)]
    simp [h8, hb]
  rw [e] at this
  exact this
theorem DBlk.setMn (h : DBlk w g st bl op mn bg) (h8 : st.length = 8) (hb : bl.length = 128) (n : Int) : DBlk (w.setCell ⟨g, 137, none⟩ (.int .u64 n)) g st bl op n bg := by
  have := Blk.set_ h 137 (.int .u64 n)
  unfold DBlk
  have e : (dcells st bl op mn bg).toArray.setIfInBounds 137 (.int .u64 n) = (dcells st bl op n bg).toArray := by
    rw [List.setIfInBounds_toArray]
    unfold dcells
    rw [List.set_append_right _ _ (by simp; omega), List.set_append_right _ _ (by simp; omega)]
    simp [h8, hb]
  rw [e] at this
  exact this
theorem DBlk.setBg (h : DBlk w g st bl op mn bg) (h8 : st.length = 8) (hb : bl.length = 128) (n : Bool) : DBlk (w.setCell ⟨g, 138, none⟩ (.bool n)) g st bl op mn n := by
  have := Blk.set_ h 138 (.bool n)
  unfold DBlk
  have e : (dcells st bl op mn bg).toArray.setIfInBounds 138 (.bool n) = (dcells st bl op mn n).toArray := by
    rw [List.setIfInBounds_toArray]
    unfold dcells
    rw [List.set_append_right _ _ (by simp; omega), List.set_append_right _ _ (by simp; omega)]
    simp [h8, hb]
  rw [e] at this
  exact this
theorem DBlk.setSt (h : DBlk w g st bl op mn bg) (h8 : st.length = 8) (x0 x1 x2 x3 x4 x5 x6 x7 : Int) :
    DBlk ((((((((w.setCell ⟨g, 0, none⟩ (.int .u64 x0)).setCell ⟨g, 1, none⟩ (.int .u64 x1)).setCell ⟨g, 2, none⟩ (.int .u64 x2)).setCell ⟨g, 3, none⟩ (.int .u64 x3)).setCell ⟨g, 4, none⟩ (.int .u64 x4)).setCell ⟨g, 5, none⟩ (.int .u64 x5)).setCell ⟨g, 6, none⟩ (.int .u64 x6)).setCell ⟨g, 7, none⟩ (.int .u64 x7)) g [x0, x1, x2, x3, x4, x5, x6, x7] bl op mn bg := by
  obtain ⟨a0, a1, a2, a3, a4, a5, a6, a7, rfl⟩ := eight8 h8
  have := (((((((Blk.set_ h 0 (.int .u64 x0)).set_ 1 (.int .u64 x1)).set_ 2 (.int .u64 x2)).set_ 3 (.int .u64 x3)).set_ 4 (.int .u64 x4)).set_ 5 (.int .u64 x5)).set_ 6 (.int .u64 x6)).set_ 7 (.int .u64 x7)
  unfold DBlk
  simpa [dcells] using this
theorem splice_dcells (h8 : st.length = 8) (hb : bl.length = 128) (c : List Int) (hc : op + c.length ≤ 128) :
    splice (dcells st bl op mn bg) (8 + op) (c.map (Value.int .u8)) = dcells st (splice bl op c) op mn bg := by
  unfold splice dcells
  rw [List.take_append, List.take_of_length_le (l := st.map _) (by simp; omega), List.length_map, h8, show 8 + op - 8 = op from by omega,
    List.take_append_of_le_length (by simp; omega), List.length_map, List.drop_append, List.drop_of_length_le (l := st.map _) (by simp; omega), List.length_map, h8,
    List.nil_append, show 8 + op + c.length - 8 = op + c.length from by omega, List.drop_append_of_le_length (by simp; omega)]
  simp [List.map_append, List.map_take, List.map_drop, List.append_assoc]
end

theorem DBlk.rd {w : World} {g : Nat} {st bl : List Int} {op : Nat} {mn : Int} {bg : Bool} (h : DBlk w g st bl op mn bg) (h8 : st.length = 8) (hb : bl.length = 128) : RdI .u8 w (some ⟨g, 8, none⟩) bl := fun i hi =>
  ⟨_, rfl, Blk.lt h, by rw [add_plain]; exact h.bl_at h8 hb i (by omega)⟩
theorem DBlk.rdSt {w : World} {g : Nat} {st bl : List Int} {op : Nat} {mn : Int} {bg : Bool} (h : DBlk w g st bl op mn bg) (h8 : st.length = 8) : RdI .u64 w (some ⟨g, 0, none⟩) st := fun i hi =>
  ⟨_, rfl, Blk.lt h, by rw [add_plain, Nat.zero_add]; exact h.st_at h8 i (by omega)⟩
theorem DBlk.setSt1 {w : World} {g : Nat} {st bl : List Int} {op : Nat} {mn : Int} {bg : Bool} (h : DBlk w g st bl op mn bg) (h8 : st.length = 8) (i : Nat) (hi : i < 8) (x : Int) : DBlk (w.setCell ⟨g, i, none⟩ (.int .u64 x)) g (st.set i x) bl op mn bg := by
  have := Blk.set_ h i (.int .u64 x)
  unfold DBlk
  have e : (dcells st bl op mn bg).toArray.setIfInBounds i (.int .u64 x) = (dcells (st.set i x) bl op mn bg).toArray := by
    rw [List.setIfInBounds_toArray]
    unfold dcells
    rw [List.set_append_left _ _ (by simp; omega), List.map_set]
  rw [e] at this
  exact this

/-- The tables, in their variables. -/
structure Tabs (w : World) : Prop where
  v : RdI .u64 w (some ⟨3, 0, none⟩) iv
  t : RdI .i64 w (some ⟨4, 0, none⟩) flat
theorem rd_cell {k : IntKind} {w : World} {g o : Nat} {xs : List Int} (h : RdI k w (some ⟨g, o, none⟩) xs) (i : Nat) (hi : i < xs.length) : w.cell? ⟨g, o + i, none⟩ = some (.int k (xs.getD i 0)) := by
  obtain ⟨ad, had, _, hc⟩ := h i hi
  injection had with had
  subst had
  rw [add_plain] at hc
  exact hc
theorem Tabs.lt {w : World} (h : Tabs w) : 3 < w.heap.size ∧ 4 < w.heap.size := ⟨lt_of_cell (rd_cell h.v 0 (by decide)), lt_of_cell (rd_cell h.t 0 (by rw [flat_length]; decide))⟩
theorem Tabs.fr {w w' : World} {S : Nat → Prop} (h : Tabs w) (hf : Fr S w w') (h1 : ¬ S 3) (h2 : ¬ S 4) : Tabs w' :=
  ⟨h.v.fr hf (fun ad ha _ => by injection ha with ha; subst ha; exact h1), h.t.fr hf (fun ad ha _ => by injection ha with ha; subst ha; exact h2)⟩
def rowCells (q : Nat) : List Value := (rowOf q).map (Value.int .i64)
theorem rowCells_length (q : Nat) (h : q < 10) : (rowCells q).length = 16 := by rw [rowCells, List.length_map, rowOf_length q h]
theorem rowCells_size (q : Nat) (h : q < 10) : (rowCells q).toArray.size = 16 := by rw [List.size_toArray, rowCells_length q h]
theorem rowCells_one {q : Nat} {v : Value} (h : v ∈ rowCells q) : v.oneCell' = true := by obtain ⟨x, _, rfl⟩ := List.mem_map.1 h; rfl
theorem row_range {w : World} (h : Tabs w) (q : Nat) (hq : q < 10) : w.rangeAt 4 (q * 16) (rowCells q) := by
  intro j v hv
  unfold rowCells at hv
  have hj : j < 16 := by
    rcases Nat.lt_or_ge j 16 with hj | hj
    · exact hj
    · rw [List.getElem?_eq_none (by rw [List.length_map, rowOf_length q hq]; exact hj)] at hv; cases hv
  have hc := rd_cell h.t (16 * q + j) (by rw [flat_length]; omega)
  rw [Nat.zero_add, flat_row q j hq hj, Nat.mul_comm 16 q] at hc
  rw [hc]
  rw [List.getElem?_map, List.getElem?_eq_getElem (by rw [rowOf_length q hq]; exact hj)] at hv
  injection hv with hv
  rw [← hv]
  simp [List.getD_eq_getElem?_getD, List.getElem?_eq_getElem (show j < (rowOf q).length by rw [rowOf_length q hq]; exact hj)]

theorem slice_block (g k : Nat) (hk : 8 * k < 128) (W : World) :
    (Instr.sliceAt 50 (.pointer (some ⟨g, 8, none⟩)) (some (.int .i64 (8 * (k : Int)))) none none).run Tryd.prog W = .ok (.slice (some ⟨g, 8 + 8 * k, none⟩) (128 - 8 * k) (128 - 8 * k)) W := by
  have hl : Tryd.prog.arrayLen 50 = 128 := by kernel_rfl
  have hs : (sizeOf (Tryd.prog.elem 50)).run Tryd.prog W = .ok 1 W := by kernel_rfl
  have hu : Tryd.prog.underlying 50 = some (.array (Tryd.prog.arrayLen 50) (Tryd.prog.elem 50)) := by kernel_rfl
  rw [run_sliceAt_array_l W _ _ hu .i64 (8 * (k : Int)) (by omega) (by rw [hl]; omega), hs, hl]
  rw [show (8 * (k : Int)).toNat = 8 * k by omega]
  simp only [Result.andThen_ok, slicedAt, Nat.mul_one, add_plain]
  rw [if_neg (by omega)]
theorem slice_v (g : Nat) (W : World) : (Instr.sliceAt 85 (.pointer (some ⟨g, 0, none⟩)) none none none).run Tryd.prog W = .ok (.slice (some ⟨g, 0, none⟩) 16 16) W := by
  have hl : Tryd.prog.arrayLen 85 = 16 := by kernel_rfl
  have hs : (sizeOf (Tryd.prog.elem 85)).run Tryd.prog W = .ok 1 W := by kernel_rfl
  have hu : Tryd.prog.underlying 85 = some (.array (Tryd.prog.arrayLen 85) (Tryd.prog.elem 85)) := by kernel_rfl
  rw [run_sliceAt_array_all W _ _ hu, hs, hl]
  simp only [Result.andThen_ok, slicedAt, Nat.zero_mul, Nat.sub_zero, add_plain, Nat.add_zero]
  rw [if_neg (by omega)]
theorem slice_s (g : Nat) (W : World) : (Instr.sliceAt 49 (.pointer (some ⟨g, 0, none⟩)) none none none).run Tryd.prog W = .ok (.slice (some ⟨g, 0, none⟩) 8 8) W := by
  have hl : Tryd.prog.arrayLen 49 = 8 := by kernel_rfl
  have hs : (sizeOf (Tryd.prog.elem 49)).run Tryd.prog W = .ok 1 W := by kernel_rfl
  have hu : Tryd.prog.underlying 49 = some (.array (Tryd.prog.arrayLen 49) (Tryd.prog.elem 49)) := by kernel_rfl
  rw [run_sliceAt_array_all W _ _ hu, hs, hl]
  simp only [Result.andThen_ok, slicedAt, Nat.zero_mul, Nat.sub_zero, add_plain, Nat.add_zero]
  rw [if_neg (by omega)]
theorem slice_v8 (g : Nat) (W : World) : (Instr.sliceAt 85 (.pointer (some ⟨g, 0, none⟩)) (some (.int .i64 8)) none none).run Tryd.prog W = .ok (.slice (some ⟨g, 8, none⟩) 8 8) W := by
  have hl : Tryd.prog.arrayLen 85 = 16 := by kernel_rfl
  have hs : (sizeOf (Tryd.prog.elem 85)).run Tryd.prog W = .ok 1 W := by kernel_rfl
  have hu : Tryd.prog.underlying 85 = some (.array (Tryd.prog.arrayLen 85) (Tryd.prog.elem 85)) := by kernel_rfl
  rw [run_sliceAt_array_l W _ _ hu .i64 8 (by omega) (by rw [hl]; omega), hs, hl]
  rw [show (8 : Int).toNat = 8 from rfl]
  simp only [Result.andThen_ok, slicedAt, Nat.mul_one, add_plain]
  rw [if_neg (by omega)]
theorem little64_any (A : Option Addr) (c n : Nat) (xs : List Int) (w : World) (hn : xs.length = n) (hr : RdI .u8 w A xs) (hb : Bytes xs) :
    Calls Tryd.prog 61 #[.slice A n c] w fun e w' => e = .returned (.int .u64 (val (firstS xs 8).reverse)) ∧ Fr (fun _ => False) w w' := by subst hn; exact little64_calls A c xs w hr hb
theorem size64 : (Tryd.prog.info? 22).map (·.size) = some 1 := by kernel_rfl
theorem mix_any (g : Nat) (v : List Int) (a b c d : Int) (a' b' c' d' : Nat) (x y : Int) (w : World) (ha0 : (a' : Int) = a) (hb0 : (b' : Int) = b) (hc0 : (c' : Int) = c) (hd0 : (d' : Int) = d) (hv : VecI .u64 85 w g v) (hl : v.length = 16) (hU : U64 v) (ha : a' < 16) (hb : b' < 16) (hc : c' < 16) (hd : d' < 16) (hx : 0 ≤ x ∧ x < 18446744073709551616) (hy : 0 ≤ y ∧ y < 18446744073709551616) :
    Calls Tryd.prog 62 #[.pointer (some ⟨g, 0, none⟩), .int .i64 a, .int .i64 b, .int .i64 c, .int .i64 d, .int .u64 x, .int .u64 y] w
      fun e w' => e = .returned (.tuple #[]) ∧ VecI .u64 85 w' g (mix v a' b' c' d' x y) ∧ Fr (fun i => i = g) w w' := by
  subst ha0 hb0 hc0 hd0
  exact mix_calls g v a' b' c' d' x y w hv hl hU ha hb hc hd hx hy
theorem small_in {x : Int} (h : 0 ≤ x ∧ x < 100) : IntKind.i64.wrap x = x := i64_in _ (by omega)
theorem vec_drew {k : IntKind} {t : TypeId} {w : World} {g : Nat} {xs : List Int} (h : VecI k t w g xs) : VecI k t w.drew g xs := h
theorem keep_cell {w w' : World} {g : Nat} {p : Addr} {v : Value} (h : w.cell? p = some v) (hf : Fr (fun i => i = g) w.drew w') (hne : ¬ p.block = g) : w'.cell? p = some v := (hf.cell (w := w.drew) (lt_of_cell h) hne).trans h
/-- What a mix leaves. -/
def Mixed (g : Nat) (v : List Int) (w : World) (e : Ending) (w' : World) : Prop := e = .returned (.tuple #[]) ∧ VecI .u64 85 w' g v ∧ Fr (fun i => i = g) w w'
theorem mixA (g k : Nat) (v : List Int) (x y : Int) (w : World) (hv : VecI .u64 85 w g v) (hl : v.length = 16) (hU : U64 v) (hk : k < 4) (hx : 0 ≤ x ∧ x < 18446744073709551616) (hy : 0 ≤ y ∧ y < 18446744073709551616) :
    Calls Tryd.prog 62 #[.pointer (some ⟨g, 0, none⟩), .int .i64 k, .int .i64 (4 + (k : Int)), .int .i64 (8 + (k : Int)), .int .i64 (12 + (k : Int)), .int .u64 x, .int .u64 y] w (Mixed g (mix v k (4 + k) (8 + k) (12 + k) x y) w) :=
  mix_any g v _ _ _ _ k (4 + k) (8 + k) (12 + k) x y w rfl (by omega) (by omega) (by omega) hv hl hU (by omega) (by omega) (by omega) (by omega) hx hy
theorem mixB (g k a b c : Nat) (v : List Int) (x y : Int) (w : World) (hv : VecI .u64 85 w g v) (hl : v.length = 16) (hU : U64 v) (hk : k < 4) (ha : a < 4) (hb : b < 4) (hc : c < 4) (hx : 0 ≤ x ∧ x < 18446744073709551616) (hy : 0 ≤ y ∧ y < 18446744073709551616) :
    Calls Tryd.prog 62 #[.pointer (some ⟨g, 0, none⟩), .int .i64 k, .int .i64 (4 + (a : Int)), .int .i64 (8 + (b : Int)), .int .i64 (12 + (c : Int)), .int .u64 x, .int .u64 y] w (Mixed g (mix v k (4 + a) (8 + b) (12 + c) x y) w) :=
  mix_any g v _ _ _ _ k (4 + a) (8 + b) (12 + c) x y w rfl (by omega) (by omega) (by omega) hv hl hU (by omega) (by omega) (by omega) (by omega) hx hy
theorem size_row : (Tryd.prog.info? 87).map (·.size) = some 16 := by kernel_rfl

set_option maxRecDepth 100000 in
set_option maxHeartbeats 8000000 in
theorem compress_calls (g : Nat) (st bl : List Int) (op : Nat) (mn : Int) (last : Bool) (w : World) (ht : Tabs w) (hg1 : ¬ g = 3) (hg2 : ¬ g = 4) (h : DBlk w g st bl op mn true) (h8 : st.length = 8) (hb : bl.length = 128) (hU : U64 st) (hbb : Bytes bl) (hm0 : 0 ≤ mn) (hm1 : mn < 18446744073709551616) :
    Calls Tryd.prog 52 #[.pointer (some ⟨g, 0, none⟩), .bool last] w
      fun e w' => e = .returned (.tuple #[]) ∧ DBlk w' g (compress st bl mn last) bl op mn true ∧ Fr (fun i => i = g) w w' := by
  have HT := hid ht
  have HD := hid h
  have H8 := hid h8
  have HB := hid hb
  have HU := hid hU
  have HBB := hid hbb
  have hgw : g < w.heap.size := Blk.lt h
  clear ht h h8 hb hU hbb
  obtain ⟨b, hb⟩ : ∃ b, w.heap.size = b := ⟨_, rfl⟩
  have HBb := hid hb
  go_enter Tryd.func52, Tryd.ntmps52
  go_wp2_with fail
  go_loopw [12] (fun i w' => ∃ t : Nat, t ≤ 16 ∧ i = .int .i64 t ∧ VecI .u64 85 w' b (wordsTo bl t) ∧ VecI .u64 85 w' (b + 1) (List.replicate 16 0) ∧ Fr (fun _ => False) w w') (fun i _ => 16 - (intOf i).toNat)
  case atStart =>
    subst hb
    refine ⟨0, by omega, rfl, ?_, ?_, ((Fr.refl _ _).alloc _).alloc _⟩
    · exact (Blk.new w 85 _).alloc _
    · have h := Blk.new (w.alloc (.cells (Array.replicate 16 (.int .u64 0)) 85)) 85 (Array.replicate 16 (.int .u64 0))
      rw [World.size_alloc] at h
      exact h
  case round =>
    as_aux_lemma =>
    obtain ⟨t, ht, rfl, hv1, hv2, hf⟩ := hrel
    have HV1 := hid hv1
    have HV2 := hid hv2
    have HF := hid hf
    clear hv1 hv2 hf
    by_cases h1 : t < 16
    · have hsl := fun W => slice_block g t (by omega) W
      go_wp2_with fail
      refine (little64_any _ _ _ (bl.drop (8 * t)) _ (by rw [List.length_drop, HB.out]) (by have := rd_drop (DBlk.rd (HD.out.fr HF.out id) H8.out HB.out) (8 * t); rw [Option.map_some, add_plain] at this; exact this) (bytes_drop HBB.out _)).mono ?_
      rintro e w4 ⟨rfl, hf⟩
      have HF4 := hid (HF.out.then_ hf (fun _ _ h => h))
      have HV14 := hid (HV1.out.fr hf id)
      have HV24 := hid (HV2.out.fr hf id)
      clear hf
      obtain ⟨v, hv⟩ : ∃ v, val (firstS (bl.drop (8 * t)) 8).reverse = v := ⟨_, rfl⟩
      have HE := hid (show wordsTo bl (t + 1) = (wordsTo bl t).set t v by rw [← hv]; rfl)
      rw [hv]
      clear hv
      have hc4 := HV14.out.at_ t (by rw [wordsTo_length]; omega)
      have hz4 := Blk.frozen HV14.out t
      go_wp2_with fail
      go_roundw
      case rel =>
        refine ⟨t + 1, by omega, by go_num, ?_, vec_far HV24.out _ _ _ (by omega), fr_cell HF4.out _ _ _ (by omega)⟩
        rw [HE.out]
        exact HV14.out.set_ t v
      case measure => simp [intOf]; omega
    · have ht16 : t = 16 := by omega
      rw [show ((t : Nat) : Int) = 16 from by omega]
      subst ht16
      rw [wordsTo_all] at HV1
      have s1 := slice_v (b + 1)
      have s2 := slice_s g
      have hv2 := hid (show Blk wr (b + 1) 85 ((List.replicate 16 (0 : Int)).map (Value.int .u64)).toArray from HV2.out)
      have hr2 := hid (DBlk.rdSt (HD.out.fr HF.out id) H8.out)
      go_wp2_with fail
      go_region_law (refine step_copyB rfl (.tmp 25) (.tmp 29) 65 65 rfl 22 Tryd.underlying65 size64 .u64 (b + 1) 0 16 16 (some ⟨g, 0, none⟩) 8 8 (by simp [Act.eval, Act.put]) (by simp [Act.eval, Act.put]) 85 _ hv2.out st hr2.out H8.out (by simp) ?_; intro w3 hg3 hf3)
      have e3 : splice ((List.replicate 16 (0 : Int)).map (Value.int .u64)) 0 ((st.take 16).map (Value.int .u64)) = (st ++ List.replicate 8 0).map (Value.int .u64) := by
        rw [map_splice, List.take_of_length_le (by rw [H8.out]; decide), splice_a st H8.out]
      rw [e3] at hg3
      have HG3 := hid hg3.out
      have HF3 := hid (HF.out.drew.then_ hf3.out (fun i hi e => by have e : i = b + 1 := e; omega))
      have HW3 := hid ((HV1.out.drew).fr hf3.out (by omega))
      have HT3 := hid ((HT.out.fr HF3.out id id))
      clear hg3 hf3 e3 s2 hv2 hr2 HV1 HF HV2
      have s3 := slice_v8 (b + 1)
      have s4 := slice_s 3
      go_wp2_with fail
      go_region_law (refine step_copyB rfl (.tmp 31) (.tmp 32) 65 65 rfl 22 Tryd.underlying65 size64 .u64 (b + 1) 8 8 8 (some ⟨3, 0, none⟩) 8 8 (by simp [Act.eval, Act.put]) (by simp [Act.eval, Act.put]) 85 _ HG3.out iv HT3.out.v rfl (by simp [H8.out]) ?_; intro w4 hg4 hf4)
      have e4 : splice ((st ++ List.replicate 8 (0 : Int)).map (Value.int .u64)) 8 ((iv.take 8).map (Value.int .u64)) = (st ++ iv).map (Value.int .u64) := by
        rw [map_splice, List.take_of_length_le (by decide), splice_b st H8.out]
      rw [e4] at hg4
      have HV4 := hid (show VecI .u64 85 w4 (b + 1) (st ++ iv) from hg4.out)
      have HF4 := hid (HF3.out.drew.then_ hf4.out (fun i hi e => by have e : i = b + 1 := e; omega))
      have HW4 := hid ((HW3.out.drew).fr hf4.out (by omega))
      clear hg4 hf4 e4 s3 s4 s1 HG3 HF3 HW3 HT3
      obtain ⟨v12, h12⟩ : ∃ v, at_ (st ++ iv) 12 = v := ⟨_, rfl⟩
      have c12 : w4.cell? ⟨b + 1, 12, none⟩ = some (.int .u64 v12) := by rw [← h12]; exact HV4.out.at_ 12 (by simp [H8.out, iv])
      have z12 := Blk.frozen HV4.out 12
      have cmn := (DBlk.tail (HD.out.fr HF4.out id) H8.out HB.out).2.1
      have H12 := hid h12
      clear h12
      go_wp2_with fail
      go_region
      obtain ⟨w5, hw5⟩ : ∃ w5, (w4.setCell ⟨b + 1, 12, none⟩ (.int .u64 (Go.bits .xor .u64 v12 mn))).drew = w5 := ⟨_, rfl⟩
      have HV5 := hid (show VecI .u64 85 w5 (b + 1) ((st ++ iv).set 12 (X v12 mn)) by rw [← hw5]; exact Blk.drew (HV4.out.set_ 12 (X v12 mn)))
      have f5 : Fr (fun i => i = b + 1) w4 w5 := by rw [← hw5]; exact ((Fr.refl (fun i => i = b + 1) w4).set1 12 _).drew
      have HF5 := hid (HF4.out.then_ f5 (fun i hi e => by have e : i = b + 1 := e; omega))
      have HW5 := hid (VecI.fr (show VecI .u64 85 w4 b (words bl) from HW4.out) f5 (by omega))
      try rw [hw5]
      obtain ⟨v14, h14⟩ : ∃ v, at_ ((st ++ iv).set 12 (X v12 mn)) 14 = v := ⟨_, rfl⟩
      have c14 : w5.cell? ⟨b + 1, 14, none⟩ = some (.int .u64 v14) := by rw [← h14]; exact HV5.out.at_ 14 (by simp [H8.out, iv])
      have z14 := Blk.frozen HV5.out 14
      have H14 := hid h14
      clear h14 hw5 f5 c12 z12 cmn HV4 HF4 HW4
      go_upto_if 42 with fail
      go_cut [] from 43 to 46 (fun wx => VecI .u64 85 wx (b + 1) (BlaP.start st mn last) ∧ Fr (fun i => i = b + 1) w5 wx)
      case first =>
        as_aux_lemma =>
        cases last
        · go_wp2_with fail
          go_meet
          case rel =>
            refine ⟨?_, Fr.refl _ _⟩
            have := HV5.out
            rw [← H12.out] at this
            exact this
        · go_wp2_with fail
          go_meet
          case rel =>
            refine ⟨?_, (Fr.refl _ _).set1 _ _⟩
            have := HV5.out.set_ 14 (X 18446744073709551615 v14)
            have e : ((st ++ iv).set 12 (X v12 mn)).set 14 (X 18446744073709551615 v14) = BlaP.start st mn true := by rw [← H14.out, ← H12.out]; rfl
            rw [e] at this
            exact this
      case rest =>
        obtain ⟨hv6, hf6⟩ := hcut
        have HV6 := hid hv6
        have HF6 := hid (HF5.out.then_ hf6 (fun i hi e => by have e : i = b + 1 := e; omega))
        have HW6 := hid (HW5.out.fr hf6 (by omega))
        clear hv6 hf6 HV5 HF5 HW5 H12 H14 c14 z14
        obtain ⟨v, hv⟩ : ∃ v, BlaP.start st mn last = v := ⟨_, rfl⟩
        have HVL := hid (start_length (many := mn) (last := last) H8.out)
        have HVU := hid (start_U (many := mn) (last := last) HU.out)
        rw [hv] at HV6 HVL HVU
        have HVV := hid hv
        obtain ⟨m, hm⟩ : ∃ m, words bl = m := ⟨_, rfl⟩
        have HML := hid (words_length bl)
        have HMU := hid (words_U bl)
        rw [hm] at HW6 HML HMU
        have HMM := hid hm
        clear hv hm hb
        go_wp2_with fail
        go_loopw [47] (fun i w' => ∃ r : Nat, r ≤ 12 ∧ i = .int .i64 r ∧ VecI .u64 85 w' (b + 1) (rounds m v r) ∧ VecI .u64 85 w' b m ∧ Fr (fun _ => False) w w') (fun i _ => 12 - (intOf i).toNat)
        case atStart => exact ⟨0, by omega, rfl, HV6.out, HW6.out, HF6.out⟩
        case round =>
          as_aux_lemma =>
          obtain ⟨r, hr, rfl, hv, hw, hf⟩ := hrel
          have HV := hid hv
          have HW := hid hw
          have HF := hid hf
          clear hv hw hf HV6 HW6 HF6
          by_cases hr12 : r < 12
          · obtain ⟨q, hq⟩ : ∃ q, r % 10 = q := ⟨_, rfl⟩
            have hq10 : q < 10 := by omega
            have hqe : ((r : Int) % 10) = (q : Int) := by omega
            have HQ := hid hq
            have HRR := hid (row_range (HT.out.fr HF.out id id) q hq10)
            clear hq
            go_wp2_with (first
              | refine wpList_load_mid rfl 87 _ rfl 4 (q * 16) rfl _ _ HRR.out Tryd.underlying87 rfl (by rw [rowCells_length q hq10]; exact size_row) ?_
              | (refine wp_storeB rfl 87 _ _ rfl wr.heap.size _ rfl rfl 87 _ (heap_alloc_new wr _) (by rw [rowCells_size q hq10]; exact size_row) (by rw [rowCells_size q hq10]; rfl) (all_oneCell_toArray (fun v hv => rowCells_one hv)) ?_; intro w7 hb7 hf7))
            obtain ⟨P0, hP0⟩ : ∃ P0, wr.heap.size = P0 := ⟨_, rfl⟩
            rw [hP0] at hb7 hf7 ⊢
            have hbP : b + 1 < P0 := by rw [← hP0]; exact Blk.lt HV.out
            have HP7 := hid (show VecI .i64 87 w7 P0 (rowOf q) from hb7.out)
            have hsz0 := HF.out.size
            have HF7 := hid ((HF.out.alloc (.cells (Array.replicate 16 (.int .i64 0)) 87)).then_ hf7.out (fun i hi e => by have e : i = P0 := e; omega))
            have HV7 := hid (VecI.fr (Blk.alloc HV.out (.cells (Array.replicate 16 (.int .i64 0)) 87)) hf7.out (by omega))
            have HW7 := hid (VecI.fr (Blk.alloc HW.out (.cells (Array.replicate 16 (.int .i64 0)) 87)) hf7.out (by omega))
            obtain ⟨v0, hv0⟩ : ∃ v0, rounds m v r = v0 := ⟨_, rfl⟩
            have HVL0 := hid (rounds_length (m := m) r HVL.out)
            have HVU0 := hid (rounds_U (m := m) r HVU.out)
            rw [hv0] at HV7 HVL0 HVU0
            have HV0 := hid hv0
            have hP1 : ¬ P0 = b + 1 := by omega
            have hP2 : ¬ b = b + 1 := by omega
            clear hb7 hf7 HV HW HF HRR hv0
            go_loopw [54] (fun i w' => ∃ k : Nat, k ≤ 4 ∧ i = .int .i64 k ∧ VecI .u64 85 w' (b + 1) (halfA m v0 r k) ∧ Fr (fun j => j = b + 1) w7 w') (fun i _ => 4 - (intOf i).toNat)
            case atStart => exact ⟨0, by omega, rfl, HV7.out, Fr.refl _ _⟩
            case round =>
              as_aux_lemma =>
              obtain ⟨k, hk, rfl, hv, hf⟩ := hrel
              have HVk := hid hv
              have HFk := hid hf
              clear hv hf
              by_cases hk4 : k < 4
              · obtain ⟨pa, hpa⟩ : ∃ pa, pick r (2 * k) = pa := ⟨_, rfl⟩
                obtain ⟨pb, hpb⟩ : ∃ pb, pick r (2 * k + 1) = pb := ⟨_, rfl⟩
                have la : pa < 16 := by rw [← hpa]; exact pick_lt _ _ (by omega)
                have lb : pb < 16 := by rw [← hpb]; exact pick_lt _ _ (by omega)
                obtain ⟨x, hx⟩ : ∃ x, at_ m pa = x := ⟨_, rfl⟩
                obtain ⟨y, hy⟩ : ∃ y, at_ m pb = y := ⟨_, rfl⟩
                have hxr : 0 ≤ x ∧ x < 18446744073709551616 := by rw [← hx]; exact HMU.out.at_ pa
                have hyr : 0 ≤ y ∧ y < 18446744073709551616 := by rw [← hy]; exact HMU.out.at_ pb
                have ca : wr.cell? ⟨P0, 2 * k, none⟩ = some (.int .i64 pa) := by
                  have := (HP7.out.fr HFk.out (by omega)).at_ (2 * k) (by rw [rowOf_length q hq10]; omega)
                  rw [← HQ.out, row_pick r _ (by omega), hpa] at this
                  exact this
                have cb : wr.cell? ⟨P0, 2 * k + 1, none⟩ = some (.int .i64 pb) := by
                  have := (HP7.out.fr HFk.out (by omega)).at_ (2 * k + 1) (by rw [rowOf_length q hq10]; omega)
                  rw [← HQ.out, row_pick r _ (by omega), hpb] at this
                  exact this
                have cx : wr.cell? ⟨b, pa, none⟩ = some (.int .u64 x) := by rw [← hx]; exact (HW7.out.fr HFk.out (by omega)).at_ pa (by rw [HML.out]; exact la)
                have cy : wr.cell? ⟨b, pb, none⟩ = some (.int .u64 y) := by rw [← hy]; exact (HW7.out.fr HFk.out (by omega)).at_ pb (by rw [HML.out]; exact lb)
                have HE := hid (show halfA m v0 r (k + 1) = mix (halfA m v0 r k) k (4 + k) (8 + k) (12 + k) x y by rw [halfA, hpa, hpb, hx, hy])
                have HXR := hid hxr
                have HYR := hid hyr
                have la' : (pa : Int) < 16 := by omega
                have lb' : (pb : Int) < 16 := by omega
                have k0 : (0 : Int) ≤ k := by omega
                have k4 : (k : Int) < 4 := by omega
                have r1 : 0 ≤ 4 + (k : Int) ∧ 4 + (k : Int) < 100 := by omega
                have r2 : 0 ≤ 8 + (k : Int) ∧ 8 + (k : Int) < 100 := by omega
                have r3 : 0 ≤ 12 + (k : Int) ∧ 12 + (k : Int) < 100 := by omega
                have r4 : 0 ≤ 2 * (k : Int) ∧ 2 * (k : Int) < 100 := by omega
                have r5 : 0 ≤ 2 * (k : Int) + 1 ∧ 2 * (k : Int) + 1 < 100 := by omega
                have p4 : (0 : Int) ≤ 2 * (k : Int) := by omega
                have q4 : 2 * (k : Int) < 16 := by omega
                have p5 : (0 : Int) ≤ 2 * (k : Int) + 1 := by omega
                have q5 : 2 * (k : Int) + 1 < 16 := by omega
                have t4 : (2 * (k : Int)).toNat = 2 * k := by omega
                have t5 : (2 * (k : Int) + 1).toNat = 2 * k + 1 := by omega
                have n1 : IntKind.i64.wrap (4 + (k : Int)) = 4 + (k : Int) := small_in r1
                have n2 : IntKind.i64.wrap (8 + (k : Int)) = 8 + (k : Int) := small_in r2
                have n3 : IntKind.i64.wrap (12 + (k : Int)) = 12 + (k : Int) := small_in r3
                have n4 : IntKind.i64.wrap (2 * (k : Int)) = 2 * (k : Int) := small_in r4
                have n5 : IntKind.i64.wrap (2 * (k : Int) + 1) = 2 * (k : Int) + 1 := small_in r5
                clear r1 r2 r3 r4 r5
                clear hpa hpb hx hy hxr hyr la lb
                go_wp2_with fail
                go_region_held3 (fun w' => w'.cell? ⟨P0, 2 * k, none⟩ = some (.int .i64 pa) ∧ w'.cell? ⟨P0, 2 * k + 1, none⟩ = some (.int .i64 pb) ∧ w'.cell? ⟨b, pa, none⟩ = some (.int .u64 x) ∧ w'.cell? ⟨b, pb, none⟩ = some (.int .u64 y)) (first | exact ⟨ca, cb, cx, cy⟩ | exact ⟨ca9, cb9, cx9, cy9⟩ | go_keep) ((go_at_call 62; (with_reducible refine (mixA (b + 1) k (halfA m v0 r k) x y wr.drew (vec_drew HVk.out) (halfA_length r k HVL0.out) (halfA_U r k HVU0.out) hk4 HXR.out HYR.out).mono ?_); rintro e w9 ⟨rfl, hv9, hf9⟩; have ca9 := keep_cell ca hf9 hP1; have cb9 := keep_cell cb hf9 hP1; have cx9 := keep_cell cx hf9 hP2; have cy9 := keep_cell cy hf9 hP2))
                all_goals
                  have HV9 := hid hv9
                  have HF9 := hid (HFk.out.drew.then_ hf9 (fun _ _ h => h))
                  clear hv9 hf9 n1 n2 n3 n4 n5 p4 p5 q4 q5 t4 t5 ca cb cx cy ca9 cb9 cx9 cy9
                  go_wp2_with fail
                  go_roundw
                  case rel =>
                    refine ⟨k + 1, by omega, by go_num, ?_, HF9.out⟩
                    rw [HE.out]
                    exact HV9.out
                  case measure => simp [intOf]; omega
              · have hk' : k = 4 := by omega
                rw [show ((k : Nat) : Int) = 4 from by omega]
                subst hk'
                obtain ⟨v1, hv1⟩ : ∃ v1, halfA m v0 r 4 = v1 := ⟨_, rfl⟩
                have HVL1 := hid (halfA_length (m := m) r 4 HVL0.out)
                have HVU1 := hid (halfA_U (m := m) r 4 HVU0.out)
                rw [hv1] at HVk HVL1 HVU1
                have HV1e := hid hv1
                clear hv1 hk4
                go_wp2_with fail
                go_loopw [79] (fun i w' => ∃ k : Nat, k ≤ 4 ∧ i = .int .i64 k ∧ VecI .u64 85 w' (b + 1) (halfB m v1 r k) ∧ Fr (fun j => j = b + 1) w7 w') (fun i _ => 4 - (intOf i).toNat)
                case atStart => exact ⟨0, by omega, rfl, HVk.out, HFk.out⟩
                case round =>
                  as_aux_lemma =>
                  clear HVk HFk
                  obtain ⟨k, hk, rfl, hv, hf⟩ := hrel
                  have HVk := hid hv
                  have HFk := hid hf
                  clear hv hf
                  by_cases hk4 : k < 4
                  · obtain ⟨a1, ha1⟩ : ∃ a, (k + 1) % 4 = a := ⟨_, rfl⟩
                    obtain ⟨a2, ha2⟩ : ∃ a, (k + 2) % 4 = a := ⟨_, rfl⟩
                    obtain ⟨a3, ha3⟩ : ∃ a, (k + 3) % 4 = a := ⟨_, rfl⟩
                    have b1 : a1 < 4 := by omega
                    have b2 : a2 < 4 := by omega
                    have b3 : a3 < 4 := by omega
                    obtain ⟨pa, hpa⟩ : ∃ pa, pick r (8 + 2 * k) = pa := ⟨_, rfl⟩
                    obtain ⟨pb, hpb⟩ : ∃ pb, pick r (9 + 2 * k) = pb := ⟨_, rfl⟩
                    have la : pa < 16 := by rw [← hpa]; exact pick_lt _ _ (by omega)
                    have lb : pb < 16 := by rw [← hpb]; exact pick_lt _ _ (by omega)
                    obtain ⟨x, hx⟩ : ∃ x, at_ m pa = x := ⟨_, rfl⟩
                    obtain ⟨y, hy⟩ : ∃ y, at_ m pb = y := ⟨_, rfl⟩
                    have hxr : 0 ≤ x ∧ x < 18446744073709551616 := by rw [← hx]; exact HMU.out.at_ pa
                    have hyr : 0 ≤ y ∧ y < 18446744073709551616 := by rw [← hy]; exact HMU.out.at_ pb
                    have ca : wr.cell? ⟨P0, 8 + 2 * k, none⟩ = some (.int .i64 pa) := by
                      have := (HP7.out.fr HFk.out (by omega)).at_ (8 + 2 * k) (by rw [rowOf_length q hq10]; omega)
                      rw [← HQ.out, row_pick r _ (by omega), hpa] at this
                      exact this
                    have cb : wr.cell? ⟨P0, 9 + 2 * k, none⟩ = some (.int .i64 pb) := by
                      have := (HP7.out.fr HFk.out (by omega)).at_ (9 + 2 * k) (by rw [rowOf_length q hq10]; omega)
                      rw [← HQ.out, row_pick r _ (by omega), hpb] at this
                      exact this
                    have cx : wr.cell? ⟨b, pa, none⟩ = some (.int .u64 x) := by rw [← hx]; exact (HW7.out.fr HFk.out (by omega)).at_ pa (by rw [HML.out]; exact la)
                    have cy : wr.cell? ⟨b, pb, none⟩ = some (.int .u64 y) := by rw [← hy]; exact (HW7.out.fr HFk.out (by omega)).at_ pb (by rw [HML.out]; exact lb)
                    have HE := hid (show halfB m v1 r (k + 1) = mix (halfB m v1 r k) k (4 + a1) (8 + a2) (12 + a3) x y by rw [halfB, hpa, hpb, hx, hy, ha1, ha2, ha3])
                    have HXR := hid hxr
                    have HYR := hid hyr
                    have m1 : ((k : Int) + 1).tmod 4 = (a1 : Int) := by rw [Int.tmod_eq_emod_of_nonneg (by omega)]; omega
                    have m2 : ((k : Int) + 2).tmod 4 = (a2 : Int) := by rw [Int.tmod_eq_emod_of_nonneg (by omega)]; omega
                    have m3 : ((k : Int) + 3).tmod 4 = (a3 : Int) := by rw [Int.tmod_eq_emod_of_nonneg (by omega)]; omega
                    have m1' : ((k : Int) + 1) % 4 = (a1 : Int) := by omega
                    have m2' : ((k : Int) + 2) % 4 = (a2 : Int) := by omega
                    have m3' : ((k : Int) + 3) % 4 = (a3 : Int) := by omega
                    have j1 : (0 : Int) ≤ (k : Int) + 1 := by omega
                    have j2 : (0 : Int) ≤ (k : Int) + 2 := by omega
                    have j3 : (0 : Int) ≤ (k : Int) + 3 := by omega
                    have la' : (pa : Int) < 16 := by omega
                    have lb' : (pb : Int) < 16 := by omega
                    have k0 : (0 : Int) ≤ k := by omega
                    have k4 : (k : Int) < 4 := by omega
                    have r1 : 0 ≤ (k : Int) + 1 ∧ (k : Int) + 1 < 100 := by omega
                    have r2 : 0 ≤ (k : Int) + 2 ∧ (k : Int) + 2 < 100 := by omega
                    have r3 : 0 ≤ (k : Int) + 3 ∧ (k : Int) + 3 < 100 := by omega
                    have r4 : 0 ≤ 4 + (a1 : Int) ∧ 4 + (a1 : Int) < 100 := by omega
                    have r5 : 0 ≤ 8 + (a2 : Int) ∧ 8 + (a2 : Int) < 100 := by omega
                    have r6 : 0 ≤ 12 + (a3 : Int) ∧ 12 + (a3 : Int) < 100 := by omega
                    have r7 : 0 ≤ 2 * (k : Int) ∧ 2 * (k : Int) < 100 := by omega
                    have r8 : 0 ≤ 8 + 2 * (k : Int) ∧ 8 + 2 * (k : Int) < 100 := by omega
                    have r9 : 0 ≤ 9 + 2 * (k : Int) ∧ 9 + 2 * (k : Int) < 100 := by omega
                    have p4 : (0 : Int) ≤ 8 + 2 * (k : Int) := by omega
                    have q4 : 8 + 2 * (k : Int) < 16 := by omega
                    have p5 : (0 : Int) ≤ 9 + 2 * (k : Int) := by omega
                    have q5 : 9 + 2 * (k : Int) < 16 := by omega
                    have t4 : (8 + 2 * (k : Int)).toNat = 8 + 2 * k := by omega
                    have t5 : (9 + 2 * (k : Int)).toNat = 9 + 2 * k := by omega
                    have n1 : IntKind.i64.wrap ((k : Int) + 1) = (k : Int) + 1 := small_in r1
                    have n2 : IntKind.i64.wrap ((k : Int) + 2) = (k : Int) + 2 := small_in r2
                    have n3 : IntKind.i64.wrap ((k : Int) + 3) = (k : Int) + 3 := small_in r3
                    have n4 : IntKind.i64.wrap (4 + (a1 : Int)) = 4 + (a1 : Int) := small_in r4
                    have n5 : IntKind.i64.wrap (8 + (a2 : Int)) = 8 + (a2 : Int) := small_in r5
                    have n6 : IntKind.i64.wrap (12 + (a3 : Int)) = 12 + (a3 : Int) := small_in r6
                    have n7 : IntKind.i64.wrap (2 * (k : Int)) = 2 * (k : Int) := small_in r7
                    have n8 : IntKind.i64.wrap (8 + 2 * (k : Int)) = 8 + 2 * (k : Int) := small_in r8
                    have n9 : IntKind.i64.wrap (9 + 2 * (k : Int)) = 9 + 2 * (k : Int) := small_in r9
                    clear r1 r2 r3 r4 r5 r6 r7 r8 r9
                    clear hpa hpb hx hy hxr hyr la lb ha1 ha2 ha3
                    go_wp2_with fail
                    go_region_held3 (fun w' => w'.cell? ⟨P0, 8 + 2 * k, none⟩ = some (.int .i64 pa) ∧ w'.cell? ⟨P0, 9 + 2 * k, none⟩ = some (.int .i64 pb) ∧ w'.cell? ⟨b, pa, none⟩ = some (.int .u64 x) ∧ w'.cell? ⟨b, pb, none⟩ = some (.int .u64 y)) (first | exact ⟨ca, cb, cx, cy⟩ | exact ⟨ca9, cb9, cx9, cy9⟩ | go_keep) ((go_at_call 62; (with_reducible refine (mixB (b + 1) k a1 a2 a3 (halfB m v1 r k) x y wr.drew (vec_drew HVk.out) (halfB_length r k HVL1.out) (halfB_U r k HVU1.out) hk4 b1 b2 b3 HXR.out HYR.out).mono ?_); rintro e w9 ⟨rfl, hv9, hf9⟩; have ca9 := keep_cell ca hf9 hP1; have cb9 := keep_cell cb hf9 hP1; have cx9 := keep_cell cx hf9 hP2; have cy9 := keep_cell cy hf9 hP2))
                    all_goals
                      have HV9 := hid hv9
                      have HF9 := hid (HFk.out.drew.then_ hf9 (fun _ _ h => h))
                      clear hv9 hf9 n1 n2 n3 n4 n5 n6 n7 n8 n9 p4 p5 q4 q5 t4 t5 m1 m2 m3 m1' m2' m3' j1 j2 j3 ca cb cx cy ca9 cb9 cx9 cy9
                      go_wp2_with fail
                      go_roundw
                      case rel =>
                        refine ⟨k + 1, by omega, by go_num, ?_, HF9.out⟩
                        rw [HE.out]
                        exact HV9.out
                      case measure => simp [intOf]; omega
                  · have hk' : k = 4 := by omega
                    rw [show ((k : Nat) : Int) = 4 from by omega]
                    subst hk'
                    have HE := hid (show rounds m v (r + 1) = halfB m v1 r 4 by rw [rounds, HV0.out, HV1e.out])
                    go_wp2_with fail
                    go_roundw
                    case rel =>
                      refine ⟨r + 1, by omega, by go_num, ?_, HW7.out.fr HFk.out (by omega), HF7.out.then_ HFk.out (fun i hi e => by have e : i = b + 1 := e; have := HBb.out; omega)⟩
                      rw [HE.out]
                      exact HVk.out
                    case measure => simp [intOf]; omega
          · have hr' : r = 12 := by omega
            rw [show ((r : Nat) : Int) = 12 from by omega]
            subst hr'
            obtain ⟨vf, hvf⟩ : ∃ vf, rounds m v 12 = vf := ⟨_, rfl⟩
            have HVFL := hid (rounds_length (m := m) 12 HVL.out)
            rw [hvf] at HV HVFL
            have HVF := hid hvf
            have HDr := hid (HD.out.fr HF.out id)
            clear hvf hr12
            have hgb : ¬ g = b + 1 := by have := HBb.out; omega
            go_wp2_with fail
            go_loopw [112] (fun i w' => ∃ k : Nat, k ≤ 8 ∧ i = .int .i64 k ∧ DBlk w' g (close st vf k) bl op mn true ∧ Fr (fun j => j = g) wr w') (fun i _ => 8 - (intOf i).toNat)
            case atStart => exact ⟨0, by omega, rfl, HDr.out, Fr.refl _ _⟩
            case round =>
              as_aux_lemma =>
              obtain ⟨k, hk, rfl, hd, hf⟩ := hrel
              have HDk := hid hd
              have HFk := hid hf
              clear hd hf
              by_cases hk8 : k < 8
              · obtain ⟨s, hs⟩ : ∃ s, at_ (close st vf k) k = s := ⟨_, rfl⟩
                obtain ⟨x, hx⟩ : ∃ x, at_ vf k = x := ⟨_, rfl⟩
                obtain ⟨y, hy⟩ : ∃ y, at_ vf (k + 8) = y := ⟨_, rfl⟩
                have cs : wr.cell? ⟨g, k, none⟩ = some (.int .u64 s) := by rw [← hs]; exact HDk.out.st_at (close_length k H8.out) k hk8
                have cx : wr.cell? ⟨b + 1, k, none⟩ = some (.int .u64 x) := by rw [← hx]; exact (HV.out.fr HFk.out (fun e => hgb e.symm)).at_ k (by rw [HVFL.out]; omega)
                have cy : wr.cell? ⟨b + 1, k + 8, none⟩ = some (.int .u64 y) := by rw [← hy]; exact (HV.out.fr HFk.out (fun e => hgb e.symm)).at_ (k + 8) (by rw [HVFL.out]; omega)
                have hz := Blk.frozen HDk.out k
                have HE := hid (show close st vf (k + 1) = (close st vf k).set k (X s (X x y)) by rw [close, hs, hx, hy])
                have k0 : (0 : Int) ≤ k := by omega
                have k8 : (k : Int) < 8 := by omega
                clear hs hx hy
                go_wp2_with fail
                go_region
                go_wp2_with fail
                go_roundw
                case rel =>
                  refine ⟨k + 1, by omega, by go_num, ?_, (HFk.out.set1 _ _).drew⟩
                  rw [HE.out]
                  exact Blk.drew (DBlk.setSt1 HDk.out (close_length k H8.out) k hk8 (X s (X x y)))
                case measure => simp [intOf]; omega
              · have hk' : k = 8 := by omega
                rw [show ((k : Nat) : Int) = 8 from by omega]
                subst hk'
                have HE := hid (show compress st bl mn last = close st vf 8 by unfold compress; rw [HMM.out, HVV.out, HVF.out])
                go_wp2_with fail
                go_end0
                refine ⟨rfl, ?_, (HF.out.mono (fun _ _ h => h.elim)).then_ HFk.out (fun _ _ h => h)⟩
                rw [HE.out]
                exact HDk.out
end Go.Proofs.YtcbogkpgkdijaaaDoor.BlaC
