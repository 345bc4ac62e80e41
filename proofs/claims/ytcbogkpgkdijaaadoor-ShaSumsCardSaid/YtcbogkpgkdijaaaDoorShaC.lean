/- Walks of layer sha: a digest's methods. -/
import Derived.Test.YtcbogkpgkdijaaaDoorShaA
import Derived.Test.YtcbogkpgkdijaaaDoorShaB
import Derived.Test.YtcbogkpgkdijaaaDoorApp
import Derived.Deep.RegionLaw
import Derived.Deep.DrawnRows
set_option linter.unusedVariables false
set_option linter.unusedSimpArgs false
namespace Go.Proofs.YtcbogkpgkdijaaaDoor.ShaC
open Go.IntWalk Go.RowKit Go.Proofs.YtcbogkpgkdijaaaDoor.Mem Go.Proofs.YtcbogkpgkdijaaaDoor.Num Go.Proofs.YtcbogkpgkdijaaaDoor.BitsA Go.Proofs.YtcbogkpgkdijaaaDoor.BitsB Go.Proofs.YtcbogkpgkdijaaaDoor.App Go.Proofs.YtcbogkpgkdijaaaDoor.ShaP Go.Proofs.YtcbogkpgkdijaaaDoor.ShaA Go.Proofs.YtcbogkpgkdijaaaDoor.ShaB

/-- A digest's cells. -/
def dcells (st bl : List Int) (op : Nat) (mn : Int) (bg : Bool) : List Value := st.map (Value.int .u32) ++ (bl.map (Value.int .u8) ++ [.int .i64 op, .int .u64 mn, .bool bg])
def DBlk (w : World) (g : Nat) (st bl : List Int) (op : Nat) (mn : Int) (bg : Bool) : Prop := Blk w g 42 (dcells st bl op mn bg).toArray
theorem dcells_length {st bl : List Int} (h : st.length = 8) (h' : bl.length = 64) (op : Nat) (mn : Int) (bg : Bool) : (dcells st bl op mn bg).length = 75 := by simp [dcells, h, h']
theorem dcells_one {st bl : List Int} {op : Nat} {mn : Int} {bg : Bool} {v : Value} (h : v ∈ dcells st bl op mn bg) : v.oneCell' = true := by
  simp only [dcells, List.mem_append, List.mem_map, List.mem_cons, List.not_mem_nil, or_false] at h
  rcases h with ⟨_, _, rfl⟩ | ⟨_, _, rfl⟩ | rfl | rfl | rfl <;> rfl
section
variable {w : World} {g : Nat} {st bl : List Int} {op : Nat} {mn : Int} {bg : Bool}
theorem DBlk.st_at (h : DBlk w g st bl op mn bg) (h8 : st.length = 8) (i : Nat) (hi : i < 8) : w.cell? ⟨g, i, none⟩ = some (.int .u32 (st.getD i 0)) := by
  rw [Blk.cell h, List.getElem?_toArray, dcells, List.getElem?_append_left (by simp; omega)]
  simp [List.getD_eq_getElem?_getD, List.getElem?_eq_getElem (show i < st.length by omega)]
theorem DBlk.bl_at (h : DBlk w g st bl op mn bg) (h8 : st.length = 8) (hb : bl.length = 64) (i : Nat) (hi : i < 64) : w.cell? ⟨g, 8 + i, none⟩ = some (.int .u8 (bl.getD i 0)) := by
  rw [Blk.cell h, List.getElem?_toArray, dcells, List.getElem?_append_right (by simp; omega), List.getElem?_append_left (by simp; omega)]
  simp [h8, List.getD_eq_getElem?_getD, List.getElem?_eq_getElem (show i < bl.length by omega)]
theorem DBlk.tail (h : DBlk w g st bl op mn bg) (h8 : st.length = 8) (hb : bl.length = 64) :
    w.cell? ⟨g, 72, none⟩ = some (.int .i64 op) ∧ w.cell? ⟨g, 73, none⟩ = some (.int .u64 mn) ∧ w.cell? ⟨g, 74, none⟩ = some (.bool bg) := by
  refine ⟨?_, ?_, ?_⟩ <;>
    (rw [Blk.cell h, List.getElem?_toArray, dcells, List.getElem?_append_right (by simp; omega), List.getElem?_append_right (by simp; omega)]; simp [h8, hb])
theorem DBlk.eight (h : DBlk w g st bl op mn bg) {a0 a1 a2 a3 a4 a5 a6 a7 : Int} (hs : st = [a0, a1, a2, a3, a4, a5, a6, a7]) :
    w.cell? ⟨g, 0, none⟩ = some (.int .u32 a0) ∧ w.cell? ⟨g, 1, none⟩ = some (.int .u32 a1) ∧ w.cell? ⟨g, 2, none⟩ = some (.int .u32 a2) ∧ w.cell? ⟨g, 3, none⟩ = some (.int .u32 a3) ∧
    w.cell? ⟨g, 4, none⟩ = some (.int .u32 a4) ∧ w.cell? ⟨g, 5, none⟩ = some (.int .u32 a5) ∧ w.cell? ⟨g, 6, none⟩ = some (.int .u32 a6) ∧ w.cell? ⟨g, 7, none⟩ = some (.int .u32 a7) := by
  subst hs
  exact ⟨h.st_at rfl 0 (by omega), h.st_at rfl 1 (by omega), h.st_at rfl 2 (by omega), h.st_at rfl 3 (by omega), h.st_at rfl 4 (by omega), h.st_at rfl 5 (by omega), h.st_at rfl 6 (by omega), h.st_at rfl 7 (by omega)⟩
theorem DBlk.fr {w' : World} {S : Nat → Prop} (h : DBlk w g st bl op mn bg) (hf : Fr S w w') (hg : ¬ S g) : DBlk w' g st bl op mn bg := Blk.fr h hf hg
theorem DBlk.setOp (h : DBlk w g st bl op mn bg) (h8 : st.length = 8) (hb : bl.length = 64) (n : Nat) : DBlk (w.setCell ⟨g, 72, none⟩ (.int .i64 n)) g st bl n mn bg := by
  have := Blk.set_ h 72 (.int .i64 n)
  unfold DBlk
  have e : (dcells st bl op mn bg).toArray.setIfInBounds 72 (.int .i64 n) = (dcells st bl n mn bg).toArray := by
    rw [List.setIfInBounds_toArray]
    unfold dcells
    rw [List.set_append_right _ _ (by simp; omega), List.set_append_right _ _ (by simp; omega)]
    simp [h8, hb]
  rw [e] at this
  exact this
theorem DBlk.setMn (h : DBlk w g st bl op mn bg) (h8 : st.length = 8) (hb : bl.length = 64) (n : Int) : DBlk (w.setCell ⟨g, 73, none⟩ (.int .u64 n)) g st bl op n bg := by
  have := Blk.set_ h 73 (.int .u64 n)
  unfold DBlk
  have e : (dcells st bl op mn bg).toArray.setIfInBounds 73 (.int .u64 n) = (dcells st bl op n bg).toArray := by
    rw [List.setIfInBounds_toArray]
    unfold dcells
    rw [List.set_append_right _ _ (by simp; omega), List.set_append_right _ _ (by simp; omega)]
    simp [h8, hb]
  rw [e] at this
  exact this
theorem DBlk.setBg (h : DBlk w g st bl op mn bg) (h8 : st.length = 8) (hb : bl.length = 64) (n : Bool) : DBlk (w.setCell ⟨g, 74, none⟩ (.bool n)) g st bl op mn n := by
  have := Blk.set_ h 74 (.bool n)
  unfold DBlk
  have e : (dcells st bl op mn bg).toArray.setIfInBounds 74 (.bool n) = (dcells st bl op mn n).toArray := by
    rw [List.setIfInBounds_toArray]
    unfold dcells
    rw [List.set_append_right _ _ (by simp; omega), List.set_append_right _ _ (by simp; omega)]
    simp [h8, hb]
  rw [e] at this
  exact this
theorem DBlk.setSt (h : DBlk w g st bl op mn bg) (h8 : st.length = 8) (x0 x1 x2 x3 x4 x5 x6 x7 : Int) :
    DBlk ((((((((w.setCell ⟨g, 0, none⟩ (.int .u32 x0)).setCell ⟨g, 1, none⟩ (.int .u32 x1)).setCell ⟨g, 2, none⟩ (.int .u32 x2)).setCell ⟨g, 3, none⟩ (.int .u32 x3)).setCell ⟨g, 4, none⟩ (.int .u32 x4)).setCell ⟨g, 5, none⟩ (.int .u32 x5)).setCell ⟨g, 6, none⟩ (.int .u32 x6)).setCell ⟨g, 7, none⟩ (.int .u32 x7)) g [x0, x1, x2, x3, x4, x5, x6, x7] bl op mn bg := by
  obtain ⟨a0, a1, a2, a3, a4, a5, a6, a7, rfl⟩ := ShaA.eight h8
  have := (((((((Blk.set_ h 0 (.int .u32 x0)).set_ 1 (.int .u32 x1)).set_ 2 (.int .u32 x2)).set_ 3 (.int .u32 x3)).set_ 4 (.int .u32 x4)).set_ 5 (.int .u32 x5)).set_ 6 (.int .u32 x6)).set_ 7 (.int .u32 x7)
  unfold DBlk
  simpa [dcells] using this
theorem splice_dcells (h8 : st.length = 8) (hb : bl.length = 64) (c : List Int) (hc : op + c.length ≤ 64) :
    splice (dcells st bl op mn bg) (8 + op) (c.map (Value.int .u8)) = dcells st (splice bl op c) op mn bg := by
  unfold splice dcells
  rw [List.take_append, List.take_of_length_le (l := st.map _) (by simp; omega), List.length_map, h8, show 8 + op - 8 = op from by omega,
    List.take_append_of_le_length (by simp; omega), List.length_map, List.drop_append, List.drop_of_length_le (l := st.map _) (by simp; omega), List.length_map, h8,
    List.nil_append, show 8 + op + c.length - 8 = op + c.length from by omega, List.drop_append_of_le_length (by simp; omega)]
  simp [List.map_append, List.map_take, List.map_drop, List.append_assoc]
end

/-- The first state, in its variable. -/
def FTab (w : World) : Prop := w.cell? ⟨1, 0, none⟩ = some (.int .u32 1779033703) ∧ w.cell? ⟨1, 1, none⟩ = some (.int .u32 3144134277) ∧
  w.cell? ⟨1, 2, none⟩ = some (.int .u32 1013904242) ∧ w.cell? ⟨1, 3, none⟩ = some (.int .u32 2773480762) ∧ w.cell? ⟨1, 4, none⟩ = some (.int .u32 1359893119) ∧
  w.cell? ⟨1, 5, none⟩ = some (.int .u32 2600822924) ∧ w.cell? ⟨1, 6, none⟩ = some (.int .u32 528734635) ∧ w.cell? ⟨1, 7, none⟩ = some (.int .u32 1541459225)
/-- Both tables stand. -/
structure Tabs (w : World) : Prop where
  k : KTab w
  f : FTab w
theorem Tabs.lt {w : World} (h : Tabs w) : 1 < w.heap.size ∧ 2 < w.heap.size := ⟨lt_of_cell h.f.1, lt_of_cell (h.k 0 (by decide))⟩
theorem Tabs.fr {w w' : World} {S : Nat → Prop} (h : Tabs w) (hf : Fr S w w') (h1 : ¬ S 1) (h2 : ¬ S 2) : Tabs w' := by
  have hc : ∀ i, w'.cell? ⟨1, i, none⟩ = w.cell? ⟨1, i, none⟩ := fun i => hf.cell h.lt.1 h1
  refine ⟨fun t ht => (hf.cell h.lt.2 h2).trans (h.k t ht), ?_⟩
  have f := h.f
  unfold FTab at f ⊢
  simp only [hc]
  exact f

theorem begin_on (g : Nat) (st bl : List Int) (op : Nat) (mn : Int) (w : World) (h8 : st.length = 8) (hb : bl.length = 64) (h : DBlk w g st bl op mn true) :
    Calls Tryd.prog 43 #[.pointer (some ⟨g, 0, none⟩)] w fun e w' => e = .returned (.tuple #[]) ∧ w = w' := by
  have c2 := (h.tail h8 hb).2.2
  clear h h8 hb
  go_enter Tryd.func43, Tryd.ntmps43
  go_wp2
  go_end0
  exact ⟨rfl, rfl⟩
theorem begin_off (g : Nat) (st bl : List Int) (op : Nat) (mn : Int) (w : World) (h8 : st.length = 8) (hb : bl.length = 64) (ht : Tabs w) (hg : ¬ g = 1) (h : DBlk w g st bl op mn false) :
    Calls Tryd.prog 43 #[.pointer (some ⟨g, 0, none⟩)] w fun e w' => e = .returned (.tuple #[]) ∧ DBlk w' g first8 bl op mn true ∧ Fr (fun i => i = g) w w' := by
  have c2 := (h.tail h8 hb).2.2
  have HD := hid h
  have H8 := hid h8
  have HB := hid hb
  obtain ⟨a0, a1, a2, a3, a4, a5, a6, a7, hs⟩ := ShaA.eight h8
  obtain ⟨d0, d1, d2, d3, d4, d5, d6, d7⟩ := h.eight hs
  obtain ⟨f0, f1, f2, f3, f4, f5, f6, f7⟩ := ht.f
  obtain ⟨z0, z1, z2, z3, z4, z5, z6, z7⟩ := froz8 h
  have z74 := Blk.frozen h 74
  clear h h8 hb ht hs
  go_enter Tryd.func43, Tryd.ntmps43
  go_wp2
  go_end0
  refine ⟨rfl, ?_, ?_⟩
  · exact (HD.out.setBg H8.out HB.out true).setSt H8.out _ _ _ _ _ _ _ _
  · exact ((Fr.refl _ w).set1 74 _).then_ (fr8 _ g _ _ _ _ _ _ _ _) (fun _ _ h => h)
theorem len_nil (w : World) : Calls Tryd.prog 24 #[.pointer none] w fun e w' => e = .returned (.int .u64 0) ∧ w = w' := by
  go_enter Tryd.func24, Tryd.ntmps24
  go_wp2
  go_ret
  exact ⟨rfl, rfl⟩
theorem len_calls (g : Nat) (st bl : List Int) (op : Nat) (mn : Int) (bg : Bool) (w : World) (h8 : st.length = 8) (hb : bl.length = 64) (h : DBlk w g st bl op mn bg) :
    Calls Tryd.prog 24 #[.pointer (some ⟨g, 0, none⟩)] w fun e w' => e = .returned (.int .u64 mn) ∧ w = w' := by
  have c1 := (h.tail h8 hb).2.1
  clear h h8 hb
  go_enter Tryd.func24, Tryd.ntmps24
  go_wp2
  go_ret
  exact ⟨rfl, rfl⟩
/-- A digest that has begun, and was handed xs. -/
def DOn (w : World) (g : Nat) (xs : List Int) : Prop := ∃ st bl op, DBlk w g st bl op xs.length true ∧ Rep xs st bl op
def DAt (w : World) (g : Nat) (xs : List Int) : Prop := DOn w g xs ∨ (xs = [] ∧ ∃ st bl, DBlk w g st bl 0 0 false ∧ st.length = 8 ∧ bl.length = 64 ∧ Bytes bl)
theorem DOn.fr {w w' : World} {g : Nat} {xs : List Int} {S : Nat → Prop} (h : DOn w g xs) (hf : Fr S w w') (hg : ¬ S g) : DOn w' g xs := by
  obtain ⟨st, bl, op, h, hr⟩ := h
  exact ⟨st, bl, op, h.fr hf hg, hr⟩
theorem DAt.fr {w w' : World} {g : Nat} {xs : List Int} {S : Nat → Prop} (h : DAt w g xs) (hf : Fr S w w') (hg : ¬ S g) : DAt w' g xs := by
  rcases h with h | ⟨h0, st, bl, h, hr⟩
  · exact .inl (h.fr hf hg)
  · exact .inr ⟨h0, st, bl, h.fr hf hg, hr⟩
theorem DOn.lt {w : World} {g : Nat} {xs : List Int} (h : DOn w g xs) : g < w.heap.size := by obtain ⟨st, bl, op, h, hr⟩ := h; exact Blk.lt h
theorem DAt.lt {w : World} {g : Nat} {xs : List Int} (h : DAt w g xs) : g < w.heap.size := by
  rcases h with h | ⟨h0, st, bl, h, hr⟩
  · exact h.lt
  · exact Blk.lt h

theorem begin_calls (g : Nat) (xs : List Int) (w : World) (ht : Tabs w) (hg : ¬ g = 1) (h : DAt w g xs) :
    Calls Tryd.prog 43 #[.pointer (some ⟨g, 0, none⟩)] w fun e w' => e = .returned (.tuple #[]) ∧ DOn w' g xs ∧ Fr (fun i => i = g) w w' := by
  rcases h with ⟨st, bl, op, h, hr⟩ | ⟨rfl, st, bl, h, h8, hb, hbb⟩
  · refine (begin_on g st bl op xs.length w hr.len8 hr.len h).mono ?_
    rintro e w' ⟨rfl, rfl⟩
    exact ⟨rfl, ⟨st, bl, op, h, hr⟩, Fr.refl _ _⟩
  · refine (begin_off g st bl 0 0 w h8 hb ht hg h).mono ?_
    rintro e w' ⟨rfl, hd, hf⟩
    exact ⟨rfl, ⟨_, bl, 0, hd, Rep.zero bl hb hbb⟩, hf⟩

theorem slice_from (g op d : Nat) (hd : op + d = 64) (h0 : 0 < d) (W : World) :
    (Instr.sliceAt 40 (.pointer (some ⟨g, 8, none⟩)) (some (.int .i64 op)) none none).run Tryd.prog W = .ok (.slice (some ⟨g, 8 + op, none⟩) d d) W := by
  have hl : Tryd.prog.arrayLen 40 = 64 := by kernel_rfl
  have hs : (sizeOf (Tryd.prog.elem 40)).run Tryd.prog W = .ok 1 W := by kernel_rfl
  have hu : Tryd.prog.underlying 40 = some (.array (Tryd.prog.arrayLen 40) (Tryd.prog.elem 40)) := by kernel_rfl
  rw [run_sliceAt_array_l W _ _ hu .i64 (op : Int) (by omega) (by rw [hl]; omega), hs, hl]
  simp only [Result.andThen_ok, slicedAt, Int.toNat_natCast, Nat.mul_one, add_plain]
  rw [if_neg (by omega), show 64 - op = d from by omega]
theorem slice_all (g : Nat) (W : World) :
    (Instr.sliceAt 40 (.pointer (some ⟨g, 8, none⟩)) none none none).run Tryd.prog W = .ok (.slice (some ⟨g, 8, none⟩) 64 64) W := by
  have hl : Tryd.prog.arrayLen 40 = 64 := by kernel_rfl
  have hs : (sizeOf (Tryd.prog.elem 40)).run Tryd.prog W = .ok 1 W := by kernel_rfl
  have hu : Tryd.prog.underlying 40 = some (.array (Tryd.prog.arrayLen 40) (Tryd.prog.elem 40)) := by kernel_rfl
  rw [run_sliceAt_array_all W _ _ hu, hs, hl]
  simp only [Result.andThen_ok, slicedAt, Nat.zero_mul, Nat.sub_zero, add_plain, Nat.add_zero]
  rw [if_neg (by omega)]
theorem bytes_take {xs : List Int} (h : Bytes xs) (n : Nat) : Bytes (xs.take n) := fun c hc => h c (List.mem_of_mem_take hc)
theorem DBlk.rd {w : World} {g : Nat} {st bl : List Int} {op : Nat} {mn : Int} {bg : Bool} (h : DBlk w g st bl op mn bg) (h8 : st.length = 8) (hb : bl.length = 64) : RdI .u8 w (some ⟨g, 8, none⟩) bl := fun i hi =>
  ⟨_, rfl, Blk.lt h, by rw [add_plain]; exact h.bl_at h8 hb i (by omega)⟩
theorem compress_lit (st bl : List Int) (w : World) (g op : Nat) (mn : Int) (bg : Bool) (s0 s1 s2 s3 s4 s5 s6 s7 v0 v1 v2 v3 v4 v5 v6 v7 : Int) (hs : st = [s0, s1, s2, s3, s4, s5, s6, s7]) (hv : compress st bl = [v0, v1, v2, v3, v4, v5, v6, v7])
    (hU : U st) (h : DBlk w g st bl op mn bg) (hb : bl.length = 64) (hbb : Bytes bl) (ht : Tabs w) :
    Calls Tryd.prog 44 #[.agg #[.int .u32 s0, .int .u32 s1, .int .u32 s2, .int .u32 s3, .int .u32 s4, .int .u32 s5, .int .u32 s6, .int .u32 s7], .slice (some ⟨g, 8, none⟩) 64 64] w
      fun e w' => e = .returned (.agg #[.int .u32 v0, .int .u32 v1, .int .u32 v2, .int .u32 v3, .int .u32 v4, .int .u32 v5, .int .u32 v6, .int .u32 v7]) ∧ DBlk w' g st bl op mn bg ∧ Fr (fun _ => False) w w' := by
  have h8 : st.length = 8 := by rw [hs]; rfl
  refine (compress_calls st bl _ 64 w s0 s1 s2 s3 s4 s5 s6 s7 hs hU (h.rd h8 hb) hbb hb ht.k (by omega)).mono ?_
  rintro e w' ⟨rfl, hf⟩
  rw [hv]
  exact ⟨rfl, h.fr hf id, hf⟩
theorem rd_end {k : IntKind} (w : World) (A : Option Addr) {xs : List Int} (h : xs.length = 0) : RdI k w A xs := fun i hi => by omega
theorem map_ne {A : Option Addr} {g : Nat} (h : ∀ ad, A = some ad → ¬ ad.block = g) (d : Nat) : ∀ ad, (A.map fun x => x.add d) = some ad → ¬ ad.block = g := by
  intro ad hd
  cases A with
  | none => cases hd
  | some a =>
    injection hd with hd
    rw [← hd, block_of_add]
    exact h a rfl
theorem write_nil (A : Option Addr) (n c : Nat) (w : World) :
    Calls Tryd.prog 22 #[.pointer none, .slice A n c] w fun e w' => e = .returned (.tuple #[]) ∧ w = w' := by
  go_enter Tryd.func22, Tryd.ntmps22
  go_wp2
  exact bodyPost_ret (results_none rfl _ _ _) rfl ⟨rfl, rfl⟩

set_option maxRecDepth 100000 in
set_option maxHeartbeats 4000000 in
theorem write_some (g : Nat) (xs ys : List Int) (A : Option Addr) (n c : Nat) (w : World) (ht : Tabs w) (hg1 : ¬ g = 1) (hg2 : ¬ g = 2) (h : DAt w g xs) (hn : ys.length = n) (hr : RdI .u8 w A ys) (hb : Bytes ys) (hA : ∀ ad, A = some ad → ¬ ad.block = g) (hl : xs.length + n ≤ 1000000000) (hc : n ≤ c) :
    Calls Tryd.prog 22 #[.pointer (some ⟨g, 0, none⟩), .slice A n c] w fun e w' => e = .returned (.tuple #[]) ∧ DOn w' g (xs ++ ys) ∧ Fr (fun i => i = g) w w' := by
  have HT := hid ht
  have HD := hid h
  have HR := hid hr
  have HB := hid hb
  have HA := hid hA
  have HN := hid hn
  clear ht h hr hb hA hn
  go_enter Tryd.func22, Tryd.ntmps22
  go_wp2_with fail
  refine (begin_calls g xs w HT.out hg1 HD.out).mono ?_
  rintro e w1 ⟨rfl, ⟨st, bl, op, hd, hrep⟩, hf⟩
  have HF := hid hf
  have HDB := hid hd
  have HRP := hid hrep
  have t1 := (hd.tail hrep.len8 hrep.len).2.1
  have z1 := Blk.frozen hd 73
  clear hd hrep hf
  go_wp2_with fail
  obtain ⟨w2, hw2⟩ : ∃ w2, w1.setCell ⟨g, 73, none⟩ (.int .u64 ((xs.length : Int) + (n : Int))) = w2 := ⟨_, rfl⟩
  have h2 := HDB.out.setMn HRP.out.len8 HRP.out.len ((xs.length : Int) + (n : Int))
  have f2 : Fr (fun i => i = g) w w2 := by rw [← hw2]; exact HF.out.set1 _ _
  rw [hw2] at h2
  have HD2 := hid h2
  have HF2 := hid f2
  try rw [hw2]
  clear h2 f2 t1 z1 HDB HF hw2
  go_loopw [1] (fun v w' => ∃ k A' c', k ≤ n ∧ n - k ≤ c' ∧ v = .slice A' (n - k) c' ∧ RdI .u8 w' A' (ys.drop k) ∧ (∀ ad, A' = some ad → ¬ ad.block = g) ∧ (∃ st bl op, DBlk w' g st bl op ((xs.length : Int) + (n : Int)) true ∧ Rep (xs ++ ys.take k) st bl op) ∧ Fr (fun i => i = g) w w') (fun v _ => match v with | .slice _ m _ => m | _ => 0)
  case atStart =>
    refine ⟨0, A, c, by omega, hc, by simp, ?_, HA.out, ⟨st, bl, op, HD2.out, by simpa using HRP.out⟩, HF2.out⟩
    exact HR.out.fr HF2.out (fun ad ha _ => HA.out ad ha)
  case round =>
    obtain ⟨k, A', c', hk, hc', rfl, hr, ha, ⟨st, bl, op, hd, hrep⟩, hf⟩ := hrel
    have HRd := hid hr
    have HAd := hid ha
    have HDd := hid hd
    have HRep := hid hrep
    have HFd := hid hf
    clear hr ha hd hrep hf
    by_cases hm : k < n
    · obtain ⟨m, hme⟩ : ∃ m, n - k = m := ⟨_, rfl⟩
      have hop := HRep.out.lt
      obtain ⟨q0, q1, q2⟩ := HDd.out.tail HRep.out.len8 HRep.out.len
      have hylen : (ys.drop k).length = m := by rw [List.length_drop, HN.out, hme]
      have HY := hid hylen
      clear q1 q2 hylen
      rw [hme]
      rw [hme] at hc'
      have HME := hid hme
      have hm0 : 0 < m := by omega
      clear hme
      by_cases hfull : 64 - op ≤ m
      · obtain ⟨d, hd⟩ : ∃ d, 64 - op = d := ⟨_, rfl⟩
        have d0 : 0 < d := by omega
        have hmin : min m d = d := by omega
        have HMIN := hid hmin
        clear hmin
        have hsl := slice_from g op d (by omega) d0
        go_wp2_with fail
        go_region_law (refine step_copyB rfl (.tmp 29) (.tmp 30) 31 31 rfl 5 Tryd.underlying31 sizeByte .u8 g (8 + op) d d A' m c' (by simp [Act.eval, Act.put]) (by simp [Act.eval, Act.put]) 42 _ HDd.out _ HRd.out HY.out (by rw [dcells_length HRep.out.len8 HRep.out.len]; omega) ?_; intro w3 hg3 hf3)
        rw [HMIN.out]
        obtain ⟨cs, hcs⟩ : ∃ cs, (ys.drop k).take d = cs := ⟨_, rfl⟩
        rw [hcs] at hg3
        have hcl : cs.length = d := by rw [← hcs, List.length_take, HY.out]; omega
        have hg4 := hg3.out
        rw [splice_dcells HRep.out.len8 HRep.out.len cs (by omega)] at hg4
        have HR4 := HRep.out.full (c := cs) (by omega) (by rw [← hcs]; exact bytes_take (bytes_drop HB.out k) d)
        obtain ⟨bl2, hbl2⟩ : ∃ b, splice bl op cs = b := ⟨_, rfl⟩
        rw [hbl2] at hg4 HR4
        have hb2l : bl2.length = 64 := HR4.len
        have hxs : xs ++ ys.take k ++ cs = xs ++ ys.take (k + d) := by rw [← hcs, List.append_assoc, ← List.take_add]
        rw [hxs] at HR4
        have HF4 := hid (HFd.out.drew.then_ (hf3.out) (fun _ _ h => h))
        have HF40 := hid (((Fr.refl (fun i => i = g) wr).drew).then_ (hf3.out) (fun _ _ h => h))
        obtain ⟨s0, s1, s2, s3, s4, s5, s6, s7, hst⟩ := ShaA.eight HRep.out.len8
        have h72 := (DBlk.tail hg4 HRep.out.len8 hb2l).1
        have z72 := Blk.frozen hg4 72
        have HG4 := hid hg4
        have HR5 := hid HR4
        have HST := hid hst
        have HL2 := hid hb2l
        have hsum : (op : Int) + (d : Int) = 64 := by omega
        clear hg3 hf3 hcs hcl hg4 HR4 hbl2 hb2l hxs hst hsl HDd q0
        have HW4 := hid (DBlk.setOp HG4.out HRep.out.len8 HL2.out 64)
        have HF5 := hid (HF4.out.set1 72 (.int .i64 64))
        obtain ⟨w4, hw4⟩ : ∃ w4, w3.setCell ⟨g, 72, none⟩ (.int .i64 ((64 : Nat) : Int)) = w4 := ⟨_, rfl⟩
        have hw4' : w3.setCell ⟨g, 72, none⟩ (.int .i64 64) = w4 := hw4
        rw [hw4] at HW4
        rw [hw4'] at HF5
        have HF50 := hid (HF40.out.set1 72 (.int .i64 64))
        rw [hw4'] at HF50
        have hw5 := hid hw4'
        clear hw4 hw4'
        go_wp2_with fail
        all_goals
          rw [hw5.out]
          obtain ⟨v0, v1, v2, v3, v4, v5, v6, v7, hv⟩ := ShaA.eight (xs := compress st bl2) (compress_length HRep.out.len8)
          have HV := hid hv
          obtain ⟨d0, d1, d2, d3, d4, d5, d6, d7⟩ := HW4.out.eight HST.out
          have hall := slice_all g
          clear hv h72 z72
          go_region_with ((go_at_call 44; refine (compress_lit st bl2 w4.drew g 64 _ true _ _ _ _ _ _ _ _ v0 v1 v2 v3 v4 v5 v6 v7 HST.out HV.out HRep.out.U HW4.out HL2.out HR5.out.by_ (HT.out.fr HF5.out.drew (fun h => hg1 h.symm) (fun h => hg2 h.symm))).mono ?_; rintro e w6 ⟨rfl, hd6, hf6⟩; obtain ⟨y0, y1, y2, y3, y4, y5, y6, y7⟩ := hd6.eight HST.out; obtain ⟨y72, _, _⟩ := hd6.tail HRep.out.len8 HL2.out; obtain ⟨z0, z1, z2, z3, z4, z5, z6, z7⟩ := froz8 hd6; have z72 := Blk.frozen hd6 72; have HD6 := hid hd6; have HF6 := hid hf6; clear hd6 hf6))
          have HD7 := hid (((DBlk.setSt HD6.out HRep.out.len8 v0 v1 v2 v3 v4 v5 v6 v7).setOp rfl HL2.out 0))
          have HF7 := hid ((((HF5.out.drew.then_ HF6.out (fun _ _ h => h.elim)).then_ (fr8 w6 g (.int .u32 v0) (.int .u32 v1) (.int .u32 v2) (.int .u32 v3) (.int .u32 v4) (.int .u32 v5) (.int .u32 v6) (.int .u32 v7)) (fun _ _ h => h)).set1 72 (.int .i64 0)))
          have HFR := hid ((((HF50.out.drew.then_ HF6.out (fun _ _ h => h.elim)).then_ (fr8 w6 g (.int .u32 v0) (.int .u32 v1) (.int .u32 v2) (.int .u32 v3) (.int .u32 v4) (.int .u32 v5) (.int .u32 v6) (.int .u32 v7)) (fun _ _ h => h)).set1 72 (.int .i64 0)))
          clear d0 d1 d2 d3 d4 d5 d6 d7 y0 y1 y2 y3 y4 y5 y6 y7 y72 z0 z1 z2 z3 z4 z5 z6 z7 z72 hall
          go_roundw
          case measure => simp; omega
          case rel =>
            (repeat apply Exists.intro)
            refine And.intro ?_ ?_
            rotate_left
            · rfl
            first
              | exact ⟨k + d, A', 0, by have := HME.out; omega, by have := HME.out; omega, by rw [show m - d = n - (k + d) by have := HME.out; omega], rd_end _ _ (by rw [List.length_drop, HN.out]; have := HME.out; omega), HAd.out, ⟨_, bl2, 0, HD7.out, by rw [← HV.out]; exact HR5.out⟩, HF7.out⟩
              | (refine ⟨k + d, A'.map fun x => x.add d, c' - d, by have := HME.out; omega, by have := HME.out; omega, by rw [show m - d = n - (k + d) by have := HME.out; omega], ?_, map_ne HAd.out d, ⟨_, bl2, 0, HD7.out, by rw [← HV.out]; exact HR5.out⟩, HF7.out⟩; have hr2 := rd_drop (HRd.out.fr HFR.out (fun ad ha _ => HAd.out ad ha)) d; rw [List.drop_drop] at hr2; exact hr2)
      · obtain ⟨d, hd⟩ : ∃ d, 64 - op = d := ⟨_, rfl⟩
        have d0 : 0 < d := by omega
        have hmin : min m d = m := by omega
        have HMIN := hid hmin
        clear hmin
        have hsl := slice_from g op d (by omega) d0
        go_wp2_with fail
        go_region_law (refine step_copyB rfl (.tmp 29) (.tmp 30) 31 31 rfl 5 Tryd.underlying31 sizeByte .u8 g (8 + op) d d A' m c' (by simp [Act.eval, Act.put]) (by simp [Act.eval, Act.put]) 42 _ HDd.out _ HRd.out HY.out (by rw [dcells_length HRep.out.len8 HRep.out.len]; omega) ?_; intro w3 hg3 hf3)
        rw [HMIN.out]
        obtain ⟨cs, hcs⟩ : ∃ cs, (ys.drop k).take d = cs := ⟨_, rfl⟩
        rw [hcs] at hg3
        have hcl : cs.length = m := by rw [← hcs, List.length_take, HY.out]; omega
        have hg4 := hg3.out
        rw [splice_dcells HRep.out.len8 HRep.out.len cs (by omega)] at hg4
        have HR4 := HRep.out.less (c := cs) (by omega) (by rw [← hcs]; exact bytes_take (bytes_drop HB.out k) d)
        obtain ⟨bl2, hbl2⟩ : ∃ b, splice bl op cs = b := ⟨_, rfl⟩
        rw [hbl2] at hg4 HR4
        have hb2l : bl2.length = 64 := HR4.len
        have hxs : xs ++ ys.take k ++ cs = xs ++ ys.take (k + m) := by rw [← hcs, List.append_assoc, List.take_of_length_le (l := ys.drop k) (by rw [HY.out]; omega), ← List.take_of_length_le (l := ys.drop k) (i := m) (by rw [HY.out]; omega), ← List.take_add]
        rw [hxs, hcl] at HR4
        have HF4 := hid (HFd.out.drew.then_ (hf3.out) (fun _ _ h => h))
        have h72 := (DBlk.tail hg4 HRep.out.len8 hb2l).1
        have z72 := Blk.frozen hg4 72
        have HG4 := hid hg4
        have HR5 := hid HR4
        have HL2 := hid hb2l
        have hne : (((op : Int) + (m : Int)) == 64) = false := by rw [beq_eq_false_iff_ne]; omega
        clear hg3 hf3 hcs hcl hg4 HR4 hbl2 hb2l hxs hsl HDd q0
        go_wp2_with fail
        all_goals
          have HD7 := hid (DBlk.setOp HG4.out HRep.out.len8 HL2.out (op + m))
          have HF7 := hid (HF4.out.set1 72 (.int .i64 ((op : Int) + (m : Int))))
          clear h72 z72
          go_roundw
          case measure => simp; omega
          case rel =>
            exact ⟨k + m, if c' = m then A' else A'.map fun x => x.add m, c' - m, by have := HME.out; omega, by have := HME.out; omega, by rw [show n - (k + m) = 0 by have := HME.out; omega], rd_end _ _ (by rw [List.length_drop, HN.out]; have := HME.out; omega), (by split; exact HAd.out; exact map_ne HAd.out m), ⟨st, bl2, op + m, HD7.out, HR5.out⟩, HF7.out⟩
    · have hkn : k = n := by omega
      rw [show n - k = 0 by omega]
      have HRn := HRep.out
      rw [hkn, List.take_of_length_le (by rw [HN.out]; omega)] at HRn
      have hlen : ((xs.length : Int) + (n : Int)) = ((xs ++ ys).length : Int) := by rw [List.length_append, HN.out]; omega
      have HDn := HDd.out
      rw [hlen] at HDn
      have HDN := hid HDn
      have HRN := hid HRn
      clear HDn HRn hlen
      go_wp2_with fail
      go_end0
      exact ⟨rfl, ⟨st, bl, op, HDN.out, HRN.out⟩, HFd.out⟩
set_option maxHeartbeats 4000000 in
theorem write_zero (g : Nat) (xs : List Int) (A : Option Addr) (c : Nat) (w : World) (ht : Tabs w) (hg1 : ¬ g = 1) (h : DAt w g xs) (hl : xs.length ≤ 1000000000) :
    Calls Tryd.prog 22 #[.pointer (some ⟨g, 0, none⟩), .slice A 0 c] w fun e w' => e = .returned (.tuple #[]) ∧ DOn w' g xs ∧ Fr (fun i => i = g) w w' := by
  have HT := hid ht
  have HD := hid h
  clear ht h
  go_enter Tryd.func22, Tryd.ntmps22
  go_wp2_with fail
  refine (begin_calls g xs w HT.out hg1 HD.out).mono ?_
  rintro e w1 ⟨rfl, ⟨st, bl, op, hd, hrep⟩, hf⟩
  have HF := hid hf
  have HDB := hid hd
  have HRP := hid hrep
  have t1 := (hd.tail hrep.len8 hrep.len).2.1
  have z1 := Blk.frozen hd 73
  have HD2 := hid (hd.setMn hrep.len8 hrep.len (xs.length : Int))
  have HF2 := hid (hf.set1 73 (.int .u64 (xs.length : Int)))
  clear hd hrep hf
  go_wp2_with fail
  go_loopw [1] (fun v w' => v = .slice A 0 c ∧ w' = w1.setCell ⟨g, 73, none⟩ (.int .u64 (xs.length : Int))) (fun v _ => 0)
  case atStart => exact ⟨rfl, rfl⟩
  case round =>
    obtain ⟨rfl, rfl⟩ := hrel
    go_wp2_with fail
    go_end0
    exact ⟨rfl, ⟨st, bl, op, HD2.out, HRP.out⟩, HF2.out⟩
theorem write_calls (g : Nat) (xs ys : List Int) (A : Option Addr) (n c : Nat) (w : World) (ht : Tabs w) (hg1 : ¬ g = 1) (hg2 : ¬ g = 2) (h : DAt w g xs) (hn : ys.length = n) (hr : RdI .u8 w A ys) (hb : Bytes ys) (hA : 0 < n → ∀ ad, A = some ad → ¬ ad.block = g) (hl : xs.length + n ≤ 1000000000) (hc : n ≤ c) :
    Calls Tryd.prog 22 #[.pointer (some ⟨g, 0, none⟩), .slice A n c] w fun e w' => e = .returned (.tuple #[]) ∧ DOn w' g (xs ++ ys) ∧ Fr (fun i => i = g) w w' := by
  rcases Nat.eq_zero_or_pos n with h0 | h0
  · subst h0
    have hy : ys = [] := List.eq_nil_of_length_eq_zero hn
    subst hy
    rw [List.append_nil]
    exact write_zero g xs A c w ht hg1 h (by omega)
  · exact write_some g xs ys A n c w ht hg1 hg2 h hn hr hb (hA h0) hl hc
end Go.Proofs.YtcbogkpgkdijaaaDoor.ShaC
