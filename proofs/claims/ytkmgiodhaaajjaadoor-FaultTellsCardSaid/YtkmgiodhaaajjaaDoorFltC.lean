/- Layer fault: At, Code, Is, Error, Wrap. -/
import Derived.Test.YtkmgiodhaaajjaaDoorFltB
set_option linter.unusedVariables false
set_option linter.unusedSimpArgs false
namespace Go.Proofs.YtkmgiodhaaajjaaDoor.FltC
open Go.IntWalk Go.RowKit Go.Extern.Stop Go.Stop Go.Extern Go.Proofs.YtkmgiodhaaajjaaDoor.Mem Go.Proofs.YtkmgiodhaaajjaaDoor.App Go.Proofs.YtkmgiodhaaajjaaDoor.FltA Go.Proofs.YtkmgiodhaaajjaaDoor.FltB

/-- The variable errorType: the handle of the type error. -/
def ErrT (w : World) : Prop := w.cell? ⟨0, 0, none⟩ = some (.iface 182 (.agg #[.pointer (some ⟨5, 84, none⟩)])) ∧ 0 < w.heap.size
theorem ErrT.fr {S : Nat → Prop} {w w' : World} (h : ErrT w) (hf : Fr S w w') (hS : ¬ S 0) : ErrT w' := ⟨(hf.cell (p := ⟨0, 0, none⟩) h.2 hS).trans h.1, Nat.lt_of_lt_of_le h.2 hf.size⟩

set_option maxRecDepth 100000 in
set_option maxHeartbeats 8000000 in
/-- errors.As at a chain: the fault itself. -/
theorem As_pf {v : Value} {e a : Int} {l : List ByteArray} {n : Nat} (w : World) (t : Addr) (old : Value) (hg : ErrT w) (ht : w.cell? t = some old) (hz : w.frozen? t = false) (hch : Ch w n v e a l) (hn : n ≤ t.block) :
    Calls Tryd.prog 85 #[v, .iface 123 (.pointer (some t))] w fun ev w' => ∃ g, ev = .returned (.bool true) ∧ w'.cell? t = some (.pointer (some ⟨g, 0, none⟩)) ∧ Blk w' g 81 #[.int .i64 e, .int .i64 a] ∧ Fr (fun b => b = t.block) w w' := by
  have htl := World.block_lt_of_cell? w t ht
  obtain ⟨w2, hw2⟩ : ∃ w2, ((w.alloc (.cells #[.pointer (some t)] 123)).alloc (.cells #[.pointer (some ⟨5, 123, none⟩), .pointer (some ⟨w.heap.size, 0, none⟩), .int .u64 150] 153)) = w2 := ⟨_, rfl⟩
  have HF2 := hid (show Fr (fun _ => False) w w2 by rw [← hw2]; exact ((Fr.refl _ w).alloc _).alloc _)
  have HG2 := hid ((hg.fr HF2.out (fun h => h)).1)
  have HP2 := hid (show w2.cell? ⟨w.heap.size, 0, none⟩ = some (.pointer (some t)) by rw [← hw2, World.cell?_alloc_lt _ _ ⟨w.heap.size, 0, none⟩ (by simp)]; simp)
  have HB2 := hid (show Blk w2 (w.heap.size + 1) 153 #[.pointer (some ⟨5, 123, none⟩), .pointer (some ⟨w.heap.size, 0, none⟩), .int .u64 150] by
    rw [← hw2]
    have := Blk.new (w.alloc (.cells #[.pointer (some t)] 123)) 153 #[.pointer (some ⟨5, 123, none⟩), .pointer (some ⟨w.heap.size, 0, none⟩), .int .u64 150]
    rwa [World.size_alloc] at this)
  have HT2 := hid ((HF2.out.cell htl (fun h => h)).trans ht)
  have HZ2 := hid ((HF2.out.frozen htl (fun h => h)).trans hz)
  have hn8 := isNil_ppf ⟨w.heap.size, 0, none⟩ t w2 HP2.out
  have HCALL := hid (as_pf w2 t ⟨w.heap.size, 0, none⟩ old (hch.fr HF2.out (fun _ _ h => h)) hn HP2.out HT2.out HZ2.out)
  obtain ⟨u, g0, rfl, _⟩ := hch.iface
  clear hch hn
  have HW2 := hid hw2
  have h0 := xValueOf
  have h1 := xType
  have h2 := xIsNil
  have h3 := xKind
  have h4 := xElem
  have h5 := xImplements
  have h6 := xTypeOf
  have h7 := xAssign
  have h8 := xElemV
  have h9 := xSet
  have h10 := xComparable
  have h11 := valueOf_ppf
  have h12 := type_ppf
  have h13 := kind_ppf
  have h14 := kind_pf
  have h15 := elem_ppf
  have h16 := implements_pf
  obtain ⟨b0, b1, b2⟩ := blk3 HB2.out
  have hg3 := HG2.out
  clear ht hz hg htl
  go_enter Tryd.func85, Tryd.ntmps85
  rw [← hw2] at hn8 b0 b1 b2 hg3
  clear hw2
  go_wp2_with fail
  rw [HW2.out]
  refine HCALL.out.mono ?_
  rintro ev w3 ⟨g, rfl, h1, h2, h3⟩
  go_wp2_with fail
  go_ret
  exact ⟨g, rfl, h1, h2, (HF2.out.mono (fun _ _ h => h.elim)).trans h3⟩

set_option maxRecDepth 100000 in
set_option maxHeartbeats 8000000 in
/-- errors.As at an error that has a number. -/
theorem As_en {v : Value} {e : Int} {n : Nat} (w : World) (t : Addr) (old : Value) (hg : ErrT w) (ht : w.cell? t = some old) (hz : w.frozen? t = false) (hch : En w n v e) (hn : n ≤ t.block) :
    Calls Tryd.prog 85 #[v, .iface 125 (.pointer (some t))] w fun ev w' => ev = .returned (.bool true) ∧ w'.cell? t = some (.int .i64 e) ∧ Fr (fun b => b = t.block) w w' := by
  have htl := World.block_lt_of_cell? w t ht
  obtain ⟨w2, hw2⟩ : ∃ w2, ((w.alloc (.cells #[.pointer (some t)] 125)).alloc (.cells #[.pointer (some ⟨5, 125, none⟩), .pointer (some ⟨w.heap.size, 0, none⟩), .int .u64 150] 153)) = w2 := ⟨_, rfl⟩
  have HF2 := hid (show Fr (fun _ => False) w w2 by rw [← hw2]; exact ((Fr.refl _ w).alloc _).alloc _)
  have HG2 := hid ((hg.fr HF2.out (fun h => h)).1)
  have HP2 := hid (show w2.cell? ⟨w.heap.size, 0, none⟩ = some (.pointer (some t)) by rw [← hw2, World.cell?_alloc_lt _ _ ⟨w.heap.size, 0, none⟩ (by simp)]; simp)
  have HB2 := hid (show Blk w2 (w.heap.size + 1) 153 #[.pointer (some ⟨5, 125, none⟩), .pointer (some ⟨w.heap.size, 0, none⟩), .int .u64 150] by
    rw [← hw2]
    have := Blk.new (w.alloc (.cells #[.pointer (some t)] 125)) 153 #[.pointer (some ⟨5, 125, none⟩), .pointer (some ⟨w.heap.size, 0, none⟩), .int .u64 150]
    rwa [World.size_alloc] at this)
  have HT2 := hid ((HF2.out.cell htl (fun h => h)).trans ht)
  have HZ2 := hid ((HF2.out.frozen htl (fun h => h)).trans hz)
  have hn8 := isNil_pen ⟨w.heap.size, 0, none⟩ t w2 HP2.out
  have HCALL := hid (as_en w2 t ⟨w.heap.size, 0, none⟩ old (hch.fr HF2.out (fun _ _ h => h)) hn HP2.out HT2.out HZ2.out)
  obtain ⟨u, x, rfl⟩ := hch.iface
  clear hch hn
  have HW2 := hid hw2
  have h0 := xValueOf
  have h1 := xType
  have h2 := xIsNil
  have h3 := xKind
  have h4 := xElem
  have h5 := xImplements
  have h6 := xTypeOf
  have h7 := xAssign
  have h8 := xElemV
  have h9 := xSet
  have h10 := xComparable
  have h11 := valueOf_pen
  have h12 := type_pen
  have h13 := kind_pen
  have h14 := kind_en
  have h15 := elem_pen
  have h16 := implements_en
  obtain ⟨b0, b1, b2⟩ := blk3 HB2.out
  have hg3 := HG2.out
  clear ht hz hg htl
  go_enter Tryd.func85, Tryd.ntmps85
  rw [← hw2] at hn8 b0 b1 b2 hg3
  clear hw2
  go_wp2_with fail
  rw [HW2.out]
  refine HCALL.out.mono ?_
  rintro ev w3 ⟨rfl, h1, h3⟩
  go_wp2_with fail
  go_ret
  exact ⟨rfl, h1, (HF2.out.mono (fun _ _ h => h.elim)).trans h3⟩

set_option maxRecDepth 100000 in
set_option maxHeartbeats 8000000 in
/-- errors.As at a number: no fault. -/
theorem As_pf_en (e : Int) (w : World) (t : Addr) (old : Value) (hg : ErrT w) (ht : w.cell? t = some old) (hz : w.frozen? t = false) :
    Calls Tryd.prog 85 #[.iface 35 (.int .i64 e), .iface 123 (.pointer (some t))] w fun ev w' => ev = .returned (.bool false) ∧ Fr (fun _ => False) w w' := by
  have htl := World.block_lt_of_cell? w t ht
  obtain ⟨w2, hw2⟩ : ∃ w2, ((w.alloc (.cells #[.pointer (some t)] 123)).alloc (.cells #[.pointer (some ⟨5, 123, none⟩), .pointer (some ⟨w.heap.size, 0, none⟩), .int .u64 150] 153)) = w2 := ⟨_, rfl⟩
  have HF2 := hid (show Fr (fun _ => False) w w2 by rw [← hw2]; exact ((Fr.refl _ w).alloc _).alloc _)
  have HG2 := hid ((hg.fr HF2.out (fun h => h)).1)
  have HP2 := hid (show w2.cell? ⟨w.heap.size, 0, none⟩ = some (.pointer (some t)) by rw [← hw2, World.cell?_alloc_lt _ _ ⟨w.heap.size, 0, none⟩ (by simp)]; simp)
  have HB2 := hid (show Blk w2 (w.heap.size + 1) 153 #[.pointer (some ⟨5, 123, none⟩), .pointer (some ⟨w.heap.size, 0, none⟩), .int .u64 150] by
    rw [← hw2]
    have := Blk.new (w.alloc (.cells #[.pointer (some t)] 123)) 153 #[.pointer (some ⟨5, 123, none⟩), .pointer (some ⟨w.heap.size, 0, none⟩), .int .u64 150]
    rwa [World.size_alloc] at this)
  have HT2 := hid ((HF2.out.cell htl (fun h => h)).trans ht)
  have HZ2 := hid ((HF2.out.frozen htl (fun h => h)).trans hz)
  have hn8 := isNil_ppf ⟨w.heap.size, 0, none⟩ t w2 HP2.out
  have HCALL := hid (as_pf_en e w2 t ⟨w.heap.size, 0, none⟩)
  have HW2 := hid hw2
  have h0 := xValueOf
  have h1 := xType
  have h2 := xIsNil
  have h3 := xKind
  have h4 := xElem
  have h5 := xImplements
  have h6 := xTypeOf
  have h7 := xAssign
  have h8 := xElemV
  have h9 := xSet
  have h10 := xComparable
  have h11 := valueOf_ppf
  have h12 := type_ppf
  have h13 := kind_ppf
  have h14 := kind_pf
  have h15 := elem_ppf
  have h16 := implements_pf
  obtain ⟨b0, b1, b2⟩ := blk3 HB2.out
  have hg3 := HG2.out
  clear ht hz hg htl
  go_enter Tryd.func85, Tryd.ntmps85
  rw [← hw2] at hn8 b0 b1 b2 hg3
  clear hw2
  go_wp2_with fail
  rw [HW2.out]
  refine HCALL.out.mono ?_
  rintro ev w3 ⟨rfl, h3⟩
  go_wp2_with fail
  go_ret
  exact ⟨rfl, HF2.out.trans h3⟩

set_option maxRecDepth 100000 in
set_option maxHeartbeats 8000000 in
/-- errors.As at an error of another kind: no number. -/
theorem As_en_ot (x : Value) (w : World) (t : Addr) (old : Value) (hg : ErrT w) (ht : w.cell? t = some old) (hz : w.frozen? t = false) :
    Calls Tryd.prog 85 #[.iface 89 x, .iface 125 (.pointer (some t))] w fun ev w' => ev = .returned (.bool false) ∧ Fr (fun _ => False) w w' := by
  have htl := World.block_lt_of_cell? w t ht
  obtain ⟨w2, hw2⟩ : ∃ w2, ((w.alloc (.cells #[.pointer (some t)] 125)).alloc (.cells #[.pointer (some ⟨5, 125, none⟩), .pointer (some ⟨w.heap.size, 0, none⟩), .int .u64 150] 153)) = w2 := ⟨_, rfl⟩
  have HF2 := hid (show Fr (fun _ => False) w w2 by rw [← hw2]; exact ((Fr.refl _ w).alloc _).alloc _)
  have HG2 := hid ((hg.fr HF2.out (fun h => h)).1)
  have HP2 := hid (show w2.cell? ⟨w.heap.size, 0, none⟩ = some (.pointer (some t)) by rw [← hw2, World.cell?_alloc_lt _ _ ⟨w.heap.size, 0, none⟩ (by simp)]; simp)
  have HB2 := hid (show Blk w2 (w.heap.size + 1) 153 #[.pointer (some ⟨5, 125, none⟩), .pointer (some ⟨w.heap.size, 0, none⟩), .int .u64 150] by
    rw [← hw2]
    have := Blk.new (w.alloc (.cells #[.pointer (some t)] 125)) 153 #[.pointer (some ⟨5, 125, none⟩), .pointer (some ⟨w.heap.size, 0, none⟩), .int .u64 150]
    rwa [World.size_alloc] at this)
  have HT2 := hid ((HF2.out.cell htl (fun h => h)).trans ht)
  have HZ2 := hid ((HF2.out.frozen htl (fun h => h)).trans hz)
  have hn8 := isNil_pen ⟨w.heap.size, 0, none⟩ t w2 HP2.out
  have HCALL := hid (as_en_ot x w2 t ⟨w.heap.size, 0, none⟩)
  have HW2 := hid hw2
  have h0 := xValueOf
  have h1 := xType
  have h2 := xIsNil
  have h3 := xKind
  have h4 := xElem
  have h5 := xImplements
  have h6 := xTypeOf
  have h7 := xAssign
  have h8 := xElemV
  have h9 := xSet
  have h10 := xComparable
  have h11 := valueOf_pen
  have h12 := type_pen
  have h13 := kind_pen
  have h14 := kind_en
  have h15 := elem_pen
  have h16 := implements_en
  obtain ⟨b0, b1, b2⟩ := blk3 HB2.out
  have hg3 := HG2.out
  clear ht hz hg htl
  go_enter Tryd.func85, Tryd.ntmps85
  rw [← hw2] at hn8 b0 b1 b2 hg3
  clear hw2
  go_wp2_with fail
  rw [HW2.out]
  refine HCALL.out.mono ?_
  rintro ev w3 ⟨rfl, h3⟩
  go_wp2_with fail
  go_ret
  exact ⟨rfl, HF2.out.trans h3⟩

set_option maxRecDepth 100000 in
set_option maxHeartbeats 8000000 in
/-- errors.Is at an error that has a number. -/
theorem Is_en {v : Value} {e c : Int} {n : Nat} (w : World) (hch : En w n v e) :
    Calls Tryd.prog 88 #[v, .iface 35 (.int .i64 c)] w fun ev w' => ev = .returned (.bool (decide (e = c))) ∧ w' = w := by
  have HCALL := hid (is_en (c := c) w hch)
  obtain ⟨u, x, rfl⟩ := hch.iface
  clear hch
  have h0 := xTypeOf
  have h1 := xComparable
  have h2 := typeOf_en
  have h3 := comparable_en
  go_enter Tryd.func88, Tryd.ntmps88
  go_wp2_with fail
  refine HCALL.out.mono ?_
  rintro ev w3 ⟨rfl, rfl⟩
  go_wp2_with fail
  go_ret
  exact ⟨rfl, rfl⟩
theorem Is_nil {c : Int} (w : World) : Calls Tryd.prog 88 #[.nilIface, .iface 35 (.int .i64 c)] w fun ev w' => ev = .returned (.bool false) ∧ w' = w := by
  have hq := fun w => run_eql_iface_nil_left (P := Tryd.prog) (w := w) 35 (.int .i64 c) Tryd.underlying84
  go_enter Tryd.func88, Tryd.ntmps88
  go_wp2_with fail
  go_ret
  exact ⟨rfl, rfl⟩

theorem As_nil (t : Value) (w : World) : Calls Tryd.prog 85 #[.nilIface, t] w fun ev w' => ev = .returned (.bool false) ∧ w' = w := by
  go_enter Tryd.func85, Tryd.ntmps85
  go_wp2_with fail
  go_ret
  exact ⟨rfl, rfl⟩
end Go.Proofs.YtkmgiodhaaajjaaDoor.FltC
