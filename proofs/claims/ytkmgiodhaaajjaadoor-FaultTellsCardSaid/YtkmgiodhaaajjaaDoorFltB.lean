/- Layer fault: the walks of errors.As and errors.Is; the layer's own functions. -/
import Derived.Test.YtkmgiodhaaajjaaDoorFltA
set_option linter.unusedVariables false
set_option linter.unusedSimpArgs false
namespace Go.Proofs.YtkmgiodhaaajjaaDoor.FltB
open Go.IntWalk Go.RowKit Go.Extern.Stop Go.Stop Go.Extern Go.Proofs.YtkmgiodhaaajjaaDoor.Mem Go.Proofs.YtkmgiodhaaajjaaDoor.App Go.Proofs.YtkmgiodhaaajjaaDoor.FltA

noncomputable def cmpX : Array Value → Sem Value := ReflectliteType.method fun t => do Rtype.noPackHeld "Comparable" t; pure (.bool (← typeInfo t).comparable)
theorem xValueOf : type_of% (@run_callFunc_extern Tryd.prog 116 _ (fun args => ReflectliteValue.unpack (args.getD 0 (.tuple #[]))) Tryd.func116 (by kernel_rfl) (by kernel_rfl) (by kernel_rfl) (by kernel_rfl)) := @run_callFunc_extern Tryd.prog 116 _ (fun args => ReflectliteValue.unpack (args.getD 0 (.tuple #[]))) Tryd.func116 (by kernel_rfl) (by kernel_rfl) (by kernel_rfl) (by kernel_rfl)
theorem xType : type_of% (@run_callFunc_extern Tryd.prog 117 _ (ReflectliteValue.methodAny (ReflectliteValue.valueError "reflectlite.Value.Type" 0) (fun t _ _ _ => ReflectliteType.toType t)) Tryd.func117 (by kernel_rfl) (by kernel_rfl) (by kernel_rfl) (by kernel_rfl)) := @run_callFunc_extern Tryd.prog 117 _ (ReflectliteValue.methodAny (ReflectliteValue.valueError "reflectlite.Value.Type" 0) (fun t _ _ _ => ReflectliteType.toType t)) Tryd.func117 (by kernel_rfl) (by kernel_rfl) (by kernel_rfl) (by kernel_rfl)
theorem xIsNil : type_of% (@run_callFunc_extern Tryd.prog 118 _ (ReflectliteValue.method (ReflectliteValue.valueError "reflectlite.Value.IsNil" 0) ReflectliteValue.isNil) Tryd.func118 (by kernel_rfl) (by kernel_rfl) (by kernel_rfl) (by kernel_rfl)) := @run_callFunc_extern Tryd.prog 118 _ (ReflectliteValue.method (ReflectliteValue.valueError "reflectlite.Value.IsNil" 0) ReflectliteValue.isNil) Tryd.func118 (by kernel_rfl) (by kernel_rfl) (by kernel_rfl) (by kernel_rfl)
theorem xKind : type_of% (@run_callFunc_extern Tryd.prog 167 _ (ReflectliteType.abiMethod fun t => do pure (.int .u8 (← Rtype.kind t))) Tryd.func167 (by kernel_rfl) (by kernel_rfl) (by kernel_rfl) (by kernel_rfl)) := @run_callFunc_extern Tryd.prog 167 _ (ReflectliteType.abiMethod fun t => do pure (.int .u8 (← Rtype.kind t))) Tryd.func167 (by kernel_rfl) (by kernel_rfl) (by kernel_rfl) (by kernel_rfl)
theorem xElem : type_of% (@run_callFunc_extern Tryd.prog 180 _ (ReflectliteType.method ReflectliteType.elem) Tryd.func180 (by kernel_rfl) (by kernel_rfl) (by kernel_rfl) (by kernel_rfl)) := @run_callFunc_extern Tryd.prog 180 _ (ReflectliteType.method ReflectliteType.elem) Tryd.func180 (by kernel_rfl) (by kernel_rfl) (by kernel_rfl) (by kernel_rfl)
theorem xImplements : type_of% (@run_callFunc_extern Tryd.prog 181 _ (ReflectliteType.relation "Implements" ReflectliteType.implements_) Tryd.func181 (by kernel_rfl) (by kernel_rfl) (by kernel_rfl) (by kernel_rfl)) := @run_callFunc_extern Tryd.prog 181 _ (ReflectliteType.relation "Implements" ReflectliteType.implements_) Tryd.func181 (by kernel_rfl) (by kernel_rfl) (by kernel_rfl) (by kernel_rfl)
theorem xTypeOf : type_of% (@run_callFunc_extern Tryd.prog 121 _ ReflectliteType.typeOf Tryd.func121 (by kernel_rfl) (by kernel_rfl) (by kernel_rfl) (by kernel_rfl)) := @run_callFunc_extern Tryd.prog 121 _ ReflectliteType.typeOf Tryd.func121 (by kernel_rfl) (by kernel_rfl) (by kernel_rfl) (by kernel_rfl)
theorem xAssign : type_of% (@run_callFunc_extern Tryd.prog 178 _ (ReflectliteType.relation "AssignableTo" ReflectliteType.assignableTo) Tryd.func178 (by kernel_rfl) (by kernel_rfl) (by kernel_rfl) (by kernel_rfl)) := @run_callFunc_extern Tryd.prog 178 _ (ReflectliteType.relation "AssignableTo" ReflectliteType.assignableTo) Tryd.func178 (by kernel_rfl) (by kernel_rfl) (by kernel_rfl) (by kernel_rfl)
theorem xElemV : type_of% (@run_callFunc_extern Tryd.prog 134 _ (ReflectliteValue.method (ReflectliteValue.valueError "reflectlite.Value.Elem" 0) ReflectliteValue.elem) Tryd.func134 (by kernel_rfl) (by kernel_rfl) (by kernel_rfl) (by kernel_rfl)) := @run_callFunc_extern Tryd.prog 134 _ (ReflectliteValue.method (ReflectliteValue.valueError "reflectlite.Value.Elem" 0) ReflectliteValue.elem) Tryd.func134 (by kernel_rfl) (by kernel_rfl) (by kernel_rfl) (by kernel_rfl)
theorem xSet : type_of% (@run_callFunc_extern Tryd.prog 135 _ ReflectliteValue.set Tryd.func135 (by kernel_rfl) (by kernel_rfl) (by kernel_rfl) (by kernel_rfl)) := @run_callFunc_extern Tryd.prog 135 _ ReflectliteValue.set Tryd.func135 (by kernel_rfl) (by kernel_rfl) (by kernel_rfl) (by kernel_rfl)
theorem xComparable : type_of% (@run_callFunc_extern Tryd.prog 179 _ cmpX Tryd.func179 (by kernel_rfl) (by kernel_rfl) (by kernel_rfl) (by kernel_rfl)) := @run_callFunc_extern Tryd.prog 179 _ cmpX Tryd.func179 (by kernel_rfl) (by kernel_rfl) (by kernel_rfl) (by kernel_rfl)

theorem comparable_en (w : World) : (cmpX #[.agg #[.pointer (some ⟨5, 35, none⟩)]]).run Tryd.prog w = .ok (.bool true) w := by kernel_rfl
theorem blk2 {w : World} {g : Nat} {t : TypeId} {v0 v1 : Value} (h : Blk w g t #[v0, v1]) : w.cell? ⟨g, 0, none⟩ = some v0 ∧ w.cell? ⟨g, 1, none⟩ = some v1 := by
  have e0 := h.cell 0
  have e1 := h.cell 1
  simp at e0 e1
  exact ⟨e0, e1⟩
theorem blk3 {w : World} {g : Nat} {t : TypeId} {v0 v1 v2 : Value} (h : Blk w g t #[v0, v1, v2]) : w.cell? ⟨g, 0, none⟩ = some v0 ∧ w.cell? ⟨g, 1, none⟩ = some v1 ∧ w.cell? ⟨g, 2, none⟩ = some v2 := by
  have e0 := h.cell 0
  have e1 := h.cell 1
  have e2 := h.cell 2
  simp at e0 e1 e2
  exact ⟨e0, e1, e2⟩
theorem unwrapF_calls (g : Nat) (e a : Int) (w : World) (h : Blk w g 81 #[.int .i64 e, .int .i64 a]) : Calls Tryd.prog 55 #[.pointer (some ⟨g, 0, none⟩)] w fun ev w' => ev = .returned (.iface 35 (.int .i64 e)) ∧ w' = w := by
  obtain ⟨c0, c1⟩ := blk2 h
  go_enter Tryd.func55, Tryd.ntmps55
  go_wp2_with fail
  go_ret
  exact ⟨rfl, rfl⟩
theorem unwrapN_calls (w : World) : Calls Tryd.prog 55 #[.pointer none] w fun ev w' => ev = .returned .nilIface ∧ w' = w := by
  go_enter Tryd.func55, Tryd.ntmps55
  go_wp2_with fail
  go_ret
  exact ⟨rfl, rfl⟩
theorem unwrapW_calls (g : Nat) (s : ByteArray) (E : Value) (w : World) (h : Blk w g 129 #[.string s, E]) : Calls Tryd.prog 172 #[.pointer (some ⟨g, 0, none⟩)] w fun ev w' => ev = .returned E ∧ w' = w := by
  obtain ⟨c0, c1⟩ := blk2 h
  go_enter Tryd.func172, Tryd.ntmps172
  go_wp2_with fail
  go_ret
  exact ⟨rfl, rfl⟩

set_option maxRecDepth 100000 in
set_option maxHeartbeats 8000000 in
/-- errors.as at a chain: the fault itself. -/
theorem as_pf {v : Value} {e a : Int} {l : List ByteArray} {n : Nat} (w : World) (t p : Addr) (old : Value) (hch : Ch w n v e a l) (hn : n ≤ t.block) (hp : w.cell? p = some (.pointer (some t))) (ht : w.cell? t = some old) (hz : w.frozen? t = false) :
    Calls Tryd.prog 119 #[v, .iface 123 (.pointer (some t)), .agg #[.pointer (some ⟨5, 123, none⟩), .pointer (some p), .int .u64 150], .iface 182 (.agg #[.pointer (some ⟨5, 76, none⟩)])] w fun ev w' => ∃ g, ev = .returned (.bool true) ∧ w'.cell? t = some (.pointer (some ⟨g, 0, none⟩)) ∧ Blk w' g 81 #[.int .i64 e, .int .i64 a] ∧ Fr (fun b => b = t.block) w w' := by
  obtain ⟨w1, hw1⟩ : ∃ w1, w.alloc (.cells #[.pointer (some ⟨5, 123, none⟩), .pointer (some p), .int .u64 150] 153) = w1 := ⟨_, rfl⟩
  have HF1 := hid (show Fr (fun _ => False) w w1 by rw [← hw1]; exact (Fr.refl _ w).alloc _)
  have HBX := hid (show Blk w1 w.heap.size 153 #[.pointer (some ⟨5, 123, none⟩), .pointer (some p), .int .u64 150] by rw [← hw1]; exact Blk.new _ _ _)
  have HW1 := hid hw1
  have HCH := hid (hch.fr HF1.out (fun _ _ h => h))
  have htl := World.block_lt_of_cell? w t ht
  have hpl := World.block_lt_of_cell? w p hp
  have HP := hid ((HF1.out.cell hpl (fun h => h)).trans hp)
  have HT := hid ((HF1.out.cell htl (fun h => h)).trans ht)
  have HZ := hid ((HF1.out.frozen htl (fun h => h)).trans hz)
  have HTN := hid hn
  have HTL := hid htl
  have h0 := xValueOf
  have h1 := xType
  have h2 := xIsNil
  have h3 := xKind
  have h4 := xElem
  have h5 := xImplements
  have h6 := xTypeOf
  have h7 := xAssign
  have h8 := xElemV
  have h9 := xSet
  have h10 := xComparable
  have h11 := typeOf_pf
  have h12 := typeOf_pw
  have h13 := typeOf_ot
  have h14 := typeOf_en
  have h15 := assign_pf_pf
  have h16 := assign_pw_pf
  have h17 := assign_ot_pf
  have h18 := assign_en_pf
  have h19 := noAs_pf
  have h20 := noAs_pw
  have h21 := noAs_ot
  have h22 := noAs_en
  have h23 := noUs_ot
  have h24 := noUs_en
  have h25 := hasU_pf
  have h26 := hasU_pw
  have h27 := noU_ot
  have h28 := noU_en
  have h29 := valueOf_pf
  clear hw1 hp ht hz hn hch
  go_enter Tryd.func119, Tryd.ntmps119
  go_wp2_with fail
  rw [HW1.out]
  go_loopw [0] (fun v0 wr => wr = w1 ∧ ∃ l', Ch w1 n v0 e a l') (fun v0 _ => ms v0)
  case atStart => exact ⟨rfl, l, HCH.out⟩
  case round =>
    obtain ⟨rfl, l', hc'⟩ := hrel
    obtain ⟨b0, b1, b2⟩ := blk3 HBX.out
    cases hc' with
    | leaf g e a hg hb =>
      have HB := hid hb
      have hel := elemV_ppf p t wr HP.out
      have hst := set_pf t ⟨wr.heap.size, 0, none⟩ ⟨g, 0, none⟩ old (wr.alloc (.cells #[.pointer (some ⟨g, 0, none⟩)] 76)) (by simp) (by rw [World.cell?_alloc_lt _ _ t (Nat.lt_of_lt_of_le HTL.out HF1.out.size)]; exact HT.out) (by rw [World.frozen?_alloc_old _ _ t (Nat.ne_of_lt (Nat.lt_of_lt_of_le HTL.out HF1.out.size))]; exact HZ.out)
      clear hb
      go_wp2_with fail
      go_ret
      have htw : t.block < wr.heap.size := Nat.lt_of_lt_of_le HTL.out HF1.out.size
      have hgt : ¬ g = t.block := by have := HTN.out; omega
      have hfa : Fr (fun b => b = t.block) wr ((wr.alloc (.cells #[.pointer (some ⟨g, 0, none⟩)] 76)).setCell t (.pointer (some ⟨g, 0, none⟩))) := Fr.setCell (S := fun b => b = t.block) ((Fr.refl _ wr).alloc _) (.inl rfl) _
      exact ⟨g, rfl, World.cell?_setCell_same _ _ _ (by rw [World.cell?_alloc_lt _ _ t htw]; exact HT.out), HB.out.fr hfa hgt, (HF1.out.mono (fun _ _ h => h.elim)).trans hfa⟩
    | wrap g s E e a l hg hb hm hc =>
      have HB := hid hb
      have HC := hid hc
      have HM := hid hm
      obtain ⟨u, g2, rfl, _⟩ := hc.iface
      clear hb hc hm
      go_wp2_with (first
        | (go_at_call 172; refine (unwrapW_calls g s _ wr HB.out).mono ?_; rintro e' w' ⟨rfl, rfl⟩))
      go_roundw
      case rel => exact ⟨trivial, l, HC.out⟩
      case measure => exact HM.out

/-- An error that has a number: that number itself, or a fault with texts ahead of it. -/
def En (W : World) (n : Nat) (v : Value) (e : Int) : Prop := v = .iface 35 (.int .i64 e) ∨ ∃ a l, Ch W n v e a l
theorem En.fr {W W' : World} {n : Nat} {S : Nat → Prop} {v : Value} {e : Int} (h : En W n v e) (hf : Fr S W W') (hS : ∀ b, b < n → ¬ S b) : En W' n v e := by
  rcases h with rfl | ⟨a, l, h⟩
  · exact .inl rfl
  · exact .inr ⟨a, l, h.fr hf hS⟩
theorem En.iface {W : World} {n : Nat} {v : Value} {e : Int} (h : En W n v e) : ∃ u x, v = .iface u x := by
  rcases h with rfl | ⟨a, l, h⟩
  · exact ⟨_, _, rfl⟩
  · obtain ⟨u, g, rfl, _⟩ := h.iface
    exact ⟨_, _, rfl⟩

set_option maxRecDepth 100000 in
set_option maxHeartbeats 8000000 in
/-- errors.as at an error that has a number. -/
theorem as_en {v : Value} {e : Int} {n : Nat} (w : World) (t p : Addr) (old : Value) (hch : En w n v e) (hn : n ≤ t.block) (hp : w.cell? p = some (.pointer (some t))) (ht : w.cell? t = some old) (hz : w.frozen? t = false) :
    Calls Tryd.prog 119 #[v, .iface 125 (.pointer (some t)), .agg #[.pointer (some ⟨5, 125, none⟩), .pointer (some p), .int .u64 150], .iface 182 (.agg #[.pointer (some ⟨5, 35, none⟩)])] w fun ev w' => ev = .returned (.bool true) ∧ w'.cell? t = some (.int .i64 e) ∧ Fr (fun b => b = t.block) w w' := by
  obtain ⟨w1, hw1⟩ : ∃ w1, w.alloc (.cells #[.pointer (some ⟨5, 125, none⟩), .pointer (some p), .int .u64 150] 153) = w1 := ⟨_, rfl⟩
  have HF1 := hid (show Fr (fun _ => False) w w1 by rw [← hw1]; exact (Fr.refl _ w).alloc _)
  have HBX := hid (show Blk w1 w.heap.size 153 #[.pointer (some ⟨5, 125, none⟩), .pointer (some p), .int .u64 150] by rw [← hw1]; exact Blk.new _ _ _)
  have HW1 := hid hw1
  have HCH := hid (hch.fr HF1.out (fun _ _ h => h))
  have htl := World.block_lt_of_cell? w t ht
  have hpl := World.block_lt_of_cell? w p hp
  have HP := hid ((HF1.out.cell hpl (fun h => h)).trans hp)
  have HT := hid ((HF1.out.cell htl (fun h => h)).trans ht)
  have HZ := hid ((HF1.out.frozen htl (fun h => h)).trans hz)
  have HTL := hid htl
  have h0 := xValueOf
  have h1 := xType
  have h2 := xIsNil
  have h3 := xKind
  have h4 := xElem
  have h5 := xImplements
  have h6 := xTypeOf
  have h7 := xAssign
  have h8 := xElemV
  have h9 := xSet
  have h10 := xComparable
  have h11 := typeOf_pf
  have h12 := typeOf_pw
  have h13 := typeOf_ot
  have h14 := typeOf_en
  have h15 := assign_pf_en
  have h16 := assign_pw_en
  have h17 := assign_ot_en
  have h18 := assign_en_en
  have h19 := noAs_pf
  have h20 := noAs_pw
  have h21 := noAs_ot
  have h22 := noAs_en
  have h23 := noUs_ot
  have h24 := noUs_en
  have h25 := hasU_pf
  have h26 := hasU_pw
  have h27 := noU_ot
  have h28 := noU_en
  have h29 := valueOf_en
  clear hw1 hp ht hz hch
  go_enter Tryd.func119, Tryd.ntmps119
  go_wp2_with fail
  rw [HW1.out]
  go_loopw [0] (fun v0 wr => wr = w1 ∧ En w1 n v0 e) (fun v0 _ => ms v0)
  case atStart => exact ⟨rfl, HCH.out⟩
  case round =>
    obtain ⟨rfl, hc'⟩ := hrel
    obtain ⟨b0, b1, b2⟩ := blk3 HBX.out
    rcases hc' with rfl | ⟨a, l, hc'⟩
    · have hel := elemV_pen p t wr HP.out
      have hst := set_en t ⟨wr.heap.size, 0, none⟩ e old (wr.alloc (.cells #[.int .i64 e] 35)) (by simp) (by rw [World.cell?_alloc_lt _ _ t (Nat.lt_of_lt_of_le HTL.out HF1.out.size)]; exact HT.out) (by rw [World.frozen?_alloc_old _ _ t (Nat.ne_of_lt (Nat.lt_of_lt_of_le HTL.out HF1.out.size))]; exact HZ.out)
      go_wp2_with fail
      go_ret
      have htw : t.block < wr.heap.size := Nat.lt_of_lt_of_le HTL.out HF1.out.size
      have hfa : Fr (fun b => b = t.block) wr ((wr.alloc (.cells #[.int .i64 e] 35)).setCell t (.int .i64 e)) := Fr.setCell (S := fun b => b = t.block) ((Fr.refl _ wr).alloc _) (.inl rfl) _
      exact ⟨rfl, World.cell?_setCell_same _ _ _ (by rw [World.cell?_alloc_lt _ _ t htw]; exact HT.out), (HF1.out.mono (fun _ _ h => h.elim)).trans hfa⟩
    · cases hc' with
      | leaf g e a hg hb =>
        have HB := hid hb
        clear hb
        go_wp2_with (first
          | (go_at_call 55; refine (unwrapF_calls g e a wr HB.out).mono ?_; rintro e' w' ⟨rfl, rfl⟩))
        go_roundw
        case rel => exact ⟨trivial, .inl rfl⟩
        case measure => exact Nat.succ_pos _
      | wrap g s E e a l hg hb hm hc =>
        have HB := hid hb
        have HC := hid hc
        have HM := hid hm
        obtain ⟨u, g2, rfl, _⟩ := hc.iface
        clear hb hc hm
        go_wp2_with (first
          | (go_at_call 172; refine (unwrapW_calls g s _ wr HB.out).mono ?_; rintro e' w' ⟨rfl, rfl⟩))
        go_roundw
        case rel => exact ⟨trivial, .inr ⟨a, l, HC.out⟩⟩
        case measure => exact HM.out

set_option maxRecDepth 100000 in
set_option maxHeartbeats 8000000 in
/-- errors.as at a number, the target a fault. -/
theorem as_pf_en (e : Int) (w : World) (t p : Addr) :
    Calls Tryd.prog 119 #[.iface 35 (.int .i64 e), .iface 123 (.pointer (some t)), .agg #[.pointer (some ⟨5, 123, none⟩), .pointer (some p), .int .u64 150], .iface 182 (.agg #[.pointer (some ⟨5, 76, none⟩)])] w fun ev w' => ev = .returned (.bool false) ∧ Fr (fun _ => False) w w' := by
  obtain ⟨w1, hw1⟩ : ∃ w1, w.alloc (.cells #[.pointer (some ⟨5, 123, none⟩), .pointer (some p), .int .u64 150] 153) = w1 := ⟨_, rfl⟩
  have HF1 := hid (show Fr (fun _ => False) w w1 by rw [← hw1]; exact (Fr.refl _ w).alloc _)
  have HBX := hid (show Blk w1 w.heap.size 153 #[.pointer (some ⟨5, 123, none⟩), .pointer (some p), .int .u64 150] by rw [← hw1]; exact Blk.new _ _ _)
  have HW1 := hid hw1

  have h0 := xValueOf
  have h1 := xType
  have h2 := xIsNil
  have h3 := xKind
  have h4 := xElem
  have h5 := xImplements
  have h6 := xTypeOf
  have h7 := xAssign
  have h8 := xElemV
  have h9 := xSet
  have h10 := xComparable
  have h11 := typeOf_pf
  have h12 := typeOf_pw
  have h13 := typeOf_ot
  have h14 := typeOf_en
  have h15 := assign_pf_pf
  have h16 := assign_pw_pf
  have h17 := assign_ot_pf
  have h18 := assign_en_pf
  have h19 := noAs_pf
  have h20 := noAs_pw
  have h21 := noAs_ot
  have h22 := noAs_en
  have h23 := noUs_ot
  have h24 := noUs_en
  have h25 := hasU_pf
  have h26 := hasU_pw
  have h27 := noU_ot
  have h28 := noU_en
  have h29 := valueOf_pf
  clear hw1
  go_enter Tryd.func119, Tryd.ntmps119
  go_wp2_with fail
  rw [HW1.out]
  refine wp_loop_rounds 1 ?_
  rw [rounds_succ]
  go_wp2_with fail
  go_ret
  exact ⟨rfl, HF1.out⟩
set_option maxRecDepth 100000 in
set_option maxHeartbeats 8000000 in
/-- errors.as at an error of another kind, the target a number. -/
theorem as_en_ot (x : Value) (w : World) (t p : Addr) :
    Calls Tryd.prog 119 #[.iface 89 x, .iface 125 (.pointer (some t)), .agg #[.pointer (some ⟨5, 125, none⟩), .pointer (some p), .int .u64 150], .iface 182 (.agg #[.pointer (some ⟨5, 35, none⟩)])] w fun ev w' => ev = .returned (.bool false) ∧ Fr (fun _ => False) w w' := by
  obtain ⟨w1, hw1⟩ : ∃ w1, w.alloc (.cells #[.pointer (some ⟨5, 125, none⟩), .pointer (some p), .int .u64 150] 153) = w1 := ⟨_, rfl⟩
  have HF1 := hid (show Fr (fun _ => False) w w1 by rw [← hw1]; exact (Fr.refl _ w).alloc _)
  have HBX := hid (show Blk w1 w.heap.size 153 #[.pointer (some ⟨5, 125, none⟩), .pointer (some p), .int .u64 150] by rw [← hw1]; exact Blk.new _ _ _)
  have HW1 := hid hw1

  have h0 := xValueOf
  have h1 := xType
  have h2 := xIsNil
  have h3 := xKind
  have h4 := xElem
  have h5 := xImplements
  have h6 := xTypeOf
  have h7 := xAssign
  have h8 := xElemV
  have h9 := xSet
  have h10 := xComparable
  have h11 := typeOf_pf
  have h12 := typeOf_pw
  have h13 := typeOf_ot
  have h14 := typeOf_en
  have h15 := assign_pf_en
  have h16 := assign_pw_en
  have h17 := assign_ot_en
  have h18 := assign_en_en
  have h19 := noAs_pf
  have h20 := noAs_pw
  have h21 := noAs_ot
  have h22 := noAs_en
  have h23 := noUs_ot
  have h24 := noUs_en
  have h25 := hasU_pf
  have h26 := hasU_pw
  have h27 := noU_ot
  have h28 := noU_en
  have h29 := valueOf_en
  clear hw1
  go_enter Tryd.func119, Tryd.ntmps119
  go_wp2_with fail
  rw [HW1.out]
  refine wp_loop_rounds 1 ?_
  rw [rounds_succ]
  go_wp2_with fail
  go_ret
  exact ⟨rfl, HF1.out⟩
set_option maxRecDepth 100000 in
set_option maxHeartbeats 8000000 in
/-- errors.is at an error that has a number. -/
theorem is_en {v : Value} {e c : Int} {n : Nat} (w : World) (hch : En w n v e) :
    Calls Tryd.prog 122 #[v, .iface 35 (.int .i64 c), .bool true] w fun ev w' => ev = .returned (.bool (decide (e = c))) ∧ w' = w := by
  have HCH := hid hch
  have heq := fun w => Go.Lib.run_eql_iface_int (P := Tryd.prog) (k := .i64) w e c Tryd.underlying84 (by kernel_rfl) Tryd.underlying35
  have ht1 := fun p w => run_eql_iface_types (P := Tryd.prog) 76 35 p (.int .i64 c) Tryd.underlying84 (by decide) w
  have ht2 := fun p w => run_eql_iface_types (P := Tryd.prog) 127 35 p (.int .i64 c) Tryd.underlying84 (by decide) w
  obtain ⟨b, hb⟩ : ∃ b, (e == c) = b := ⟨_, rfl⟩
  have hbd : decide (e = c) = b := by rw [← hb]; rfl
  rw [hb] at heq
  rw [hbd]
  have h0 := xValueOf
  have h1 := xType
  have h2 := xIsNil
  have h3 := xKind
  have h4 := xElem
  have h5 := xImplements
  have h6 := xTypeOf
  have h7 := xAssign
  have h8 := xElemV
  have h9 := xSet
  have h10 := xComparable
  have h11 := typeOf_en
  have h12 := noIs_pf
  have h13 := noIs_pw
  have h14 := noIs_ot
  have h15 := noIs_en
  have h16 := noUs_ot
  have h17 := noUs_en
  have h18 := hasU_pf
  have h19 := hasU_pw
  have h20 := noU_ot
  have h21 := noU_en
  clear hch
  go_enter Tryd.func122, Tryd.ntmps122
  go_wp2_with fail
  go_loopw [0] (fun v0 wr => wr = w ∧ En w n v0 e) (fun v0 _ => ms v0)
  case atStart => exact ⟨rfl, HCH.out⟩
  case round =>
    obtain ⟨rfl, hc'⟩ := hrel
    rcases hc' with rfl | ⟨a, l, hc'⟩
    · clear hb hbd
      cases b
      all_goals
        go_wp2_with fail
        go_ret
        exact ⟨rfl, rfl⟩
    · cases hc' with
      | leaf g e a hg hb =>
        have HB := hid hb
        clear hb
        go_wp2_with (first
          | (go_at_call 55; refine (unwrapF_calls g e a wr HB.out).mono ?_; rintro e' w' ⟨rfl, rfl⟩))
        go_roundw
        case rel => exact ⟨trivial, .inl rfl⟩
        case measure => exact Nat.succ_pos _
      | wrap g s E e a l hg hb hm hc =>
        have HB := hid hb
        have HC := hid hc
        have HM := hid hm
        obtain ⟨u, g2, rfl, _⟩ := hc.iface
        clear hb hc hm
        go_wp2_with (first
          | (go_at_call 172; refine (unwrapW_calls g s _ wr HB.out).mono ?_; rintro e' w' ⟨rfl, rfl⟩))
        go_roundw
        case rel => exact ⟨trivial, .inr ⟨a, l, HC.out⟩⟩
        case measure => exact HM.out
end Go.Proofs.YtkmgiodhaaajjaaDoor.FltB
