/- Layer fault: errors.As, errors.Is over an error's chain: a number; a fault; texts ahead of it; an error of another kind. -/
import Derived.Test.YtkmgiodhaaajjaaDoorProg
import Derived.Test.YtkmgiodhaaajjaaDoorApp
import Derived.WalkKit
import Derived.LaidEql
import Derived.Stop.Asserts
import Derived.RowKitTokens
import Derived.Lib.IfaceEq
import Derived.Handy
set_option linter.unusedVariables false
set_option linter.unusedSimpArgs false
namespace Go.Proofs.YtkmgiodhaaajjaaDoor.FltA
open Go.IntWalk Go.RowKit Go.Extern.Stop Go.Stop Go.Extern Go.Proofs.YtkmgiodhaaajjaaDoor.Mem Go.Proofs.YtkmgiodhaaajjaaDoor.App

/-- The block that a value points to, and one more. -/
def ms : Value → Nat
  | .iface _ (.pointer (some p)) => p.block + 1
  | _ => 0
/-- An error's chain: a fault's number and place, and the texts ahead of it; all its blocks lie below n. -/
inductive Ch (W : World) (n : Nat) : Value → Int → Int → List ByteArray → Prop
  | leaf (g : Nat) (e at_ : Int) : g < n → Blk W g 81 #[.int .i64 e, .int .i64 at_] → Ch W n (.iface 76 (.pointer (some ⟨g, 0, none⟩))) e at_ []
  | wrap (g : Nat) (s : ByteArray) (E : Value) (e at_ : Int) (l : List ByteArray) : g < n → Blk W g 129 #[.string s, E] → ms E < g + 1 → Ch W n E e at_ l → Ch W n (.iface 127 (.pointer (some ⟨g, 0, none⟩))) e at_ (s :: l)
theorem Ch.fr {W W' : World} {n : Nat} {S : Nat → Prop} {v : Value} {e a : Int} {l : List ByteArray} (h : Ch W n v e a l) (hf : Fr S W W') (hS : ∀ b, b < n → ¬ S b) : Ch W' n v e a l := by
  induction h with
  | leaf g e a hg hb => exact .leaf g e a hg (hb.fr hf (hS g hg))
  | wrap g s E e a l hg hb hm _ ih => exact .wrap g s E e a l hg (hb.fr hf (hS g hg)) hm ih
theorem Ch.wide {W : World} {n m : Nat} {v : Value} {e a : Int} {l : List ByteArray} (h : Ch W n v e a l) (hm : n ≤ m) : Ch W m v e a l := by
  induction h with
  | leaf g e a hg hb => exact .leaf g e a (by omega) hb
  | wrap g s E e a l hg hb hm2 _ ih => exact .wrap g s E e a l (by omega) hb hm2 ih
theorem Ch.iface {W : World} {n : Nat} {v : Value} {e a : Int} {l : List ByteArray} (h : Ch W n v e a l) : ∃ u g, v = .iface u (.pointer (some ⟨g, 0, none⟩)) ∧ g < n := by
  cases h with
  | leaf g e a hg hb => exact ⟨_, g, rfl, hg⟩
  | wrap g s E e a l hg hb hm _ => exact ⟨_, g, rfl, hg⟩

/-! Closed facts: types. -/
theorem typeOf_pf (v : Value) (w : World) : (ReflectliteType.typeOf #[.iface 76 v]).run Tryd.prog w = .ok (.iface 182 (.agg #[.pointer (some ⟨5, 76, none⟩)])) w := by kernel_rfl
theorem assign_pf_pf (w : World) : (ReflectliteType.relation "AssignableTo" ReflectliteType.assignableTo #[.agg #[.pointer (some ⟨5, 76, none⟩)], .iface 182 (.agg #[.pointer (some ⟨5, 76, none⟩)])]).run Tryd.prog w = .ok (.bool true) w := by kernel_rfl
theorem assign_pf_en (w : World) : (ReflectliteType.relation "AssignableTo" ReflectliteType.assignableTo #[.agg #[.pointer (some ⟨5, 76, none⟩)], .iface 182 (.agg #[.pointer (some ⟨5, 35, none⟩)])]).run Tryd.prog w = .ok (.bool false) w := by kernel_rfl
theorem noAs_pf (v : Value) (xT : TypeId) (w : World) : (Instr.typeAssert (.iface 76 v) xT 186 true).run Tryd.prog w = .ok (.tuple #[.nilIface, .bool false]) w := run_typeAssert_lacksB Tryd.underlying186 (by kernel_rfl) (by kernel_rfl) v xT w
theorem noIs_pf (v : Value) (xT : TypeId) (w : World) : (Instr.typeAssert (.iface 76 v) xT 194 true).run Tryd.prog w = .ok (.tuple #[.nilIface, .bool false]) w := run_typeAssert_lacksB Tryd.underlying194 (by kernel_rfl) (by kernel_rfl) v xT w
theorem noUs_pf (v : Value) (xT : TypeId) (w : World) : (Instr.typeAssert (.iface 76 v) xT 190 true).run Tryd.prog w = .ok (.tuple #[.nilIface, .bool false]) w := run_typeAssert_lacksB Tryd.underlying190 (by kernel_rfl) (by kernel_rfl) v xT w
theorem hasU_pf (v : Value) (xT : TypeId) (w : World) : (Instr.typeAssert (.iface 76 v) xT 189 true).run Tryd.prog w = .ok (.tuple #[.iface 76 v, .bool true]) w := run_typeAssert_hasB Tryd.underlying189 (by kernel_rfl) v xT w
theorem typeOf_pw (v : Value) (w : World) : (ReflectliteType.typeOf #[.iface 127 v]).run Tryd.prog w = .ok (.iface 182 (.agg #[.pointer (some ⟨5, 127, none⟩)])) w := by kernel_rfl
theorem assign_pw_pf (w : World) : (ReflectliteType.relation "AssignableTo" ReflectliteType.assignableTo #[.agg #[.pointer (some ⟨5, 127, none⟩)], .iface 182 (.agg #[.pointer (some ⟨5, 76, none⟩)])]).run Tryd.prog w = .ok (.bool false) w := by kernel_rfl
theorem assign_pw_en (w : World) : (ReflectliteType.relation "AssignableTo" ReflectliteType.assignableTo #[.agg #[.pointer (some ⟨5, 127, none⟩)], .iface 182 (.agg #[.pointer (some ⟨5, 35, none⟩)])]).run Tryd.prog w = .ok (.bool false) w := by kernel_rfl
theorem noAs_pw (v : Value) (xT : TypeId) (w : World) : (Instr.typeAssert (.iface 127 v) xT 186 true).run Tryd.prog w = .ok (.tuple #[.nilIface, .bool false]) w := run_typeAssert_lacksB Tryd.underlying186 (by kernel_rfl) (by kernel_rfl) v xT w
theorem noIs_pw (v : Value) (xT : TypeId) (w : World) : (Instr.typeAssert (.iface 127 v) xT 194 true).run Tryd.prog w = .ok (.tuple #[.nilIface, .bool false]) w := run_typeAssert_lacksB Tryd.underlying194 (by kernel_rfl) (by kernel_rfl) v xT w
theorem noUs_pw (v : Value) (xT : TypeId) (w : World) : (Instr.typeAssert (.iface 127 v) xT 190 true).run Tryd.prog w = .ok (.tuple #[.nilIface, .bool false]) w := run_typeAssert_lacksB Tryd.underlying190 (by kernel_rfl) (by kernel_rfl) v xT w
theorem hasU_pw (v : Value) (xT : TypeId) (w : World) : (Instr.typeAssert (.iface 127 v) xT 189 true).run Tryd.prog w = .ok (.tuple #[.iface 127 v, .bool true]) w := run_typeAssert_hasB Tryd.underlying189 (by kernel_rfl) v xT w
theorem typeOf_ot (v : Value) (w : World) : (ReflectliteType.typeOf #[.iface 89 v]).run Tryd.prog w = .ok (.iface 182 (.agg #[.pointer (some ⟨5, 89, none⟩)])) w := by kernel_rfl
theorem assign_ot_pf (w : World) : (ReflectliteType.relation "AssignableTo" ReflectliteType.assignableTo #[.agg #[.pointer (some ⟨5, 89, none⟩)], .iface 182 (.agg #[.pointer (some ⟨5, 76, none⟩)])]).run Tryd.prog w = .ok (.bool false) w := by kernel_rfl
theorem assign_ot_en (w : World) : (ReflectliteType.relation "AssignableTo" ReflectliteType.assignableTo #[.agg #[.pointer (some ⟨5, 89, none⟩)], .iface 182 (.agg #[.pointer (some ⟨5, 35, none⟩)])]).run Tryd.prog w = .ok (.bool false) w := by kernel_rfl
theorem noAs_ot (v : Value) (xT : TypeId) (w : World) : (Instr.typeAssert (.iface 89 v) xT 186 true).run Tryd.prog w = .ok (.tuple #[.nilIface, .bool false]) w := run_typeAssert_lacksB Tryd.underlying186 (by kernel_rfl) (by kernel_rfl) v xT w
theorem noIs_ot (v : Value) (xT : TypeId) (w : World) : (Instr.typeAssert (.iface 89 v) xT 194 true).run Tryd.prog w = .ok (.tuple #[.nilIface, .bool false]) w := run_typeAssert_lacksB Tryd.underlying194 (by kernel_rfl) (by kernel_rfl) v xT w
theorem noUs_ot (v : Value) (xT : TypeId) (w : World) : (Instr.typeAssert (.iface 89 v) xT 190 true).run Tryd.prog w = .ok (.tuple #[.nilIface, .bool false]) w := run_typeAssert_lacksB Tryd.underlying190 (by kernel_rfl) (by kernel_rfl) v xT w
theorem noU_ot (v : Value) (xT : TypeId) (w : World) : (Instr.typeAssert (.iface 89 v) xT 189 true).run Tryd.prog w = .ok (.tuple #[.nilIface, .bool false]) w := run_typeAssert_lacksB Tryd.underlying189 (by kernel_rfl) (by kernel_rfl) v xT w
theorem typeOf_en (v : Value) (w : World) : (ReflectliteType.typeOf #[.iface 35 v]).run Tryd.prog w = .ok (.iface 182 (.agg #[.pointer (some ⟨5, 35, none⟩)])) w := by kernel_rfl
theorem assign_en_pf (w : World) : (ReflectliteType.relation "AssignableTo" ReflectliteType.assignableTo #[.agg #[.pointer (some ⟨5, 35, none⟩)], .iface 182 (.agg #[.pointer (some ⟨5, 76, none⟩)])]).run Tryd.prog w = .ok (.bool false) w := by kernel_rfl
theorem assign_en_en (w : World) : (ReflectliteType.relation "AssignableTo" ReflectliteType.assignableTo #[.agg #[.pointer (some ⟨5, 35, none⟩)], .iface 182 (.agg #[.pointer (some ⟨5, 35, none⟩)])]).run Tryd.prog w = .ok (.bool true) w := by kernel_rfl
theorem noAs_en (v : Value) (xT : TypeId) (w : World) : (Instr.typeAssert (.iface 35 v) xT 186 true).run Tryd.prog w = .ok (.tuple #[.nilIface, .bool false]) w := run_typeAssert_lacksB Tryd.underlying186 (by kernel_rfl) (by kernel_rfl) v xT w
theorem noIs_en (v : Value) (xT : TypeId) (w : World) : (Instr.typeAssert (.iface 35 v) xT 194 true).run Tryd.prog w = .ok (.tuple #[.nilIface, .bool false]) w := run_typeAssert_lacksB Tryd.underlying194 (by kernel_rfl) (by kernel_rfl) v xT w
theorem noUs_en (v : Value) (xT : TypeId) (w : World) : (Instr.typeAssert (.iface 35 v) xT 190 true).run Tryd.prog w = .ok (.tuple #[.nilIface, .bool false]) w := run_typeAssert_lacksB Tryd.underlying190 (by kernel_rfl) (by kernel_rfl) v xT w
theorem noU_en (v : Value) (xT : TypeId) (w : World) : (Instr.typeAssert (.iface 35 v) xT 189 true).run Tryd.prog w = .ok (.tuple #[.nilIface, .bool false]) w := run_typeAssert_lacksB Tryd.underlying189 (by kernel_rfl) (by kernel_rfl) v xT w
theorem valueOf_ppf (a : Addr) (w : World) : (ReflectliteValue.unpack (.iface 123 (.pointer (some a)))).run Tryd.prog w = .ok (.agg #[.pointer (some ⟨5, 123, none⟩), .pointer (some ⟨w.heap.size, 0, none⟩), .int .u64 150]) (w.alloc (.cells #[.pointer (some a)] 123)) := by kernel_rfl
theorem type_ppf (a : Addr) (w : World) : (ReflectliteValue.methodAny (ReflectliteValue.valueError "reflectlite.Value.Type" 0) (fun t _ _ _ => ReflectliteType.toType t) #[.agg #[.pointer (some ⟨5, 123, none⟩), .pointer (some a), .int .u64 150]]).run Tryd.prog w = .ok (.iface 182 (.agg #[.pointer (some ⟨5, 123, none⟩)])) w := by kernel_rfl
theorem kind_ppf (w : World) : ((ReflectliteType.abiMethod fun t => (fun a : Nat => Value.int IntKind.u8 (a : Int)) <$> Rtype.kind t) #[.pointer (some ⟨5, 123, none⟩)]).run Tryd.prog w = .ok (.int .u8 22) w := by kernel_rfl
theorem kind_pf (w : World) : ((ReflectliteType.abiMethod fun t => (fun a : Nat => Value.int IntKind.u8 (a : Int)) <$> Rtype.kind t) #[.pointer (some ⟨5, 76, none⟩)]).run Tryd.prog w = .ok (.int .u8 22) w := by kernel_rfl
theorem elem_ppf (w : World) : (ReflectliteType.method ReflectliteType.elem #[.agg #[.pointer (some ⟨5, 123, none⟩)]]).run Tryd.prog w = .ok (.iface 182 (.agg #[.pointer (some ⟨5, 76, none⟩)])) w := by kernel_rfl
theorem implements_pf (w : World) : (ReflectliteType.relation "Implements" ReflectliteType.implements_ #[.agg #[.pointer (some ⟨5, 76, none⟩)], .iface 182 (.agg #[.pointer (some ⟨5, 84, none⟩)])]).run Tryd.prog w = .ok (.bool true) w := by kernel_rfl
theorem parts_ppf (a : Addr) (w : World) : (ReflectliteValue.parts (.agg #[.pointer (some ⟨5, 123, none⟩), .pointer (some a), .int .u64 150])).run Tryd.prog w = .ok (some (123, a, 150)) w := by kernel_rfl
theorem parts_pf (a : Addr) (w : World) : (ReflectliteValue.parts (.agg #[.pointer (some ⟨5, 76, none⟩), .pointer (some a), .int .u64 150])).run Tryd.prog w = .ok (some (76, a, 150)) w := by kernel_rfl
theorem parts_pfa (a : Addr) (w : World) : (ReflectliteValue.parts (.agg #[.pointer (some ⟨5, 76, none⟩), .pointer (some a), .int .u64 406])).run Tryd.prog w = .ok (some (76, a, 406)) w := by kernel_rfl
theorem elemOf_ppf (w : World) : (Rtype.elem? 123).run Tryd.prog w = .ok (some 76) w := by kernel_rfl
theorem mk_pf (p : Addr) (w : World) : (ReflectliteValue.mk 76 p ReflectliteValue.flagAddr).run Tryd.prog w = .ok (.agg #[.pointer (some ⟨5, 76, none⟩), .pointer (some p), .int .u64 406]) w := by kernel_rfl
theorem direct_pf (w : World) : (Rtype.directlyAssignable 76 76).run Tryd.prog w = .ok true w := by kernel_rfl
theorem valueOf_pf (e : Addr) (w : World) : (ReflectliteValue.unpack (.iface 76 (.pointer (some e)))).run Tryd.prog w = .ok (.agg #[.pointer (some ⟨5, 76, none⟩), .pointer (some ⟨w.heap.size, 0, none⟩), .int .u64 150]) (w.alloc (.cells #[.pointer (some e)] 76)) := by kernel_rfl
theorem valueOf_pen (a : Addr) (w : World) : (ReflectliteValue.unpack (.iface 125 (.pointer (some a)))).run Tryd.prog w = .ok (.agg #[.pointer (some ⟨5, 125, none⟩), .pointer (some ⟨w.heap.size, 0, none⟩), .int .u64 150]) (w.alloc (.cells #[.pointer (some a)] 125)) := by kernel_rfl
theorem type_pen (a : Addr) (w : World) : (ReflectliteValue.methodAny (ReflectliteValue.valueError "reflectlite.Value.Type" 0) (fun t _ _ _ => ReflectliteType.toType t) #[.agg #[.pointer (some ⟨5, 125, none⟩), .pointer (some a), .int .u64 150]]).run Tryd.prog w = .ok (.iface 182 (.agg #[.pointer (some ⟨5, 125, none⟩)])) w := by kernel_rfl
theorem kind_pen (w : World) : ((ReflectliteType.abiMethod fun t => (fun a : Nat => Value.int IntKind.u8 (a : Int)) <$> Rtype.kind t) #[.pointer (some ⟨5, 125, none⟩)]).run Tryd.prog w = .ok (.int .u8 22) w := by kernel_rfl
theorem kind_en (w : World) : ((ReflectliteType.abiMethod fun t => (fun a : Nat => Value.int IntKind.u8 (a : Int)) <$> Rtype.kind t) #[.pointer (some ⟨5, 35, none⟩)]).run Tryd.prog w = .ok (.int .u8 2) w := by kernel_rfl
theorem elem_pen (w : World) : (ReflectliteType.method ReflectliteType.elem #[.agg #[.pointer (some ⟨5, 125, none⟩)]]).run Tryd.prog w = .ok (.iface 182 (.agg #[.pointer (some ⟨5, 35, none⟩)])) w := by kernel_rfl
theorem implements_en (w : World) : (ReflectliteType.relation "Implements" ReflectliteType.implements_ #[.agg #[.pointer (some ⟨5, 35, none⟩)], .iface 182 (.agg #[.pointer (some ⟨5, 84, none⟩)])]).run Tryd.prog w = .ok (.bool true) w := by kernel_rfl
theorem parts_pen (a : Addr) (w : World) : (ReflectliteValue.parts (.agg #[.pointer (some ⟨5, 125, none⟩), .pointer (some a), .int .u64 150])).run Tryd.prog w = .ok (some (125, a, 150)) w := by kernel_rfl
theorem parts_en (a : Addr) (w : World) : (ReflectliteValue.parts (.agg #[.pointer (some ⟨5, 35, none⟩), .pointer (some a), .int .u64 130])).run Tryd.prog w = .ok (some (35, a, 130)) w := by kernel_rfl
theorem parts_ena (a : Addr) (w : World) : (ReflectliteValue.parts (.agg #[.pointer (some ⟨5, 35, none⟩), .pointer (some a), .int .u64 386])).run Tryd.prog w = .ok (some (35, a, 386)) w := by kernel_rfl
theorem elemOf_pen (w : World) : (Rtype.elem? 125).run Tryd.prog w = .ok (some 35) w := by kernel_rfl
theorem mk_en (p : Addr) (w : World) : (ReflectliteValue.mk 35 p ReflectliteValue.flagAddr).run Tryd.prog w = .ok (.agg #[.pointer (some ⟨5, 35, none⟩), .pointer (some p), .int .u64 386]) w := by kernel_rfl
theorem direct_en (w : World) : (Rtype.directlyAssignable 35 35).run Tryd.prog w = .ok true w := by kernel_rfl
theorem valueOf_en (e : Int) (w : World) : (ReflectliteValue.unpack (.iface 35 (.int .i64 e))).run Tryd.prog w = .ok (.agg #[.pointer (some ⟨5, 35, none⟩), .pointer (some ⟨w.heap.size, 0, none⟩), .int .u64 130]) (w.alloc (.cells #[.int .i64 e] 35)) := by kernel_rfl
theorem rlm (z : Sem Value) (f : TypeId → Addr → Nat → Nat → Sem Value) (v : Value) :
    ReflectliteValue.method z f #[v] = (do match ← ReflectliteValue.parts v with | none => z | some (t, a, fl) => f t a fl (fl % 32)) := rfl
theorem rls (v x : Value) : ReflectliteValue.set #[v, x] = (do
    let (some (dst, a, fl), some (src, b, _)) := (← ReflectliteValue.parts v, ← ReflectliteValue.parts x)
      | unsupported (.noEntry "extern/(internal/reflectlite.Value).Set.zeroValue")
    if fl / ReflectliteValue.flagAddr % 2 == 0 then unsupported (.noEntry "extern/(internal/reflectlite.Value).Set.unaddressable")
    let val ← loadVar src b
    if ← Rtype.directlyAssignable dst src then storeVar dst a val
    else if ← Rtype.implements dst src then
      if (← Rtype.kind src) == 20 then
        match val with
        | .nilIface => unsupported (.noEntry "extern/reflectlite: a nil value of one interface type handed on as a value of another")
        | _ => storeVar dst a val
      else storeVar dst a (.iface src val)
    else panicString ("reflectlite.Set: value of type " ++ (← Rtype.spelt src) ++ " is not assignable to type " ++ (← Rtype.spelt dst))
    pure (.tuple #[])) := rfl
theorem isNil_ppf (a p : Addr) (W : World) (ha : W.cell? a = some (.pointer (some p))) :
    (ReflectliteValue.method (ReflectliteValue.valueError "reflectlite.Value.IsNil" 0) ReflectliteValue.isNil #[.agg #[.pointer (some ⟨5, 123, none⟩), .pointer (some a), .int .u64 150]]).run Tryd.prog W = .ok (.bool false) W := by
  rw [rlm]
  simp only [Sem.run_bind, parts_ppf, Result.andThen]
  simp [ReflectliteValue.isNil, loadVar, isAgg, underlying, Tryd.underlying123, ha, Result.andThen]
theorem elemV_ppf (a p : Addr) (W : World) (ha : W.cell? a = some (.pointer (some p))) :
    (ReflectliteValue.method (ReflectliteValue.valueError "reflectlite.Value.Elem" 0) ReflectliteValue.elem #[.agg #[.pointer (some ⟨5, 123, none⟩), .pointer (some a), .int .u64 150]]).run Tryd.prog W = .ok (.agg #[.pointer (some ⟨5, 76, none⟩), .pointer (some p), .int .u64 406]) W := by
  rw [rlm]
  simp only [Sem.run_bind, parts_ppf, Result.andThen]
  simp [ReflectliteValue.elem, loadVar, isAgg, underlying, Tryd.underlying123, ha, Result.andThen, elemOf_ppf, mk_pf]
theorem set_pf (ta b : Addr) (e : Addr) (old : Value) (W : World) (hb : W.cell? b = some (.pointer (some e))) (ht : W.cell? ta = some old) (hf : W.frozen? ta = false) :
    (ReflectliteValue.set #[.agg #[.pointer (some ⟨5, 76, none⟩), .pointer (some ta), .int .u64 406], .agg #[.pointer (some ⟨5, 76, none⟩), .pointer (some b), .int .u64 150]]).run Tryd.prog W = .ok (.tuple #[]) (W.setCell ta (.pointer (some e))) := by
  rw [rls]
  simp only [Sem.run_bind, parts_pfa, parts_pf, Result.andThen]
  simp [ReflectliteValue.flagAddr, loadVar, isAgg, underlying, Tryd.underlying76, hb, Result.andThen, direct_pf, storeVar, Value.cells, storeCells, Addr.add]
  rw [run_store Tryd.prog W ta _ _ (by rfl)]
  simp [ht, hf]
theorem isNil_pen (a p : Addr) (W : World) (ha : W.cell? a = some (.pointer (some p))) :
    (ReflectliteValue.method (ReflectliteValue.valueError "reflectlite.Value.IsNil" 0) ReflectliteValue.isNil #[.agg #[.pointer (some ⟨5, 125, none⟩), .pointer (some a), .int .u64 150]]).run Tryd.prog W = .ok (.bool false) W := by
  rw [rlm]
  simp only [Sem.run_bind, parts_pen, Result.andThen]
  simp [ReflectliteValue.isNil, loadVar, isAgg, underlying, Tryd.underlying125, ha, Result.andThen]
theorem elemV_pen (a p : Addr) (W : World) (ha : W.cell? a = some (.pointer (some p))) :
    (ReflectliteValue.method (ReflectliteValue.valueError "reflectlite.Value.Elem" 0) ReflectliteValue.elem #[.agg #[.pointer (some ⟨5, 125, none⟩), .pointer (some a), .int .u64 150]]).run Tryd.prog W = .ok (.agg #[.pointer (some ⟨5, 35, none⟩), .pointer (some p), .int .u64 386]) W := by
  rw [rlm]
  simp only [Sem.run_bind, parts_pen, Result.andThen]
  simp [ReflectliteValue.elem, loadVar, isAgg, underlying, Tryd.underlying125, ha, Result.andThen, elemOf_pen, mk_en]
theorem set_en (ta b : Addr) (e : Int) (old : Value) (W : World) (hb : W.cell? b = some (.int .i64 e)) (ht : W.cell? ta = some old) (hf : W.frozen? ta = false) :
    (ReflectliteValue.set #[.agg #[.pointer (some ⟨5, 35, none⟩), .pointer (some ta), .int .u64 386], .agg #[.pointer (some ⟨5, 35, none⟩), .pointer (some b), .int .u64 130]]).run Tryd.prog W = .ok (.tuple #[]) (W.setCell ta (.int .i64 e)) := by
  rw [rls]
  simp only [Sem.run_bind, parts_ena, parts_en, Result.andThen]
  simp [ReflectliteValue.flagAddr, loadVar, isAgg, underlying, Tryd.underlying35, hb, Result.andThen, direct_en, storeVar, Value.cells, storeCells, Addr.add]
  rw [run_store Tryd.prog W ta _ _ (by rfl)]
  simp [ht, hf]
end Go.Proofs.YtkmgiodhaaajjaaDoor.FltA
