/- A region that draws its order, in a round of a range over a function: by what holds when some of its operations have come up. No program is named here. -/
import Derived.OrdersIn
import Derived.TacticsIn
import Derived.WalkKit
import Derived.Test.YtkmgiodhaaajjaaDoorMem
set_option linter.unusedVariables false
set_option linter.unusedSimpArgs false
namespace Go.Proofs.YtkmgiodhaaajjaaDoor.RegIn
open Go

/-- How many operations are left. -/
def left (l : Array Bool) : Nat := l.toList.countP (fun b => !b)
theorem count_set : ∀ (l : List Bool) (i : Nat), l[i]? = some false → (l.set i true).countP (fun b => !b) + 1 = l.countP (fun b => !b)
  | [], i, h => by simp at h
  | b :: l, 0, h => by
    simp at h
    subst h
    simp
  | b :: l, i + 1, h => by
    have := count_set l i (by simpa using h)
    simp only [List.set_cons_succ, List.countP_cons]
    omega
theorem left_set {l : Array Bool} {i : Nat} (h : l.getD i true = false) : left (l.setIfInBounds i true) + 1 = left l := by
  have hi : l.toList[i]? = some false := by
    rw [Array.getD_eq_getD_getElem?] at h
    cases hq : l[i]? with
    | none => rw [hq] at h; cases h
    | some b =>
      rw [hq] at h
      simp at h
      subst h
      simpa using hq
  have := count_set l.toList i hi
  unfold left
  rw [Array.toList_setIfInBounds]
  exact this
theorem ready_of {md : Region.Mode} {ops : Array Oper} {listed : Array Bool} {i : Nat} (h : i ∈ Region.ready md ops listed) :
    i < ops.size ∧ listed.getD i true = false ∧ ((ops[i]?).map (·.after.all fun e => !Region.binds md e || listed.getD e.on false)).getD false = true := by
  unfold Region.ready at h
  rw [List.mem_filter, List.mem_range, Bool.and_eq_true] at h
  exact ⟨h.1, by simpa using h.2.1, h.2.2⟩
theorem ready_none {md : Region.Mode} {ops : Array Oper} {listed : Array Bool} (h : left listed = 0) (hs : listed.size = ops.size) : Region.ready md ops listed = [] := by
  rw [List.eq_nil_iff_forall_not_mem]
  intro i hi
  obtain ⟨h1, h2, _⟩ := ready_of hi
  have := left_set h2
  omega
section
variable {F : Fence} {n : Nat} {P : Program} {ops : Array Oper} {Q : Exit → Act → World → Prop} {md : Region.Mode}
/-- Whatever comes up next keeps what holds. -/
theorem any_inv (Inv : Array Bool → Act → World → Prop) (hsz : ∀ l a w, Inv l a w → l.size = ops.size)
    (hstep : ∀ l a w i, Inv l a w → i ∈ Region.ready md ops l → wpOpIn F n P ops Q i (fun a' w' => Inv (l.setIfInBounds i true) a' w') a w)
    (hdone : ∀ l a w, Inv l a w → Region.ready md ops l = [] → Q .normal a w) :
    ∀ (fuel : Nat) (l : Array Bool) (a : Act) (w : World), left l ≤ fuel → Inv l a w → wpAnyIn F n P md ops Q fuel l a w
  | 0, l, a, w, hf, hI => by
    have hr : Region.ready md ops l = [] := ready_none (by omega) (hsz _ _ _ hI)
    exact ⟨hr, hdone _ _ _ hI hr⟩
  | fuel + 1, l, a, w, hf, hI => by
    refine ⟨fun hr => hdone _ _ _ hI hr, fun i hi => ?_⟩
    refine wpOpIn_mono (fun a' w' h => any_inv Inv hsz hstep hdone fuel _ a' w' ?_ h) (hstep l a w i hI hi)
    have := left_set (ready_of hi).2.1
    omega
theorem op_yield {i : Nat} {o : Oper} {v : Value} {a : Act} {w : World} {K : Act → World → Prop} (ho : ops[i]? = some o) (hw : Region.wanted o (yielded ops a.tmps) = true) (hab : ∀ f, F.fn f)
    (hv : (o.semAt F.round a.eval).run P w = .ok (.value v) w) (hK : K (a.put o.dst v) w) : wpOpIn F n P ops Q i K a w := by
  unfold wpOpIn
  simp only [ho, hw, if_true, Oper.wpIn, hv, Oper.uponIn]
  exact ⟨fun f _ => hab f, hK⟩
theorem op_skip {i : Nat} {o : Oper} {a : Act} {w : World} {K : Act → World → Prop} (ho : ops[i]? = some o) (hw : Region.wanted o (yielded ops a.tmps) = false) (hab : ∀ f, F.fn f)
    (hK : K (a.put o.dst undef) w) : wpOpIn F n P ops Q i K a w := by
  unfold wpOpIn
  simp only [ho, hw]
  exact ⟨fun f _ => hab f, hK⟩
theorem op_call {i f : Nat} {o : Oper} {args : Array Value} {v : Value} {a : Act} {w : World} {K : Act → World → Prop} (ho : ops[i]? = some o) (hw : Region.wanted o (yielded ops a.tmps) = true) (hab : ∀ f, F.fn f) (hd : F.depth = none)
    (hv : (o.semAt F.round a.eval).run P w = .ok (.enter f args) w) (hc : CallsIn F (n - 1) P f args w fun e w' => e = .returned v ∧ K (a.put o.dst v) w') : wpOpIn F n P ops Q i K a w := by
  unfold wpOpIn
  simp only [ho, hw, if_true, Oper.wpIn, hv, Oper.uponIn]
  refine ⟨fun f _ => hab f, fun h => (by rw [hd] at h; cases h), hc.mono fun e w' h => ?_⟩
  obtain ⟨rfl, h⟩ := h
  exact h
end
/-- Where every edge leads back, no operation is left when none comes up. -/
theorem done_all {md : Region.Mode} {ops : Array Oper} {l : Array Bool} (hb : ((List.range ops.size).all fun i => ((ops[i]?).map (·.after.all fun e => decide (e.on < i))).getD true) = true)
    (hr : Region.ready md ops l = []) (hs : l.size = ops.size) : ∀ i, i < ops.size → l.getD i false = true := by
  intro i
  induction i using Nat.strongRecOn with
  | _ i ih =>
    intro hi
    cases hq : l.getD i false
    · exfalso
      have h0 : l.getD i true = false := by
        rw [Array.getD_eq_getD_getElem?] at hq ⊢
        have : i < l.size := by omega
        rw [Array.getElem?_eq_getElem this] at hq ⊢
        simpa using hq
      have ho : ops[i]? = some ops[i] := Array.getElem?_eq_getElem hi
      have hbi := List.all_eq_true.1 hb i (List.mem_range.2 hi)
      rw [ho] at hbi
      have hbi' : ∀ e ∈ ops[i].after, e.on < i := by
        have : (ops[i].after.all fun e => decide (e.on < i)) = true := hbi
        rw [Array.all_eq_true_iff_forall_mem] at this
        exact fun e he => by simpa using this e he
      have hin : i ∈ Region.ready md ops l := by
        unfold Region.ready
        rw [List.mem_filter, List.mem_range, Bool.and_eq_true]
        refine ⟨hi, by rw [h0]; rfl, ?_⟩
        rw [ho]
        show (ops[i].after.all fun e => !Region.binds md e || l.getD e.on false) = true
        rw [Array.all_eq_true_iff_forall_mem]
        intro e he
        rw [ih e.on (hbi' e he) (by have := hbi' e he; omega)]
        simp
      rw [hr] at hin
      cases hin
    · rfl
/-- The frame when some operations have come up: the i-th one's slot is b + i. -/
structure Up (base : Array Value) (b m : Nat) (V : Nat → Value) (l : Array Bool) (a : Act) : Prop where
  size : l.size = m
  df : a.defers = []
  sz : a.tmps.size = base.size
  old : ∀ s, ¬ (b ≤ s ∧ s < b + m) → a.tmps[s]? = base[s]?
  new : ∀ i, i < m → l.getD i false = true → a.tmps[b + i]? = some (V i)
section
variable {base : Array Value} {b m : Nat} {V : Nat → Value} {l : Array Bool} {a : Act}
theorem Up.start {a : Act} (hd : a.defers = []) (ht : a.tmps = base) : Up base b m V (Array.replicate m false) a := by
  subst ht
  refine ⟨by simp, hd, rfl, fun s _ => rfl, fun i hi h => ?_⟩
  rw [Array.getD_eq_getD_getElem?, Array.getElem?_replicate, if_pos hi] at h
  cases h
theorem Up.put (h : Up base b m V l a) {i : Nat} {v : Value} (hi : i < m) (hb : b + m ≤ base.size) (hv : V i = v) : Up base b m V (l.setIfInBounds i true) (a.put (some (b + i)) v) := by
  subst hv
  refine ⟨by rw [Array.size_setIfInBounds]; exact h.size, h.df, ?_, fun s hs => ?_, fun j hj hl => ?_⟩
  · show (a.tmps.setIfInBounds (b + i) (V i)).size = _
    rw [Array.size_setIfInBounds]
    exact h.sz
  · show (a.tmps.setIfInBounds (b + i) (V i))[s]? = _
    rw [Array.getElem?_setIfInBounds_ne (by omega)]
    exact h.old s hs
  · show (a.tmps.setIfInBounds (b + i) (V i))[b + j]? = _
    by_cases e : i = j
    · subst e
      rw [Array.getElem?_setIfInBounds_self_of_lt (by rw [h.sz]; omega)]
    · rw [Array.getElem?_setIfInBounds_ne (by omega)]
      refine h.new j hj ?_
      rw [Array.getD_eq_getD_getElem?, Array.getElem?_setIfInBounds_ne e, ← Array.getD_eq_getD_getElem?] at hl
      exact hl
theorem Up.oldD (h : Up base b m V l a) (s : Nat) (hs : ¬ (b ≤ s ∧ s < b + m)) : a.tmps.getD s undef = base.getD s undef := by
  rw [Array.getD_eq_getD_getElem?, Array.getD_eq_getD_getElem?, h.old s hs]
theorem Up.newD (h : Up base b m V l a) {i : Nat} (hi : i < m) (hl : l.getD i false = true) : a.tmps.getD (b + i) undef = V i := by
  rw [Array.getD_eq_getD_getElem?, h.new i hi hl]
  rfl
end
end Go.Proofs.YtkmgiodhaaajjaaDoor.RegIn
