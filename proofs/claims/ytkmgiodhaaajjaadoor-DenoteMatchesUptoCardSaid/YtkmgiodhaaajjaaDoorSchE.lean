/- Layer schema: rows of whole numbers. Layer schema: a row anew; the nodes that a node names. Layer schema: rows of fields; bounds. Layer schema: is one of the nodes that are named no later one? Layer schema: bounds. -/
import Derived.Test.YtkmgiodhaaajjaaDoorProg
import Derived.Test.YtkmgiodhaaajjaaDoorSchM
import Derived.Test.YtkmgiodhaaajjaaDoorItemT
import Derived.Deep.QuietTactic
import Derived.BigQuiet
import Derived.WalkSpells
import Derived.Laws.StructEq
set_option linter.unusedVariables false
set_option linter.unusedSimpArgs false
namespace Go.Proofs.YtkmgiodhaaajjaaDoor.SchA
open Go.IntWalk Go.RowKit Go.Proofs.YtkmgiodhaaajjaaDoor.Mem Go.Proofs.YtkmgiodhaaajjaaDoor.App Go.Proofs.YtkmgiodhaaajjaaDoor.ItemP Go.Proofs.YtkmgiodhaaajjaaDoor.ItemM Go.Proofs.YtkmgiodhaaajjaaDoor.ItemT Go.Proofs.YtkmgiodhaaajjaaDoor.SchP Go.Proofs.YtkmgiodhaaajjaaDoor.SchM

theorem agree_ext {xs ys : List Int} (hl : xs.length = ys.length) (h : ∀ i, i < xs.length → xs.getD i 0 = ys.getD i 0) : xs = ys := by
  apply List.ext_getElem hl
  intro i h1 h2
  have := h i h1
  simpa [List.getD_eq_getElem?_getD, List.getElem?_eq_getElem h1, List.getElem?_eq_getElem h2] using this

set_option maxRecDepth 20000 in
set_option maxHeartbeats 2000000 in
/-- slices.Equal of whole numbers. -/
theorem eqints_calls (A B : Option Addr) (n m c d : Nat) (xs ys : List Int) (w : World) (hn : xs.length = n) (hm : ys.length = m) (hc : n ≤ c) (hd : m ≤ d) (hl : n ≤ 140737488355328) (hx : RdI .i64 w A xs) (hy : RdI .i64 w B ys) :
    Calls Tryd.prog 106 #[.slice A n c, .slice B m d] w fun e w' => e = .returned (.bool (decide (xs = ys))) ∧ Fr (fun _ => False) w w' := by
  have HN := hid hn
  have HM := hid hm
  have HX := hid hx
  have HY := hid hy
  clear hn hm hx hy
  by_cases hnm : n = m
  · subst hnm
    go_enter Tryd.func106, Tryd.ntmps106
    go_wp2_with fail
    go_loopw [13] (fun i wr => ∃ j : Nat, j ≤ n ∧ i = .int .i64 j ∧ Hid (∀ i, i < j → xs.getD i 0 = ys.getD i 0) ∧ Hid (Fr (fun _ => False) w wr)) (fun i _ => n - (intOf i).toNat)
    case atStart => exact ⟨0, Nat.zero_le _, rfl, hid (fun i hi => by omega), hid (Fr.refl _ _)⟩
    case round =>
      obtain ⟨j, hj, rfl, HA, HF⟩ := hrel
      by_cases hlt : j < n
      · obtain ⟨ax, rfl, _, cx⟩ := HX.out.fr0 HF.out j (by rw [HN.out]; exact hlt)
        obtain ⟨ay, rfl, _, cy⟩ := HY.out.fr0 HF.out j (by rw [HM.out]; exact hlt)
        obtain ⟨x, hx⟩ : ∃ x, xs.getD j 0 = x := ⟨_, rfl⟩
        obtain ⟨y, hy⟩ : ∃ y, ys.getD j 0 = y := ⟨_, rfl⟩
        rw [hx] at cx
        rw [hy] at cy
        have HXE := hid hx
        have HYE := hid hy
        have hj0 : (0 : Int) ≤ (j : Int) := by omega
        have hjm : (j : Int) < (n : Int) := by omega
        have hjc : (j : Int) < (c : Int) := by omega
        have hjd : (j : Int) < (d : Int) := by omega
        clear hx hy
        by_cases he : x = y
        · subst he
          go_wp2_with fail
          go_quiet (fail)
          go_wp2_with fail
          go_roundw
          case rel => exact ⟨j + 1, by omega, by go_num, hid (fun i hi => by
            by_cases h : i < j
            · exact HA.out i h
            · obtain rfl : i = j := by omega
              rw [HXE.out, HYE.out]), hid (HF.out.drewN _)⟩
          case measure => simp [intOf]; omega
        · have hb : (x != y) = true := bne_iff_ne.2 he
          have HE := hid he
          clear he
          go_wp2_with fail
          go_quiet (fail)
          go_wp2_with fail
          go_ret
          refine ⟨ret_bool ?_, HF.out.drewN _⟩
          rw [decide_eq_false]
          intro h
          rw [h] at HXE
          exact HE.out (HXE.out.symm.trans HYE.out)
      · obtain rfl : j = n := by omega
        go_wp2_with fail
        go_ret
        refine ⟨ret_bool ?_, HF.out⟩
        rw [decide_eq_true]
        exact agree_ext (by rw [HN.out, HM.out]) (fun i hi => HA.out i (by rw [HN.out] at hi; exact hi))
  · have hb : ((n : Int) != (m : Int)) = true := bne_iff_ne.2 (by omega)
    have HNM := hid hnm
    clear hnm
    go_enter Tryd.func106, Tryd.ntmps106
    go_wp2_with fail
    go_ret
    refine ⟨ret_bool ?_, Fr.refl _ _⟩
    rw [decide_eq_false]
    intro h
    exact HNM.out (by rw [← HN.out, ← HM.out, h])
end Go.Proofs.YtkmgiodhaaajjaaDoor.SchA

namespace Go.Proofs.YtkmgiodhaaajjaaDoor.SchB
open Go.IntWalk Go.RowKit Go.Proofs.YtkmgiodhaaajjaaDoor.Mem Go.Proofs.YtkmgiodhaaajjaaDoor.App Go.Proofs.YtkmgiodhaaajjaaDoor.ItemP Go.Proofs.YtkmgiodhaaajjaaDoor.ItemM Go.Proofs.YtkmgiodhaaajjaaDoor.ItemT Go.Proofs.YtkmgiodhaaajjaaDoor.SchP Go.Proofs.YtkmgiodhaaajjaaDoor.SchM

set_option maxRecDepth 20000 in
set_option maxHeartbeats 2000000 in
theorem clone_calls (A : Option Addr) (n c : Nat) (xs : List Int) (w : World) (hn : xs.length = n) (hc : n ≤ c) (hl : n ≤ 1048576) (hx : RdI .i64 w A xs) :
    Calls Tryd.prog 79 #[.slice A n c] w fun e w' => ∃ A' c', e = .returned (.slice A' n c') ∧ App.Own .i64 3 w' w.heap.size (.slice A' n c') xs ∧ Fr (fun _ => False) w w' := by
  have HN := hid hn
  have HX := hid hx
  cases A with
  | none =>
    have h0 : xs = [] := by
      cases xs with
      | nil => rfl
      | cons x xs => obtain ⟨_, h, _⟩ := hx 0 (by simp); cases h
    have hn0 : n = 0 := by rw [← hn, h0]; rfl
    have HZ := hid h0
    subst hn0
    clear hn hx h0
    have hq := Lib.run_eql_slice_nil (P := Tryd.prog)
    go_enter Tryd.func79, Tryd.ntmps79
    go_wp2_with fail
    go_ret
    refine ⟨_, _, rfl, ?_, Fr.refl _ _⟩
    rw [HZ.out]
    exact Own.nil _ _ _ _
  | some ad =>
    clear hn hx
    have hq := fun (w : World) => Lib.run_eql_slice_nil (P := Tryd.prog) w 28 3 (some ad) n c 0 0 Tryd.underlying28
    go_enter Tryd.func79, Tryd.ntmps79
    go_wp2_with (first
      | (refine wpList_app rfl (.tmp 5) (.tmp 6) 28 rfl 8 Tryd.underlying28 infoInt _ [] rfl (own_made0 .i64 3 w) (some ad) n c rfl xs HN.out (RdI.fr0 HX.out ((Fr.refl _ w).alloc _)) (by simp; omega) (by simp) ?_; intro v6 w6 h6; have HO := hid h6.out.own; have HF6 := hid (h6.out.fr0 (own_made0 .i64 3 w) ((Fr.refl (fun _ => False) w).alloc _) (by simp)); obtain ⟨A6, c6, rfl, _⟩ := h6.out.own.form; clear h6))
    go_ret
    refine ⟨A6, c6, ?_, ?_, HF6.out⟩
    · exact congrArg (fun k => Ending.returned (.slice A6 k c6)) HN.out
    · have := HO.out
      rw [List.nil_append, HN.out] at this
      exact this

set_option maxRecDepth 20000 in
set_option maxHeartbeats 4000000 in
theorem named_calls (n : Nod) (h : Nat) (Av : Option Addr) (cv : Nat) (Al : Option Addr) (cl : Nat) (Af : Option Addr) (cf : Nat) (w : World) (H : NdR w h n Av cv Al cl Af cf) :
    Calls Tryd.prog 34 #[.agg (ndC n Av cv Al cl Af cf)] w fun e w' => ∃ A' c', e = .returned (.slice A' n.named.length c') ∧ App.Own .i64 3 w' w.heap.size (.slice A' n.named.length c') n.named ∧ Fr (fun _ => False) w w' := by
  have HR := hid H
  obtain ⟨m, hm⟩ : ∃ m, n.l.length = m := ⟨_, rfl⟩
  obtain ⟨q, hq⟩ : ∃ q, n.f.length = q := ⟨_, rfl⟩
  have HM := hid hm
  have HQ := hid hq
  have hlc := H.lc
  have hfc := H.fc
  have hlm := H.lm
  have hfm := H.fm
  rw [ndC_eq]
  obtain ⟨w1, hw1⟩ : ∃ w1, w.alloc (.cells #[.int .i64 n.k, .int .i64 n.lo, .int .i64 n.hi, .int .i64 n.v.k, .int .u64 n.v.n, .string n.v.s, .slice Av n.v.l.length cv, .slice Al n.l.length cl, .slice Af n.f.length cf] 54) = w1 := ⟨_, rfl⟩
  have HF1 := hid (show Fr (fun _ => False) w w1 by rw [← hw1]; exact (Fr.refl _ w).alloc _)
  have HB1 := hid (show Blk w1 w.heap.size 54 #[.int .i64 n.k, .int .i64 n.lo, .int .i64 n.hi, .int .i64 n.v.k, .int .u64 n.v.n, .string n.v.s, .slice Av n.v.l.length cv, .slice Al n.l.length cl, .slice Af n.f.length cf] by rw [← hw1]; exact Blk.new w _ _)
  have HW1 := hid hw1
  have HNL := hid (show n.named.length = m + q by simp [Nod.named, hm, hq])
  rw [hm, hq] at HW1 HB1
  rw [hm] at hlc hlm
  rw [hq] at hfc hfm
  rw [HNL.out]
  obtain ⟨c0, c1, c2, c3, c4, c5, c6, c7, c8⟩ := blk9 HB1.out
  clear hw1 H c0 c1 c2 c3 c4 c5 c6 hm hq
  go_enter Tryd.func34, Tryd.ntmps34
  rw [HM.out, HQ.out]
  go_wp2_with fail
  rw [HW1.out]
  go_wp2_with fail
  refine (clone_calls Al m cl n.l w1 HM.out hlc hlm (HR.out.l.fr0 HF1.out)).mono ?_
  rintro e w2 ⟨A2, c2, rfl, ho, hf⟩
  have HO := hid ho
  have HF2 := hid hf
  have HB2 := hid (HB1.out.fr hf (fun h => h))
  clear c7 c8 ho hf
  obtain ⟨_, _, _, _, _, _, _, _, c8⟩ := blk9 HB2.out
  go_wp2_with fail
  go_loopw [3, 12] (fun v i wr => ∃ (j : Nat) (A3 : Option Addr) (c3 : Nat), j ≤ q ∧ i = .int .i64 j ∧ v = .slice A3 (m + j) c3 ∧ Hid (App.Own .i64 3 wr w1.heap.size (.slice A3 (m + j) c3) (n.l ++ (n.f.take j).map Fld.node)) ∧ Hid (Fr (fun _ => False) w1 wr)) (fun _ i _ => q - (intOf i).toNat)
  case atStart => exact ⟨0, A2, c2, Nat.zero_le _, rfl, by simp, hid (by simpa using HO.out), HF2⟩
  case round =>
    obtain ⟨j, A3, c3, hj, rfl, rfl, HO3, HF3⟩ := hrel
    clear c8
    by_cases hlt : j < q
    · obtain ⟨ad, rfl, _, _, _, f0, f1, f2⟩ := (HR.out.f.fr0 (HF1.out.trans HF3.out)) j (by rw [HQ.out]; exact hlt)
      have HTK := hid (List.take_succ_eq_append_getElem (show j < n.f.length by rw [HQ.out]; exact hlt))
      obtain ⟨x, hx⟩ : ∃ x, n.f[j]'(by rw [HQ.out]; exact hlt) = x := ⟨_, rfl⟩
      rw [hx] at HTK f0 f1 f2
      obtain ⟨key, node, opt⟩ := x
      have hj0 : (0 : Int) ≤ (j : Int) := by omega
      have hjm : (j : Int) < (q : Int) := by omega
      have hjc : (j : Int) < (cf : Int) := by omega
      have HOA := hid (App.Own.fr HO3.out ((Fr.refl (fun _ => False) wr).alloc (.cells #[.string key, .int .i64 node, .bool opt] 111)) (fun _ _ h => h))
      clear hx
      go_wp2_with (first
        | (refine wpList_app1 rfl (.tmp 16) (.tmp 19) 28 rfl 8 Tryd.underlying28 infoInt (wr.alloc (.cells #[.string key, .int .i64 node, .bool opt] 111)) node 3 (.slice A3 (m + j) c3) (n.l ++ (n.f.take j).map Fld.node) rfl HOA.out (by rw [World.size_alloc]; rfl) (by simp [HM.out]; omega) (by have := HF3.out.size; simp; omega) ?_; intro v6 w6 h6 g6; have HO6 := hid h6.out; have HF6 := hid (g6.out (fun _ => False) w1 (HF3.out.alloc _) (Nat.le_refl _)); obtain ⟨A6, c6, rfl, _⟩ := h6.out.form; clear h6 g6))
      go_roundw
      case rel => exact ⟨j + 1, A6, c6, by omega, by go_num, (by rw [show m + (j + 1) = n.l.length + (min j n.f.length + 1) by (have h1 := HM.out; have h2 := HQ.out; omega)]), hid (by
        have h := HO6.out
        rw [List.length_append, List.length_append, List.length_map, List.length_take, HM.out, HQ.out, Nat.min_eq_left (by omega), List.length_singleton, List.append_assoc] at h
        rw [HTK.out, List.map_append]
        exact h), HF6⟩
      case measure => simp [intOf]; omega
    · obtain rfl : j = q := by omega
      go_wp2_with fail
      go_ret
      refine ⟨A3, c3, rfl, ?_, HF1.out.trans HF3.out⟩
      have h := HO3.out
      rw [List.take_of_length_le (by rw [HQ.out]; omega)] at h
      exact App.Own.mono h HF1.out.size
end Go.Proofs.YtkmgiodhaaajjaaDoor.SchB

namespace Go.Proofs.YtkmgiodhaaajjaaDoor.SchC
open Go.IntWalk Go.RowKit Go.Proofs.YtkmgiodhaaajjaaDoor.Mem Go.Proofs.YtkmgiodhaaajjaaDoor.App Go.Proofs.YtkmgiodhaaajjaaDoor.ItemP Go.Proofs.YtkmgiodhaaajjaaDoor.ItemM Go.Proofs.YtkmgiodhaaajjaaDoor.ItemT Go.Proofs.YtkmgiodhaaajjaaDoor.SchP Go.Proofs.YtkmgiodhaaajjaaDoor.SchM

section
variable {P : Program} {d : Nat} {xs ys : Array Value} {f : Field} {fs : List Field} {a b : Value} {r s : Bool} {w : World}
/-- Structs, field by field. -/
theorem fields_one (hn : (f.name == "_") = false) (ha : (part f.type xs f.offset).run P w = .ok a w) (hb : (part f.type ys f.offset).run P w = .ok b w) (he : (Op.equalIn d f.type a b).run P w = .ok r w) : (Op.eqFields d xs ys [f]).run P w = .ok r w := by
  have hn' : f.name ≠ "_" := by simpa using hn
  simp only [Op.eqFields, if_pos hn', Sem.run_bind, ha, hb, he, Result.andThen_ok]
  cases r <;> simp
theorem fields_more (hn : (f.name == "_") = false) (ha : (part f.type xs f.offset).run P w = .ok a w) (hb : (part f.type ys f.offset).run P w = .ok b w) (he : (Op.equalIn d f.type a b).run P w = .ok r w) (hr : (Op.eqFields d xs ys fs).run P w = .ok s w) : (Op.eqFields d xs ys (f :: fs)).run P w = .ok (r && s) w := by
  have hn' : f.name ≠ "_" := by simpa using hn
  rw [Op.eqFields]
  simp only [if_pos hn', Sem.run_bind, ha, hb, he, Result.andThen_ok]
  cases r
  · simp
  · simpa using hr
theorem struct_eq {t : TypeId} {fs : Array Field} (hu : P.underlying t = some (.struct fs)) (hp : P.stoodInHeld t = false) (h : (Op.eqFields d xs ys fs.toList).run P w = .ok r w) : (Op.equalIn (d + 1) t (.agg xs) (.agg ys)).run P w = .ok r w := by
  have hf : P.fieldsOf t = fs := by simp [Program.fieldsOf, hu]
  rw [run_equalIn_struct (P := P) w d t xs ys (by rw [hf]; exact hu) hp, hf]
  exact h
end
theorem fld_eq (d : Nat) (w : World) (x y : Fld) :
    (Op.equalIn (d + 2) 111 (.agg #[.string x.key, .int .i64 x.node, .bool x.opt]) (.agg #[.string y.key, .int .i64 y.node, .bool y.opt])).run Tryd.prog w = .ok (x.key.toList == y.key.toList && (x.node == y.node && (x.opt == y.opt))) w := by
  refine struct_eq Tryd.underlying111 (by kernel_rfl) ?_
  refine fields_more (by rfl) (by go_simp; rfl) (by go_simp; rfl) (by go_simp) ?_
  refine fields_more (by rfl) (by go_simp; rfl) (by go_simp; rfl) (by go_simp) ?_
  exact fields_one (by rfl) (by go_simp; rfl) (by go_simp; rfl) (by go_simp)
theorem fld_dec (x y : Fld) : (x.key.toList == y.key.toList && (x.node == y.node && (x.opt == y.opt))) = decide (x = y) := by
  obtain ⟨a, b, c⟩ := x
  obtain ⟨a', b', c'⟩ := y
  simp only [Fld.mk.injEq]
  rw [Bool.eq_iff_iff]
  simp only [Bool.and_eq_true, beq_iff_eq, decide_eq_true_eq]
  constructor
  · rintro ⟨h1, h2, h3⟩
    refine ⟨?_, h2, h3⟩
    rw [ByteArray.toList_eq, ByteArray.toList_eq] at h1
    obtain ⟨⟨l⟩⟩ := a
    obtain ⟨⟨l'⟩⟩ := a'
    simp at h1
    rw [h1]
  · rintro ⟨rfl, rfl, rfl⟩
    exact ⟨rfl, rfl, rfl⟩
theorem run_neq_fld (w : World) (x y : Fld) (b : Bool) (h : decide (x = y) = !b) : (binOp .neq 111 (.agg #[.string x.key, .int .i64 x.node, .bool x.opt]) (.agg #[.string y.key, .int .i64 y.node, .bool y.opt])).run Tryd.prog w = .ok (.bool b) w := by
  simp only [binOp]
  simp [Op.equal, Op.maxDepth, fld_eq 9998 w x y]
  have h2 := (fld_dec x y).trans h
  revert h2
  cases x.key.toList == y.key.toList <;> cases x.node == y.node <;> cases x.opt == y.opt <;> cases b <;> simp

set_option maxRecDepth 20000 in
set_option maxHeartbeats 2000000 in
/-- slices.Equal of fields. -/
theorem eqfields_calls (A B : Option Addr) (n m c d : Nat) (xs ys : List Fld) (w : World) (hn : xs.length = n) (hm : ys.length = m) (hc : n ≤ c) (hd : m ≤ d) (hl : n ≤ 140737488355328) (hx : RdF w A xs) (hy : RdF w B ys) :
    Calls Tryd.prog 107 #[.slice A n c, .slice B m d] w fun e w' => e = .returned (.bool (decide (xs = ys))) ∧ Fr (fun _ => False) w w' := by
  have HN := hid hn
  have HM := hid hm
  have HX := hid hx
  have HY := hid hy
  clear hn hm hx hy
  by_cases hnm : n = m
  · subst hnm
    go_enter Tryd.func107, Tryd.ntmps107
    go_wp2_with fail
    go_loopw [13] (fun i wr => ∃ j : Nat, j ≤ n ∧ i = .int .i64 j ∧ Hid (∀ i, i < j → xs[i]? = ys[i]?) ∧ Hid (Fr (fun _ => False) w wr)) (fun i _ => n - (intOf i).toNat)
    case atStart => exact ⟨0, Nat.zero_le _, rfl, hid (fun i hi => by omega), hid (Fr.refl _ _)⟩
    case round =>
      obtain ⟨j, hj, rfl, HA, HF⟩ := hrel
      by_cases hlt : j < n
      · obtain ⟨ax, rfl, _, _, _, cx0, cx1, cx2⟩ := HX.out.fr0 HF.out j (by rw [HN.out]; exact hlt)
        obtain ⟨ay, rfl, _, _, _, cy0, cy1, cy2⟩ := HY.out.fr0 HF.out j (by rw [HM.out]; exact hlt)
        have HGX := hid (List.getElem?_eq_getElem (show j < xs.length by rw [HN.out]; exact hlt))
        have HGY := hid (List.getElem?_eq_getElem (show j < ys.length by rw [HM.out]; exact hlt))
        obtain ⟨x, hx⟩ : ∃ x, xs[j]'(by rw [HN.out]; exact hlt) = x := ⟨_, rfl⟩
        obtain ⟨y, hy⟩ : ∃ y, ys[j]'(by rw [HM.out]; exact hlt) = y := ⟨_, rfl⟩
        rw [hx] at cx0 cx1 cx2 HGX
        rw [hy] at cy0 cy1 cy2 HGY
        have hj0 : (0 : Int) ≤ (j : Int) := by omega
        have hjm : (j : Int) < (n : Int) := by omega
        have hjc : (j : Int) < (c : Int) := by omega
        have hjd : (j : Int) < (d : Int) := by omega
        clear hx hy
        by_cases he : x = y
        · have hb := fun w => run_neq_fld w x y false (by rw [decide_eq_true he]; rfl)
          have HE := hid he
          clear he
          go_wp2_with fail
          go_quiet (fail)
          go_wp2_with fail
          go_roundw
          case rel => exact ⟨j + 1, by omega, by go_num, hid (fun i hi => by
            by_cases h : i < j
            · exact HA.out i h
            · obtain rfl : i = j := by omega
              rw [HGX.out, HGY.out, HE.out]), hid (HF.out.drewN _)⟩
          case measure => simp [intOf]; omega
        · have hb := fun w => run_neq_fld w x y true (by rw [decide_eq_false he]; rfl)
          have HE := hid he
          clear he
          go_wp2_with fail
          go_quiet (fail)
          go_wp2_with fail
          go_ret
          refine ⟨ret_bool ?_, HF.out.drewN _⟩
          rw [decide_eq_false]
          intro h
          have h2 := HGX.out
          rw [h, HGY.out] at h2
          exact HE.out (Option.some.inj h2).symm
      · obtain rfl : j = n := by omega
        go_wp2_with fail
        go_ret
        refine ⟨ret_bool ?_, HF.out⟩
        rw [decide_eq_true]
        apply List.ext_getElem?
        intro i
        by_cases hi : i < j
        · exact HA.out i hi
        · rw [List.getElem?_eq_none (by rw [HN.out]; omega), List.getElem?_eq_none (by rw [HM.out]; omega)]
  · have hb : ((n : Int) != (m : Int)) = true := bne_iff_ne.2 (by omega)
    have HNM := hid hnm
    clear hnm
    go_enter Tryd.func107, Tryd.ntmps107
    go_wp2_with fail
    go_ret
    refine ⟨ret_bool ?_, Fr.refl _ _⟩
    rw [decide_eq_false]
    intro h
    exact HNM.out (by rw [← HN.out, ← HM.out, h])
end Go.Proofs.YtkmgiodhaaajjaaDoor.SchC

namespace Go.Proofs.YtkmgiodhaaajjaaDoor.SchD
open Go.IntWalk Go.RowKit Go.Proofs.YtkmgiodhaaajjaaDoor.Mem Go.Proofs.YtkmgiodhaaajjaaDoor.App Go.Proofs.YtkmgiodhaaajjaaDoor.ItemP Go.Proofs.YtkmgiodhaaajjaaDoor.ItemM Go.Proofs.YtkmgiodhaaajjaaDoor.ItemT Go.Proofs.YtkmgiodhaaajjaaDoor.SchP Go.Proofs.YtkmgiodhaaajjaaDoor.SchM

/-- What IndexFunc tells: is there one? -/
def Idx (b : Bool) (e : Ending) : Prop := ∃ r : Int, e = .returned (.int .i64 r) ∧ decide (0 ≤ r) = b
theorem one_calls (k : Int) (i M c bi bs : Nat) (A : Option Addr) (w : World) (hi : w.cell? ⟨bi, 0, none⟩ = some (.int .i64 i)) (hs : w.cell? ⟨bs, 0, none⟩ = some (.slice A M c)) :
    Calls Tryd.prog 104 #[.int .i64 k, .pointer (some ⟨bi, 0, none⟩), .pointer (some ⟨bs, 0, none⟩)] w fun e w' => e = .returned (.bool (badN i M k)) ∧ w = w' := by
  by_cases h1 : k ≤ (i : Int)
  · have HB := hid (show badN i M k = true by rw [badN, decide_eq_true h1]; rfl)
    go_enter Tryd.func104, Tryd.ntmps104
    go_wp2
    go_ret
    exact ⟨ret_bool HB.out.symm, rfl⟩
  · by_cases h2 : (M : Int) ≤ k
    · have HB := hid (show badN i M k = true by rw [badN, decide_eq_true h2, Bool.or_true])
      go_enter Tryd.func104, Tryd.ntmps104
      go_wp2
      go_ret
      exact ⟨ret_bool HB.out.symm, rfl⟩
    · have HB := hid (show badN i M k = false by rw [badN, decide_eq_false h1, decide_eq_false h2]; rfl)
      go_enter Tryd.func104, Tryd.ntmps104
      go_wp2
      go_ret
      exact ⟨ret_bool HB.out.symm, rfl⟩

set_option maxRecDepth 20000 in
set_option maxHeartbeats 2000000 in
theorem index_calls (A : Option Addr) (n c : Nat) (xs : List Int) (i M cs bi bs : Nat) (As : Option Addr) (w : World) (hn : xs.length = n) (hc : n ≤ c) (hl : n ≤ 140737488355328) (hx : RdI .i64 w A xs)
    (hi : w.cell? ⟨bi, 0, none⟩ = some (.int .i64 i)) (hs : w.cell? ⟨bs, 0, none⟩ = some (.slice As M cs)) :
    Calls Tryd.prog 131 #[.slice A n c, .func (.func 104) #[] #[.pointer (some ⟨bi, 0, none⟩), .pointer (some ⟨bs, 0, none⟩)]] w fun e w' => Idx (xs.any (badN i M)) e ∧ w = w' := by
  have HN := hid hn
  have HX := hid hx
  have HI := hid hi
  have HS := hid hs
  clear hn hx hi hs
  go_enter Tryd.func131, Tryd.ntmps131
  go_wp2_with fail
  go_loop [8] (fun v => ∃ j : Nat, j ≤ n ∧ v = .int .i64 j ∧ Hid (∀ q, q < j → badN i M (xs.getD q 0) = false)) (fun v => n - (intOf v).toNat)
  case atStart => exact ⟨0, Nat.zero_le _, rfl, hid (fun q hq => by omega)⟩
  case round =>
    obtain ⟨j, hj, rfl, HA⟩ := hrel
    by_cases hlt : j < n
    · obtain ⟨ax, rfl, _, cx⟩ := HX.out j (by rw [HN.out]; exact hlt)
      obtain ⟨x, hx⟩ : ∃ x, xs.getD j 0 = x := ⟨_, rfl⟩
      rw [hx] at cx
      have HXE := hid hx
      have hj0 : (0 : Int) ≤ (j : Int) := by omega
      have hjm : (j : Int) < (n : Int) := by omega
      have hjc : (j : Int) < (c : Int) := by omega
      clear hx
      go_wp2_with fail
      refine (one_calls x i M cs bi bs As w HI.out HS.out).mono ?_
      rintro e w2 ⟨rfl, rfl⟩
      obtain ⟨b, hb⟩ : ∃ b, badN i M x = b := ⟨_, rfl⟩
      have HB := hid hb
      rw [hb]
      clear hb
      cases b with
      | true =>
        go_wp2_with fail
        go_ret
        refine ⟨⟨j, rfl, ?_⟩, rfl⟩
        rw [decide_eq_true (by omega)]
        symm
        rw [List.any_eq_true]
        refine ⟨x, ?_, HB.out⟩
        rw [← HXE.out]
        have hj' : j < xs.length := by rw [HN.out]; exact hlt
        simp [List.getD_eq_getElem?_getD, List.getElem?_eq_getElem hj']
      | false =>
        go_wp2_with fail
        go_round
        case rel => exact ⟨j + 1, by omega, by go_num, hid (fun q hq => by
          by_cases h : q < j
          · exact HA.out q h
          · obtain rfl : q = j := by omega
            rw [HXE.out]; exact HB.out)⟩
        case measure => simp [intOf]; omega
    · obtain rfl : j = n := by omega
      go_wp2_with fail
      go_ret
      refine ⟨⟨-1, rfl, ?_⟩, rfl⟩
      rw [decide_eq_false (by omega)]
      symm
      rw [List.any_eq_false]
      intro x hx
      obtain ⟨q, hq, rfl⟩ := List.getElem_of_mem hx
      have := HA.out q (by rw [← HN.out]; exact hq)
      simp [List.getD_eq_getElem?_getD, List.getElem?_eq_getElem hq] at this
      simp [this]

set_option maxRecDepth 20000 in
set_option maxHeartbeats 2000000 in
theorem contains_calls (A : Option Addr) (n c : Nat) (xs : List Int) (i M cs bi bs : Nat) (As : Option Addr) (w : World) (hn : xs.length = n) (hc : n ≤ c) (hl : n ≤ 140737488355328) (hx : RdI .i64 w A xs)
    (hi : w.cell? ⟨bi, 0, none⟩ = some (.int .i64 i)) (hs : w.cell? ⟨bs, 0, none⟩ = some (.slice As M cs)) :
    Calls Tryd.prog 103 #[.slice A n c, .func (.func 104) #[] #[.pointer (some ⟨bi, 0, none⟩), .pointer (some ⟨bs, 0, none⟩)]] w fun e w' => e = .returned (.bool (xs.any (badN i M))) ∧ w = w' := by
  have HC := hid (index_calls A n c xs i M cs bi bs As w hn hc hl hx hi hs)
  obtain ⟨b, hb⟩ : ∃ b, xs.any (badN i M) = b := ⟨_, rfl⟩
  rw [hb] at HC ⊢
  clear hn hx hi hs hb
  go_enter Tryd.func103, Tryd.ntmps103
  go_wp2_with fail
  refine HC.out.mono ?_
  rintro e w2 ⟨⟨r, rfl, hr⟩, rfl⟩
  have HR := hid hr
  clear hr
  go_wp2_with fail
  go_ret
  exact ⟨ret_bool HR.out, rfl⟩
end Go.Proofs.YtkmgiodhaaajjaaDoor.SchD

namespace Go.Proofs.YtkmgiodhaaajjaaDoor.SchE
open Go.IntWalk Go.RowKit Go.Proofs.YtkmgiodhaaajjaaDoor.Mem Go.Proofs.YtkmgiodhaaajjaaDoor.App Go.Proofs.YtkmgiodhaaajjaaDoor.ItemP Go.Proofs.YtkmgiodhaaajjaaDoor.ItemM Go.Proofs.YtkmgiodhaaajjaaDoor.ItemT Go.Proofs.YtkmgiodhaaajjaaDoor.SchP Go.Proofs.YtkmgiodhaaajjaaDoor.SchM

set_option maxRecDepth 20000 in
set_option maxHeartbeats 4000000 in
theorem bounds_calls (n : Nod) (Av : Option Addr) (cv : Nat) (Al : Option Addr) (cl : Nat) (Af : Option Addr) (cf : Nat) (w : World) :
    Calls Tryd.prog 101 #[.agg (ndC n Av cv Al cl Af cf)] w fun e w' => e = .returned (.bool n.bounds) ∧ Fr (fun _ => False) w w' := by
  obtain ⟨b, hb⟩ : ∃ b, n.bounds = b := ⟨_, rfl⟩
  have HB := hid hb
  rw [hb, ndC_eq]
  have hb2 := hb
  unfold Nod.bounds at hb2
  obtain ⟨k, lo, hi, v, l, f⟩ := n
  simp only at hb2 ⊢
  obtain ⟨x3, hx3⟩ : ∃ x, v.k = x := ⟨_, rfl⟩
  obtain ⟨x4, hx4⟩ : ∃ x, v.n = x := ⟨_, rfl⟩
  obtain ⟨x5, hx5⟩ : ∃ x, v.s = x := ⟨_, rfl⟩
  obtain ⟨x6, hx6⟩ : ∃ x, v.l.length = x := ⟨_, rfl⟩
  obtain ⟨x7, hx7⟩ : ∃ x, l.length = x := ⟨_, rfl⟩
  obtain ⟨x8, hx8⟩ : ∃ x, f.length = x := ⟨_, rfl⟩
  rw [hx3, hx4, hx5, hx6, hx7, hx8]
  clear hx3 hx4 hx5 hx6 hx7 hx8 hb HB
  obtain ⟨w1, hw1⟩ : ∃ w1, w.alloc (.cells #[.int .i64 k, .int .i64 lo, .int .i64 hi, .int .i64 x3, .int .u64 x4, .string x5, .slice Av x6 cv, .slice Al x7 cl, .slice Af x8 cf] 54) = w1 := ⟨_, rfl⟩
  have HF1 := hid (show Fr (fun _ => False) w w1 by rw [← hw1]; exact (Fr.refl _ w).alloc _)
  have HB1 := hid (show Blk w1 w.heap.size 54 #[.int .i64 k, .int .i64 lo, .int .i64 hi, .int .i64 x3, .int .u64 x4, .string x5, .slice Av x6 cv, .slice Al x7 cl, .slice Af x8 cf] by rw [← hw1]; exact Blk.new w _ _)
  have HW1 := hid hw1
  clear hw1
  obtain ⟨c0, c1, c2, _, _, _, _, _, _⟩ := blk9 HB1.out
  have H2 := hid hb2
  clear hb2
  have e1 : ∀ a b : Int, ((a == b) = true ∧ a = b) ∨ ((a == b) = false ∧ ¬ a = b) := fun a b => by
    by_cases h : a = b
    · exact .inl ⟨beq_iff_eq.2 h, h⟩
    · exact .inr ⟨beq_eq_false_iff_ne.2 h, h⟩
  have hk1 := e1 k 1
  have hk9 := e1 k 9
  clear e1
  by_cases h1 : lo ≤ hi <;> rcases hk1 with ⟨g1, g1'⟩ | ⟨g1, g1'⟩ <;> by_cases h2 : 0 ≤ lo <;> rcases hk9 with ⟨g9, g9'⟩ | ⟨g9, g9'⟩
  all_goals
    have HG1 := hid g1'
    have HG9 := hid g9'
    clear g1' g9'
    go_enter Tryd.func101, Tryd.ntmps101
    go_wp2_with fail
    rw [HW1.out]
    go_wp2_with fail
    go_ret
    refine ⟨ret_bool ?_, HF1.out⟩
    rw [← H2.out]
    have i1 := HG1.out
    have i9 := HG9.out
    first
      | (simp [h1, h2, i1, i9]; done)
      | (exfalso; omega)
end Go.Proofs.YtkmgiodhaaajjaaDoor.SchE
