/- Layer schema: what is wrong with keys (a map of the keys that were seen). -/
import Derived.Test.YtkmgiodhaaajjaaDoorSchE
import Derived.Test.YtkmgiodhaaajjaaDoorUtfB
import Derived.Test.YtkmgiodhaaajjaaDoorRange
import Derived.Maps.OwnOps
import Derived.Maps.OwnSet
import Derived.Maps.Views
set_option linter.unusedVariables false
set_option linter.unusedSimpArgs false
namespace Go.Proofs.YtkmgiodhaaajjaaDoor.SchH
open Go Go.IntWalk Go.RowKit Go.Maps Go.Proofs.YtkmgiodhaaajjaaDoor.Mem Go.Proofs.YtkmgiodhaaajjaaDoor.App Go.Proofs.YtkmgiodhaaajjaaDoor.UtfP Go.Proofs.YtkmgiodhaaajjaaDoor.UtfB Go.Proofs.YtkmgiodhaaajjaaDoor.ItemP Go.Proofs.YtkmgiodhaaajjaaDoor.Range Go.Proofs.YtkmgiodhaaajjaaDoor.SchP Go.Proofs.YtkmgiodhaaajjaaDoor.SchM

theorem plainElem_bool_inv {H : Type} {P : Program} {e : TypeId} (he : P.underlying e = some .bool) {v : Value} {z : DataW H × List MemPlace} (h : plainElem P e v = some z) : ∃ b, v = .bool b ∧ z = (.lit (.bool b), []) := by
  unfold plainElem at h
  rw [he] at h
  cases v <;> simp at h
  exact ⟨_, rfl, h.symm⟩
/-- 'm[k]' without ok, of truths. -/
theorem wpList_lookup_bool {H : Type} {P : Program} (w : World) {ops : Array Oper} {rest : List Oper} {o : Oper} {a : Act} {Q : Exit → Act → World → Prop}
    (hg : o.guard = none) (m x : Operand) (t : TypeId) (hop : o.op = Op.lookup t m x false)
    (k e : TypeId) (K : Keyed P k) (ht : P.underlying t = some (.map k e)) (he : P.underlying e = some .bool) (hz : (zeroValue e).run P w = .ok (.bool false) w) (b n : Nat) (D : DataW H)
    (hm : a.eval m = .map (some b)) (hown : w.ownsMap P k (plainElem P e) b n D) (key : Value) (kl : Lit) (hx : a.eval x = key) (hkey : keyOf P k key = some kl)
    (hK : ∀ c : Bool, D.atKey kl (.lit (.bool false)) = .lit (.bool c) → wpList P ops Q rest (a.put o.dst (.bool c)) w) :
    wpList P ops Q (o :: rest) a w := by
  refine wpList_plain hg fun K' hK' => ?_
  obtain ⟨v, ps, hrun, hv⟩ := hown.lookup K ht hz (plainElem_bool he false) hkey
  obtain ⟨c, rfl, hc⟩ := plainElem_bool_inv he hv
  simp only [Prod.mk.injEq] at hc
  unfold Oper.wp
  simp [execOp, hop, hm, hx, hrun, Result.andThen]
  exact hK' _ _ (hK c hc.1)
theorem zeroBool (w : World) : (zeroValue 4).run Tryd.prog w = .ok (.bool false) w := by kernel_rfl
/-- A map that tells which keys were seen. -/
def Seen (w : World) (b n : Nat) (seen : List ByteArray) : Prop :=
  ∃ D : DataW Unit, w.ownsMap Tryd.prog 9 (plainElem Tryd.prog 4) b n D ∧ ∀ s : ByteArray, D.atKey (.string s.data.toList) (.lit (.bool false)) = .lit (.bool (seen.any fun x => decide (x = s)))
theorem Seen.grown {w w' : World} {b n : Nat} {seen : List ByteArray} (h : Seen w b n seen) (hf : Fr (fun _ => False) w w') : Seen w' b n seen := by
  obtain ⟨D, h1, h2⟩ := h
  exact ⟨D, h1.kept (grown_of_fr hf) (by simp), h2⟩
theorem seen_new (w : World) : Seen (w.alloc (.map #[] 0)) w.heap.size 0 [] :=
  ⟨_, World.ownsMap_made _ _ _ _, fun s => rfl⟩
theorem toList_ne {a b : ByteArray} (h : a ≠ b) : a.data.toList ≠ b.data.toList := by
  intro e
  obtain ⟨⟨l⟩⟩ := a
  obtain ⟨⟨l'⟩⟩ := b
  simp at e
  exact h (by rw [e])
theorem Seen.put {w w' : World} {b n : Nat} {seen : List ByteArray} {D : DataW Unit} (hm : IsMap D) (hD : ∀ s : ByteArray, D.atKey (.string s.data.toList) (.lit (.bool false)) = .lit (.bool (seen.any fun x => decide (x = s)))) (k : ByteArray)
    (ho : w'.ownsMap Tryd.prog 9 (plainElem Tryd.prog 4) b n (D.put (.string k.data.toList) (.lit (.bool true)))) : Seen w' b n (seen ++ [k]) := by
  refine ⟨_, ho, fun s => ?_⟩
  by_cases h : k = s
  · subst h
    rw [atKey_put_same hm (by trivial)]
    simp
  · rw [atKey_put_other (fun e => toList_ne (Ne.symm h) (by injection e)), hD]
    simp [h]
theorem keysE_step (f : Fld) (l : List Fld) (seen : List ByteArray) : keysE seen (f :: l) = if validS f.key = false then 6 else if 1021 < f.key.size then 4 else if seen.any (fun s => decide (s = f.key)) = true then 14 else keysE (seen ++ [f.key]) l := rfl

set_option maxRecDepth 20000 in
set_option maxHeartbeats 4000000 in
theorem keys_calls (A : Option Addr) (n c : Nat) (l : List Fld) (w : World) (hn : l.length = n) (hc : n ≤ c) (hl : n ≤ 1048576) (hx : RdF w A l) :
    Calls Tryd.prog 102 #[.slice A n c] w fun e w' => e = .returned (.int .i64 (keysE [] l)) ∧ Fr (fun _ => False) w w' := by
  have HN := hid hn
  have HX := hid hx
  have hmm := @run_makeMap Tryd.prog
  obtain ⟨r, hr⟩ : ∃ r, keysE [] l = r := ⟨_, rfl⟩
  have HR := hid hr
  rw [hr]
  clear hn hx hr
  go_enter Tryd.func102, Tryd.ntmps102
  go_wp2_with fail
  go_loopw [9] (fun i wr => ∃ j : Nat, j ≤ n ∧ i = .int .i64 j ∧ Hid (Seen wr w.heap.size j ((l.take j).map Fld.key)) ∧ Hid (r = keysE ((l.take j).map Fld.key) (l.drop j)) ∧ Hid (Fr (fun _ => False) w wr)) (fun i _ => n - (intOf i).toNat)
  case atStart => exact ⟨0, Nat.zero_le _, rfl, hid (seen_new w), hid HR.out.symm, hid ((Fr.refl _ w).alloc _)⟩
  case round =>
    obtain ⟨j, hj, rfl, HS, HE, HF⟩ := hrel
    clear hmm
    by_cases hlt : j < n
    · obtain ⟨ad, rfl, _, hks, _, f0, f1, f2⟩ := HX.out.fr0 HF.out j (by rw [HN.out]; exact hlt)
      have HTK := hid (List.take_succ_eq_append_getElem (show j < l.length by rw [HN.out]; exact hlt))
      have HDR := hid (List.drop_eq_getElem_cons (show j < l.length by rw [HN.out]; exact hlt))
      obtain ⟨x, hx⟩ : ∃ x, l[j]'(by rw [HN.out]; exact hlt) = x := ⟨_, rfl⟩
      rw [hx] at HTK HDR f0 f1 f2 hks
      obtain ⟨key, node, opt⟩ := x
      simp only at f0 f1 f2 hks
      have HE2 := hid (show r = _ by rw [HE.out, HDR.out, keysE_step])
      simp only at HE2
      have hj0 : (0 : Int) ≤ (j : Int) := by omega
      have hjm : (j : Int) < (n : Int) := by omega
      have hjc : (j : Int) < (c : Int) := by omega
      obtain ⟨w1, hw1⟩ : ∃ w1, wr.alloc (.cells #[.string key, .int .i64 node, .bool opt] 111) = w1 := ⟨_, rfl⟩
      have HF1 := hid (show Fr (fun _ => False) wr w1 by rw [← hw1]; exact (Fr.refl _ wr).alloc _)
      have HB1 := hid (show Blk w1 wr.heap.size 111 #[.string key, .int .i64 node, .bool opt] by rw [← hw1]; exact Blk.new wr _ _)
      have HW1 := hid hw1
      have HKS := hid hks
      clear hw1 hx hks
      go_wp2_with fail
      rw [HW1.out]
      refine (valid_calls key w1 HKS.out).mono ?_
      rintro e w2 ⟨rfl, hf⟩
      have HF2 := hid (HF1.out.then_ hf (fun _ _ h => h))
      obtain ⟨c0, c1, c2⟩ := blk3 (HB1.out.fr hf (fun h => h))
      obtain ⟨v, hv⟩ : ∃ v, validS key = v := ⟨_, rfl⟩
      have HV := hid hv
      rw [hv]
      clear hf hv f0 f1 f2
      cases v with
      | false =>
        go_wp2_with fail
        go_ret
        refine ⟨?_, HF.out.then_ HF2.out (fun _ _ h => h)⟩
        rw [HE2.out, if_pos HV.out]
        rfl
      | true =>
        by_cases hz : 1021 < key.size
        · have hz' : (1021 : Int) < (key.size : Int) := by omega
          have HZ := hid hz
          clear hz
          go_wp2_with fail
          go_ret
          refine ⟨?_, HF.out.then_ HF2.out (fun _ _ h => h)⟩
          rw [HE2.out, if_neg (by rw [HV.out]; simp), if_pos HZ.out]
          rfl
        · have hz' : ¬ (1021 : Int) < (key.size : Int) := by omega
          have HZ := hid hz
          clear hz
          have hkey := WideMaps.keyOf_string_mk (P := Tryd.prog) Tryd.underlying9 (show key.size ≤ maxLen by have := HKS.out; unfold maxLen; omega)
          have HKEY := hid hkey
          obtain ⟨D, hown, hD⟩ := HS.out.grown HF2.out
          have HOWN := hid hown
          have HDD := hid hD
          clear hkey hown hD
          go_wp2_with (first
            | (at_lookup; refine wpList_lookup_bool _ rfl _ _ 177 rfl 9 4 (string_keyed Tryd.underlying9) Tryd.underlying177 Tryd.underlying4 (zeroBool _) w.heap.size j D rfl HOWN.out _ _ rfl HKEY.out ?_; intro q hq; have HQ := hid hq; clear hq)
            | (at_mapUpdate; refine wpList_mapUpdate_own _ rfl _ _ _ 177 rfl 9 4 (string_keyed Tryd.underlying9) Tryd.underlying177 (plainElem Tryd.prog 4) w.heap.size j D rfl HOWN.out (by unfold maxLen; omega) _ _ _ rfl rfl HKEY.out (.lit (.bool true)) [] (plainElem_bool Tryd.underlying4 true) ?_; intro w3 hown3 hg3; have HG3 := hid hg3; have HO3 := hid hown3; clear hg3 hown3))
          · have HQ2 := hid (show (((l.take j).map Fld.key).any fun s => decide (s = key)) = true by
              have h := HQ.out
              rw [HDD.out] at h
              injection h with h
              injection h with h
              exact h.trans (by assumption))
            go_ret
            refine ⟨?_, HF.out.then_ HF2.out (fun _ _ h => h)⟩
            rw [HE2.out, if_neg (by rw [HV.out]; simp), if_neg HZ.out, if_pos HQ2.out]
            rfl
          · have HQ2 := hid (show (((l.take j).map Fld.key).any fun s => decide (s = key)) = false by
              have h := HQ.out
              rw [HDD.out] at h
              injection h with h
              injection h with h
              exact h.trans (by assumption))
            have HF3 := hid (show Fr (fun _ => False) w w3 from (HF.out.then_ HF2.out (fun _ _ h => h)).then_ (Fr.grown (S := fun k => k = w.heap.size) HG3.out rfl) (fun i hi h => by omega))
            go_roundw
            case rel => exact ⟨j + 1, by omega, by go_num, hid (by
              rw [HTK.out, List.map_append]
              exact Seen.put (w := w2) (World.ownsMap.isMap HOWN.out) HDD.out key HO3.out), hid (by
              rw [HE2.out, if_neg (by rw [HV.out]; simp), if_neg HZ.out, if_neg (by rw [HQ2.out]; simp), HTK.out, List.map_append]
              rfl), HF3⟩
            case measure => simp [intOf]; omega
    · obtain rfl : j = n := by omega
      go_wp2_with fail
      go_ret
      refine ⟨?_, HF.out⟩
      rw [HE.out, List.drop_of_length_le (by rw [HN.out]; omega)]
      rfl
end Go.Proofs.YtkmgiodhaaajjaaDoor.SchH
