/- Walks of layer head: the shortest head of a float, by the program. -/
import Derived.Test.YtgdhchknegjpfaaDoorHeadJ
import Derived.Maps.Own
set_option linter.unusedVariables false
set_option linter.unusedSimpArgs false
namespace Go.Proofs.YtgdhchknegjpfaaDoor.HeadK
open Go.IntWalk Go.RowKit Go.Proofs.YtgdhchknegjpfaaDoor.Mem Go.Proofs.YtgdhchknegjpfaaDoor.Num Go.Proofs.YtgdhchknegjpfaaDoor.BitsA Go.Proofs.YtgdhchknegjpfaaDoor.BitsB Go.Proofs.YtgdhchknegjpfaaDoor.App Go.Proofs.YtgdhchknegjpfaaDoor.FloatP Go.Proofs.YtgdhchknegjpfaaDoor.FloatB Go.Proofs.YtgdhchknegjpfaaDoor.FloatG Go.Proofs.YtgdhchknegjpfaaDoor.FloatI Go.Proofs.YtgdhchknegjpfaaDoor.HeadP Go.Proofs.YtgdhchknegjpfaaDoor.HeadA Go.Proofs.YtgdhchknegjpfaaDoor.HeadB Go.Proofs.YtgdhchknegjpfaaDoor.HeadC Go.Proofs.YtgdhchknegjpfaaDoor.HeadD Go.Proofs.YtgdhchknegjpfaaDoor.HeadE Go.Proofs.YtgdhchknegjpfaaDoor.HeadF Go.Proofs.YtgdhchknegjpfaaDoor.HeadI Go.Proofs.YtgdhchknegjpfaaDoor.HeadJ

open Go.Maps
theorem Fr.grown {S : Nat → Prop} {w w1 w2 : World} {b : Nat} (h : Fr S w w1) (hb : w.heap.size ≤ b) (hg : w1.grownBy w2 (some b)) : Fr S w w2 :=
  ⟨hg.os.trans h.os, hg.tape.trans h.tape, hg.output.trans h.output, Nat.le_trans h.size hg.size, fun k hk hS => (hg.block k (Nat.lt_of_lt_of_le hk h.size) (fun e => by cases e; omega)).trans (h.block k hk hS)⟩
theorem lawK : Keyed Tryd.prog 3 := int_keyed Tryd.underlying3
theorem zeroE (w : World) : (zeroValue 5).run Tryd.prog w = .ok (.int .u8 0) w := by kernel_rfl
theorem lit_inj {a b : Int} (h : (DataW.lit (.int .u8 a) : DataW Unit) = .lit (.int .u8 b)) : a = b := by
  injection h with h
  injection h
/-- The map of a head's widths. -/
theorem wid_map (w : World) (v : Int) (i : Int) (hv : v = 2 ∧ i = 25 ∨ v = 4 ∧ i = 26 ∨ v = 8 ∧ i = 27) : ∃ wa wb wc,
    (Instr.mapUpdate 72 (.map (some w.heap.size)) (.int .i64 2) (.int .u8 25)).run Tryd.prog (w.alloc (.map #[] 0)) = .ok () wa ∧
    (Instr.mapUpdate 72 (.map (some w.heap.size)) (.int .i64 4) (.int .u8 26)).run Tryd.prog wa = .ok () wb ∧
    (Instr.mapUpdate 72 (.map (some w.heap.size)) (.int .i64 8) (.int .u8 27)).run Tryd.prog wb = .ok () wc ∧
    (Instr.lookup 72 (.map (some w.heap.size)) (.int .i64 v) false).run Tryd.prog wc = .ok (.int .u8 i) wc ∧ Fr (fun _ => False) w wc := by
  have own0 := World.ownsMap_made (H := Unit) w Tryd.prog 3 (plainElem Tryd.prog 5)
  obtain ⟨wa, runa, owna, ga⟩ := own0.update lawK Tryd.underlying72 (by decide) (keyOf_int_mk Tryd.underlying3 (a := 2) (by decide)) (plainElem_int Tryd.underlying5 (a := 25) (by decide))
  obtain ⟨wb, runb, ownb, gb⟩ := owna.update lawK Tryd.underlying72 (by decide) (keyOf_int_mk Tryd.underlying3 (a := 4) (by decide)) (plainElem_int Tryd.underlying5 (a := 26) (by decide))
  obtain ⟨wc, runc, ownc, gc⟩ := ownb.update lawK Tryd.underlying72 (by decide) (keyOf_int_mk Tryd.underlying3 (a := 8) (by decide)) (plainElem_int Tryd.underlying5 (a := 27) (by decide))
  have hF : Fr (fun _ => False) w wc := Fr.grown (Fr.grown (Fr.grown ((Fr.refl _ w).alloc _) (Nat.le_refl _) ga) (Nat.le_refl _) gb) (Nat.le_refl _) gc
  refine ⟨wa, wb, wc, runa, runb, runc, ?_, hF⟩
  rcases hv with ⟨rfl, rfl⟩ | ⟨rfl, rfl⟩ | ⟨rfl, rfl⟩
  · obtain ⟨c, hrun, hat, _⟩ := ownc.lookup_int lawK Tryd.underlying72 Tryd.underlying5 (zeroE _) (keyOf_int_mk Tryd.underlying3 (a := 2) (by decide))
    have hc : (25 : Int) = c := by
      have h2 := (show _ = DataW.lit (.int .u8 25) by kernel_rfl : _).symm.trans hat
      exact lit_inj h2
    subst hc
    exact hrun
  · obtain ⟨c, hrun, hat, _⟩ := ownc.lookup_int lawK Tryd.underlying72 Tryd.underlying5 (zeroE _) (keyOf_int_mk Tryd.underlying3 (a := 4) (by decide))
    have hc : (26 : Int) = c := by
      have h2 := (show _ = DataW.lit (.int .u8 26) by kernel_rfl : _).symm.trans hat
      exact lit_inj h2
    subst hc
    exact hrun
  · obtain ⟨c, hrun, hat, _⟩ := ownc.lookup_int lawK Tryd.underlying72 Tryd.underlying5 (zeroE _) (keyOf_int_mk Tryd.underlying3 (a := 8) (by decide))
    have hc : (27 : Int) = c := by
      have h2 := (show _ = DataW.lit (.int .u8 27) by kernel_rfl : _).symm.trans hat
      exact lit_inj h2
    subst hc
    exact hrun
set_option maxRecDepth 10000 in
set_option maxHeartbeats 1000000 in
theorem putf_calls (x : Nat) (hx : x < 2 ^ 64) (w : World) (hd : Dbl w) : Calls Tryd.prog 19 #[.int .u64 x] w (RowTo w (putFR x)) := by
  have hw := shortest_w x
  have hlt := lt64 (back_wide x hx).1 hw
  have HX := hid hx
  have HD := hid hd
  obtain ⟨r, hr⟩ : ∃ r, shortestF x = r := ⟨_, rfl⟩
  have HR := hid hr
  have hp : putFR x = ((if r.2 = 2 then 249 else if r.2 = 4 then 250 else 251 : Nat) : Int) :: (digs (r.1 : Nat) r.2).reverse := by unfold putFR; rw [hr]
  rw [hr] at hw hlt
  obtain ⟨y, v⟩ := r
  simp only at hw hlt hp
  have HB := hid (show 0 ≤ (y : Int) ∧ (y : Int) < 18446744073709551616 by omega)
  have HP := hid hp
  clear hx hr hp hlt hd
  have hmm := @run_makeMap Tryd.prog
  go_enter Tryd.func19, Tryd.ntmps19
  go_wp2_with fail
  refine (shortest_calls w x x rfl HX.out HD.out).mono ?_
  rintro e w1 ⟨rfl, hf⟩
  rw [HR.out]
  have HF := hid hf
  clear hf
  rcases hw with rfl | rfl | rfl
  · have HO0 := hid HP.out
    obtain ⟨wa, wb, wc, ra, rb, rc, rl, hf⟩ := wid_map w1 2 25 (by decide)
    have HF2 := hid (HF.out.then_ hf (fun _ _ h => h))
    have HO := hid (own_one wc 249)
    have hO : Go.bits .or .u8 224 25 = 249 := by decide
    clear hf
    go_wp2_with fail
    refine (putBig64_calls (y : Int) _ HB.out.1 HB.out.2).mono ?_
    rintro e w4 ⟨d, rfl, hd, hv4, hf4⟩
    have HR4 := hid (RdI.mk_drop hv4 6)
    have HO4 := hid (HO.out.fr hf4 (fun _ _ h => h))
    have HF4 := hid (((Fr.refl (fun _ => False) wc).alloc (.cells #[.int .u8 249] 5)).then_ hf4 (fun _ _ h => h))
    clear hv4 hf4
    go_wp2_with (refine wpList_app rfl (.tmp 17) (.tmp 22) 32 rfl 1 Tryd.underlying32 infoByte _ [249] rfl HO4.out (some ⟨d, 6, none⟩) 2 2 rfl (digs y 2).reverse (by simp [digs_length]) (by rw [← drop_digs y 2 (by decide)]; exact HR4.out) (by simp) HF4.out.size ?_; intro v5 w5 h5)
    go_ret
    refine ⟨v5, rfl, ?_, HF2.out.then_ (h5.out.fr0 HO4.out HF4.out (Nat.le_refl _)) (fun _ _ h => h)⟩
    rw [HO0.out]
    exact h5.out.own.mono HF2.out.size
  · have HO0 := hid HP.out
    obtain ⟨wa, wb, wc, ra, rb, rc, rl, hf⟩ := wid_map w1 4 26 (by decide)
    have HF2 := hid (HF.out.then_ hf (fun _ _ h => h))
    have HO := hid (own_one wc 250)
    have hO : Go.bits .or .u8 224 26 = 250 := by decide
    clear hf
    go_wp2_with fail
    refine (putBig64_calls (y : Int) _ HB.out.1 HB.out.2).mono ?_
    rintro e w4 ⟨d, rfl, hd, hv4, hf4⟩
    have HR4 := hid (RdI.mk_drop hv4 4)
    have HO4 := hid (HO.out.fr hf4 (fun _ _ h => h))
    have HF4 := hid (((Fr.refl (fun _ => False) wc).alloc (.cells #[.int .u8 250] 5)).then_ hf4 (fun _ _ h => h))
    clear hv4 hf4
    go_wp2_with (refine wpList_app rfl (.tmp 17) (.tmp 22) 32 rfl 1 Tryd.underlying32 infoByte _ [250] rfl HO4.out (some ⟨d, 4, none⟩) 4 4 rfl (digs y 4).reverse (by simp [digs_length]) (by rw [← drop_digs y 4 (by decide)]; exact HR4.out) (by simp) HF4.out.size ?_; intro v5 w5 h5)
    go_ret
    refine ⟨v5, rfl, ?_, HF2.out.then_ (h5.out.fr0 HO4.out HF4.out (Nat.le_refl _)) (fun _ _ h => h)⟩
    rw [HO0.out]
    exact h5.out.own.mono HF2.out.size
  · have HO0 := hid HP.out
    obtain ⟨wa, wb, wc, ra, rb, rc, rl, hf⟩ := wid_map w1 8 27 (by decide)
    have HF2 := hid (HF.out.then_ hf (fun _ _ h => h))
    have HO := hid (own_one wc 251)
    have hO : Go.bits .or .u8 224 27 = 251 := by decide
    clear hf
    go_wp2_with fail
    refine (putBig64_calls (y : Int) _ HB.out.1 HB.out.2).mono ?_
    rintro e w4 ⟨d, rfl, hd, hv4, hf4⟩
    have HR4 := hid (RdI.mk_drop hv4 0)
    have HO4 := hid (HO.out.fr hf4 (fun _ _ h => h))
    have HF4 := hid (((Fr.refl (fun _ => False) wc).alloc (.cells #[.int .u8 251] 5)).then_ hf4 (fun _ _ h => h))
    clear hv4 hf4
    go_wp2_with (refine wpList_app rfl (.tmp 17) (.tmp 22) 32 rfl 1 Tryd.underlying32 infoByte _ [251] rfl HO4.out (some ⟨d, 0, none⟩) 8 8 rfl (digs y 8).reverse (by simp [digs_length]) (by rw [← drop_digs y 8 (by decide)]; exact HR4.out) (by simp) HF4.out.size ?_; intro v5 w5 h5)
    go_ret
    refine ⟨v5, rfl, ?_, HF2.out.then_ (h5.out.fr0 HO4.out HF4.out (Nat.le_refl _)) (fun _ _ h => h)⟩
    rw [HO0.out]
    exact h5.out.own.mono HF2.out.size
end Go.Proofs.YtgdhchknegjpfaaDoor.HeadK
