/- Layer fault: the law FaultTells: the walk. -/
import Derived.Test.YtkmgiodhaaajjaaDoorFltF
set_option linter.unusedVariables false
set_option linter.unusedSimpArgs false
namespace Go.Proofs.YtkmgiodhaaajjaaDoor.FltG
open Go.IntWalk Go.RowKit Go.Proofs.YtkmgiodhaaajjaaDoor.Mem Go.Proofs.YtkmgiodhaaajjaaDoor.App Go.Proofs.YtkmgiodhaaajjaaDoor.Txt Go.Proofs.YtkmgiodhaaajjaaDoor.Itoa Go.Proofs.YtkmgiodhaaajjaaDoor.FltA Go.Proofs.YtkmgiodhaaajjaaDoor.FltB Go.Proofs.YtkmgiodhaaajjaaDoor.FltC Go.Proofs.YtkmgiodhaaajjaaDoor.FltD Go.Proofs.YtkmgiodhaaajjaaDoor.FltF

theorem cell_fr {w w' : World} {p : Addr} {v : Value} (h : w.cell? p = some v) (hf : Fr (fun _ => False) w w') : w'.cell? p = some v := (hf.cell (World.block_lt_of_cell? w p h) (fun h => h)).trans h
theorem getD_txt {l : List ByteArray} {i : Nat} (h : i < l.length) : l.getD i ByteArray.empty = l[i] := by
  rw [List.getD_eq_getElem?_getD, List.getElem?_eq_getElem h]
  rfl
theorem take_rev {l : List ByteArray} {i : Nat} (h : i < l.length) : (l.take (i + 1)).reverse = l[i] :: (l.take i).reverse := by
  rw [List.take_succ_eq_append_getElem h, List.reverse_append]
  rfl
theorem take_sz {l : List ByteArray} {i : Nat} (h : ∀ j (hj : j < l.length), j < i → l[j].size ≤ 100) : ∀ s ∈ (l.take i).reverse, s.size ≤ 100 := by
  intro s hs
  rw [List.mem_reverse] at hs
  obtain ⟨j, hj, rfl⟩ := List.getElem_of_mem hs
  rw [List.length_take] at hj
  rw [List.getElem_take]
  exact h j (by omega) (by omega)

set_option maxRecDepth 100000 in
set_option maxHeartbeats 8000000 in
/-- The document's text. -/
theorem reftext_calls (e a : Int) (A : Option Addr) (n c : Nat) (l : List ByteArray) (w : World) (he : I64 e) (ha : I64 a) (hT : Tab w) (hn : l.length = n) (hn2 : n ≤ 20) (hc : n ≤ c) (hr : RdS w A l) (hs : ∀ j (hj : j < l.length), l[j].size ≤ 100) :
    Calls Tryd.prog 60 #[.agg #[.int .i64 e, .int .i64 a], .slice A n c] w fun ev w' => ev = .returned (.string (chB e a l.reverse)) ∧ Fr (fun _ => False) w w' := by
  obtain ⟨w1, hw1⟩ : ∃ w1, w.alloc (.cells #[.int .i64 e, .int .i64 a] 79) = w1 := ⟨_, rfl⟩
  have HF1 := hid (show Fr (fun _ => False) w w1 by rw [← hw1]; exact (Fr.refl _ w).alloc _)
  have HS := hid (show ∀ w', Fr (fun _ => False) w1 w' → w'.cell? ⟨w.heap.size, 0, none⟩ = some (.int .i64 e) ∧ w'.cell? ⟨w.heap.size, 1, none⟩ = some (.int .i64 a) ∧ Fr (fun _ => False) w1 w' from fun w' hf => by
    obtain ⟨c0, c1⟩ := blk2 ((show Blk w1 w.heap.size 79 #[.int .i64 e, .int .i64 a] by rw [← hw1]; exact Blk.new _ _ _).fr hf (fun h => h))
    exact ⟨c0, c1, hf⟩)
  obtain ⟨s, hs1, hz⟩ := opq (Lib.itoa a) 21 (Dec.itoa_len a ha.1 ha.2)
  obtain ⟨r, hr1, hrz⟩ : ∃ r, errB e = r ∧ r.size ≤ 40 := ⟨_, rfl, errB_size he⟩
  have HX := hid (show { data := #[97, 116, 32] } ++ s ++ { data := #[58, 32] } ++ r = chB e a (l.take 0).reverse by rw [List.take_zero, List.reverse_nil, chB, fltB, hs1, hr1])
  have HC0 := hid (fun wx (hf : wx.cell? ⟨w.heap.size, 0, none⟩ = some (.int .i64 e) ∧ wx.cell? ⟨w.heap.size, 1, none⟩ = some (.int .i64 a) ∧ Fr (fun _ => False) w1 wx) => (Dec.text_calls a wx ha.1 ha.2).mono (R' := fun ev w' => ev = .returned (.string s) ∧ (w'.cell? ⟨w.heap.size, 0, none⟩ = some (.int .i64 e) ∧ w'.cell? ⟨w.heap.size, 1, none⟩ = some (.int .i64 a) ∧ Fr (fun _ => False) w1 w')) (fun ev w' h => ⟨by rw [← hs1]; exact h.1, h.2 ▸ hf⟩))
  have HC1 := hid (fun wx (hf : wx.cell? ⟨w.heap.size, 0, none⟩ = some (.int .i64 e) ∧ wx.cell? ⟨w.heap.size, 1, none⟩ = some (.int .i64 a) ∧ Fr (fun _ => False) w1 wx) => (errno_calls e wx he (hT.fr0 (HF1.out.trans hf.2.2))).mono (R' := fun ev w' => ev = .returned (.string r) ∧ (w'.cell? ⟨w.heap.size, 0, none⟩ = some (.int .i64 e) ∧ w'.cell? ⟨w.heap.size, 1, none⟩ = some (.int .i64 a) ∧ Fr (fun _ => False) w1 w')) (fun ev w' h => ⟨by rw [← hr1]; exact h.1, HS.out w' (hf.2.2.trans h.2)⟩))
  have HR := hid hr
  have HN := hid hn
  have HSZ := hid hs
  have HI := hid (show I64 e ∧ I64 a from ⟨he, ha⟩)
  obtain ⟨c0, c1, _⟩ := HS.out w1 (Fr.refl _ _)
  have hk1 : ¬ 9223372036854775807 < 3 + s.size := by omega
  have hk2 : ¬ 9223372036854775807 < 3 + s.size + 2 := by omega
  have hk3 : ¬ 9223372036854775807 < 3 + s.size + 2 + r.size := by omega
  have hW := hw1
  clear hs1 hr1 hT hr hn hs he ha hw1
  go_enter Tryd.func60, Tryd.ntmps60
  go_wp2_with fail
  go_region_held3 (fun w' => w'.cell? ⟨w.heap.size, 0, none⟩ = some (.int .i64 e) ∧ w'.cell? ⟨w.heap.size, 1, none⟩ = some (.int .i64 a) ∧ Fr (fun _ => False) w1 w')
    (first | exact HS.out _ (Fr.refl _ _) | exact HS.out _ (Fr.refl _ _).drew | assumption)
    (first
      | ((go_at_call 89; with_reducible refine (HC0.out _ (by assumption)).mono ?_; rintro e' wz ⟨rfl, hS⟩))
      | ((go_at_call 87; with_reducible refine (HC1.out _ (by assumption)).mono ?_; rintro e' wz ⟨rfl, hS⟩)))
  all_goals
    have HFZ := hid hS.2.2
    clear hS c0 c1 hk1 hk2 hk3
    go_wp2_with fail
    go_loopw [5, 6] (fun v5 v6 wr => ∃ i : Nat, i ≤ n ∧ v6 = .int .i64 i ∧ v5 = .string (chB e a (l.take i).reverse) ∧ wr = wz) (fun _ v6 _ => n - (intOf v6).toNat)
    case atStart => exact ⟨0, Nat.zero_le _, rfl, by rw [HX.out], rfl⟩
    case round =>
      obtain ⟨i, hi, rfl, rfl, rfl⟩ := hrel
      by_cases hlt : i < n
      · have hil : i < l.length := by rw [HN.out]; exact hlt
        have hi0 : (0 : Int) ≤ (i : Int) := by omega
        have hin : (i : Int) < (n : Int) := by omega
        have hic : (i : Int) < (c : Int) := by omega
        have hsi := HSZ.out i hil
        have htz := chB_size HI.out.1 HI.out.2 (l.take i).reverse (take_sz (fun j hj _ => HSZ.out j hj))
        have HNX := hid (show chB e a (l.take (i + 1)).reverse = l[i] ++ { data := #[58, 32] } ++ chB e a (l.take i).reverse by rw [take_rev hil]; rfl)
        obtain ⟨ad, rfl, had, hcell⟩ := HR.out i hil
        rw [getD_txt hil] at hcell
        have hc2 := cell_fr hcell (HF1.out.trans HFZ.out)
        obtain ⟨x, hx⟩ : ∃ x, l[i] = x := ⟨_, rfl⟩
        obtain ⟨y, hy⟩ : ∃ y, chB e a (l.take i).reverse = y := ⟨_, rfl⟩
        rw [hx] at hc2 hsi HNX
        rw [hy] at htz HNX ⊢
        simp only [List.length_reverse, List.length_take] at htz
        clear hcell hx hy
        go_wp2_with fail
        go_roundw
        case rel => exact ⟨i + 1, by omega, by go_num, by rw [HNX.out], trivial⟩
        case measure => simp [intOf]; omega
      · obtain rfl : i = n := by omega
        have HNX := hid (show chB e a (l.take i).reverse = chB e a l.reverse by rw [← HN.out, List.take_length])
        rw [HNX.out]
        go_wp2_with fail
        go_ret
        exact ⟨rfl, HF1.out.trans HFZ.out⟩

set_option maxRecDepth 100000 in
set_option maxHeartbeats 8000000 in
theorem tells_ok (a o : Int) (A : Option Addr) (n c : Nat) (l : List ByteArray) (w : World) (ha : I64 a) (ho : I64 o) (hg : ErrT w) (hT : Tab w) (hn : l.length = n) (hc : n ≤ c) (hr : RdS w A l) : Calls Tryd.prog 12 #[.agg #[.int .i64 0, .int .i64 a], .slice A n c, .int .i64 o] w fun ev w' => ev = .returned (.bool true) ∧ Fr (fun _ => False) w w' := by
  obtain ⟨w1, hw1⟩ : ∃ w1, w.alloc (.cells #[.int .i64 0, .int .i64 a] 79) = w1 := ⟨_, rfl⟩
  have HF1 := hid (show Fr (fun _ => False) w w1 by rw [← hw1]; exact (Fr.refl _ w).alloc _)
  have HS := hid (show ∀ w', Fr (fun _ => False) w1 w' → w'.cell? ⟨w.heap.size, 0, none⟩ = some (.int .i64 0) ∧ w'.cell? ⟨w.heap.size, 1, none⟩ = some (.int .i64 a) ∧ Fr (fun _ => False) w1 w' from fun w' hf => by
    obtain ⟨c0, c1⟩ := blk2 ((show Blk w1 w.heap.size 79 #[.int .i64 0, .int .i64 a] by rw [← hw1]; exact Blk.new _ _ _).fr hf (fun h => h))
    exact ⟨c0, c1, hf⟩)
  have HG := hid hg
  have HT := hid hT
  have HR := hid hr
  have HN := hid hn
  have HI := hid (show I64 a ∧ I64 o from ⟨ha, ho⟩)
  have hW := hw1
  clear hg hT hr hn hw1 ha ho
  go_enter Tryd.func12, Tryd.ntmps12
  go_wp2_with fail
  refine (awake_calls w1 (HG.out.fr HF1.out (fun h => h))).mono ?_
  rintro ev w2 ⟨rfl, hf⟩
  have HF2 := hid hf
  clear hf
  by_cases h20 : n ≤ 20
  case neg =>
    have hgt : (20 : Int) < (n : Int) := by omega
    go_wp2_with fail
    go_ret
    exact ⟨rfl, HF1.out.trans HF2.out⟩
  have hgt : ¬ (20 : Int) < (n : Int) := by omega
  obtain ⟨c0, c1, _⟩ := HS.out w2 HF2.out
  go_wp2_with fail
  refine (Error_ok a w2).mono ?_
  rintro ev w3 ⟨rfl, hf⟩
  have HF3 := hid (HF2.out.trans hf)
  clear hf
  clear c0 c1
  go_wp2_with fail
  go_loopw [7, 8] (fun v7 v8 wr => ∃ i : Nat, i ≤ n ∧ v8 = .int .i64 i ∧ v7 = .nilIface ∧ Hid (∀ j (hj : j < l.length), j < i → l[j].size ≤ 100) ∧ Hid (Fr (fun _ => False) w1 wr)) (fun _ v8 _ => n - (intOf v8).toNat)
  case atStart => exact ⟨0, Nat.zero_le _, rfl, rfl, hid (fun j hj h => by omega), HF3⟩
  case round =>
    obtain ⟨i, hi, rfl, rfl, HSZ, HF⟩ := hrel
    by_cases hlt : i < n
    · have hil : i < l.length := by rw [HN.out]; exact hlt
      have hi0 : (0 : Int) ≤ (i : Int) := by omega
      have hin : (i : Int) < (n : Int) := by omega
      have hic : (i : Int) < (c : Int) := by omega
      obtain ⟨ad, rfl, had, hcell⟩ := HR.out i hil
      rw [getD_txt hil] at hcell
      have hc2 := cell_fr hcell (HF1.out.trans HF.out)
      have HTR := hid (take_rev hil)
      obtain ⟨x, hx⟩ : ∃ x, l[i] = x := ⟨_, rfl⟩
      have HXX := hid hx
      rw [hx] at hc2 HTR
      clear hcell hx
      by_cases hz : x.size ≤ 100
      case neg =>
        have hzg : (100 : Int) < (x.size : Int) := by omega
        go_wp2_with fail
        go_ret
        exact ⟨rfl, HF1.out.trans HF.out⟩
      have hzg : ¬ (100 : Int) < (x.size : Int) := by omega
      have HSZ2 := hid (show ∀ j (hj : j < l.length), j < i + 1 → l[j].size ≤ 100 from fun j hj h => by
        by_cases e : j < i
        · exact HSZ.out j hj e
        · obtain rfl : j = i := by omega
          rw [HXX.out]
          exact hz)
      go_wp2_with fail
      refine (Wrap_nil x wr).mono ?_
      rintro ev w4 ⟨rfl, rfl⟩
      go_wp2_with fail
      go_roundw
      case rel => exact ⟨i + 1, by omega, by go_num, rfl, HSZ2, HF⟩
      case measure => simp [intOf]; omega
    · obtain rfl : i = n := by omega
      have HSA := hid (show ∀ j (hj : j < l.length), l[j].size ≤ 100 from fun j hj => HSZ.out j hj (by have := HN.out; omega))
      clear hlt
      go_wp2_with fail
      refine (At_nil wr).mono ?_
      rintro ev w4 ⟨rfl, hf⟩
      have HF4 := hid (HF.out.trans hf)
      clear hf
      obtain ⟨c0, c1, _⟩ := HS.out w4 HF4.out
      go_wp2_with fail
      refine (Code_nil w4).mono ?_
      rintro ev w5 ⟨rfl, hf⟩
      have HF5 := hid (HF4.out.trans hf)
      clear hf c0 c1
      go_wp2_with fail
      refine (Is_ok_nil w5).mono ?_
      rintro ev w6 ⟨rfl, rfl⟩
      by_cases h0 : o = 0
      · subst h0
        go_wp2_with fail
        go_ret
        exact ⟨rfl, HF1.out.trans HF5.out⟩
      · have hb : (o == 0) = false := beq_eq_false_iff_ne.2 h0
        have HC := hid (Is_num_nil o w6 h0)
        clear h0
        go_wp2_with fail
        refine HC.out.mono ?_
        rintro ev w7 ⟨rfl, rfl⟩
        go_wp2_with fail
        go_ret
        exact ⟨rfl, HF1.out.trans HF5.out⟩

set_option maxRecDepth 100000 in
set_option maxHeartbeats 8000000 in
theorem tells_num (e : Int) (a o : Int) (A : Option Addr) (n c : Nat) (l : List ByteArray) (w : World) (ha : I64 a) (ho : I64 o) (hg : ErrT w) (hT : Tab w) (hn : l.length = n) (hc : n ≤ c) (hr : RdS w A l) (he : I64 e) (h0 : e ≠ 0) : Calls Tryd.prog 12 #[.agg #[.int .i64 e, .int .i64 a], .slice A n c, .int .i64 o] w fun ev w' => ev = .returned (.bool true) ∧ Fr (fun _ => False) w w' := by
  obtain ⟨w1, hw1⟩ : ∃ w1, w.alloc (.cells #[.int .i64 e, .int .i64 a] 79) = w1 := ⟨_, rfl⟩
  have HF1 := hid (show Fr (fun _ => False) w w1 by rw [← hw1]; exact (Fr.refl _ w).alloc _)
  have HS := hid (show ∀ w', Fr (fun _ => False) w1 w' → w'.cell? ⟨w.heap.size, 0, none⟩ = some (.int .i64 e) ∧ w'.cell? ⟨w.heap.size, 1, none⟩ = some (.int .i64 a) ∧ Fr (fun _ => False) w1 w' from fun w' hf => by
    obtain ⟨c0, c1⟩ := blk2 ((show Blk w1 w.heap.size 79 #[.int .i64 e, .int .i64 a] by rw [← hw1]; exact Blk.new _ _ _).fr hf (fun h => h))
    exact ⟨c0, c1, hf⟩)
  have HG := hid hg
  have HT := hid hT
  have HR := hid hr
  have HN := hid hn
  have HI := hid (show I64 a ∧ I64 o from ⟨ha, ho⟩)
  have HE := hid (show I64 e ∧ e ≠ 0 ∧ (e == 0) = false from ⟨he, h0, beq_eq_false_iff_ne.2 h0⟩)
  clear he h0
  have hW := hw1
  clear hg hT hr hn hw1 ha ho
  go_enter Tryd.func12, Tryd.ntmps12
  go_wp2_with fail
  refine (awake_calls w1 (HG.out.fr HF1.out (fun h => h))).mono ?_
  rintro ev w2 ⟨rfl, hf⟩
  have HF2 := hid hf
  clear hf
  by_cases h20 : n ≤ 20
  case neg =>
    have hgt : (20 : Int) < (n : Int) := by omega
    go_wp2_with fail
    go_ret
    exact ⟨rfl, HF1.out.trans HF2.out⟩
  have hgt : ¬ (20 : Int) < (n : Int) := by omega
  obtain ⟨c0, c1, _⟩ := HS.out w2 HF2.out
  go_wp2_with fail
  refine (Error_ch e a w2 HE.out.2.1).mono ?_
  rintro ev w3 ⟨v3, rfl, h3, hf⟩
  have HF3 := hid (HF2.out.trans hf)
  have HC3 := hid h3
  clear hf h3
  clear c0 c1
  go_wp2_with fail
  go_loopw [7, 8] (fun v7 v8 wr => ∃ i : Nat, i ≤ n ∧ v8 = .int .i64 i ∧ (∃ v, v = v7 ∧ Hid (Ch wr wr.heap.size v e a (l.take i).reverse)) ∧ Hid (∀ j (hj : j < l.length), j < i → l[j].size ≤ 100) ∧ Hid (Fr (fun _ => False) w1 wr)) (fun _ v8 _ => n - (intOf v8).toNat)
  case atStart => exact ⟨0, Nat.zero_le _, rfl, ⟨v3, rfl, hid (by rw [List.take_zero, List.reverse_nil]; exact HC3.out)⟩, hid (fun j hj h => by omega), HF3⟩
  case round =>
    obtain ⟨i, hi, rfl, ⟨v, rfl, HC⟩, HSZ, HF⟩ := hrel
    by_cases hlt : i < n
    · have hil : i < l.length := by rw [HN.out]; exact hlt
      have hi0 : (0 : Int) ≤ (i : Int) := by omega
      have hin : (i : Int) < (n : Int) := by omega
      have hic : (i : Int) < (c : Int) := by omega
      obtain ⟨ad, rfl, had, hcell⟩ := HR.out i hil
      rw [getD_txt hil] at hcell
      have hc2 := cell_fr hcell (HF1.out.trans HF.out)
      have HTR := hid (take_rev hil)
      obtain ⟨x, hx⟩ : ∃ x, l[i] = x := ⟨_, rfl⟩
      have HXX := hid hx
      rw [hx] at hc2 HTR
      clear hcell hx
      by_cases hz : x.size ≤ 100
      case neg =>
        have hzg : (100 : Int) < (x.size : Int) := by omega
        go_wp2_with fail
        go_ret
        exact ⟨rfl, HF1.out.trans HF.out⟩
      have hzg : ¬ (100 : Int) < (x.size : Int) := by omega
      have HSZ2 := hid (show ∀ j (hj : j < l.length), j < i + 1 → l[j].size ≤ 100 from fun j hj h => by
        by_cases e : j < i
        · exact HSZ.out j hj e
        · obtain rfl : j = i := by omega
          rw [HXX.out]
          exact hz)
      go_wp2_with fail
      refine (Wrap_ch x wr HC.out (Nat.le_refl _)).mono ?_
      rintro ev w4 ⟨v4, rfl, h4, hf⟩
      have HC4 := hid (show Ch w4 w4.heap.size v4 e a (l.take (i + 1)).reverse by rw [HTR.out]; exact h4)
      have HF4 := hid (HF.out.trans hf)
      clear hf h4
      go_wp2_with fail
      go_roundw
      case rel => exact ⟨i + 1, by omega, by go_num, ⟨v4, rfl, HC4⟩, HSZ2, HF4⟩
      case measure => simp [intOf]; omega
    · obtain rfl : i = n := by omega
      have HSA := hid (show ∀ j (hj : j < l.length), l[j].size ≤ 100 from fun j hj => HSZ.out j hj (by have := HN.out; omega))
      clear hlt
      have HCH := hid (show Ch wr wr.heap.size v e a l.reverse by have := HC.out; rwa [← HN.out, List.take_length] at this)
      have HIF := hid (HCH.out.iface)
      go_wp2_with fail
      refine (At_ch wr (HG.out.fr (HF1.out.trans HF.out) (fun h => h)) HCH.out (Nat.le_refl _)).mono ?_
      rintro ev w4 ⟨rfl, hf⟩
      have H4 := hid hf
      have HF4 := hid (HF.out.trans hf)
      clear hf
      obtain ⟨c0, c1, _⟩ := HS.out w4 HF4.out
      obtain ⟨b, hbo⟩ : ∃ b, decide (e = o) = b := ⟨_, rfl⟩
      have hob : (o == e) = b := by
        rw [← hbo]
        by_cases h : e = o
        · subst h; simp
        · rw [decide_eq_false h]; exact beq_eq_false_iff_ne.2 (fun h2 => h h2.symm)
      have hee : (e == e) = true := beq_self_eq_true e
      have haa : (a == a) = true := beq_self_eq_true a
      obtain ⟨T, hTT⟩ : ∃ T, chB e a l.reverse = T := ⟨_, rfl⟩
      have HD0 := hid (fun wx (hf : (wx.cell? ⟨w.heap.size, 0, none⟩ = some (.int .i64 e) ∧ wx.cell? ⟨w.heap.size, 1, none⟩ = some (.int .i64 a) ∧ Fr (fun _ => False) w1 wx) ∧ Fr (fun _ => False) w4 wx) => (Code_en wx (HG.out.fr (HF1.out.trans hf.1.2.2) (fun h => h)) (.inr ⟨_, _, HCH.out.fr (H4.out.trans hf.2) (fun _ _ h => h)⟩) ((H4.out.trans hf.2).size)).mono (R' := fun ev w' => ev = .returned (.int .i64 e) ∧ (w'.cell? ⟨w.heap.size, 0, none⟩ = some (.int .i64 e) ∧ w'.cell? ⟨w.heap.size, 1, none⟩ = some (.int .i64 a) ∧ Fr (fun _ => False) w1 w') ∧ Fr (fun _ => False) w4 w') (fun ev w' h => ⟨h.1, HS.out w' (hf.1.2.2.trans h.2), hf.2.trans h.2⟩))
      have HD1 := hid (fun wx (hf : (wx.cell? ⟨w.heap.size, 0, none⟩ = some (.int .i64 e) ∧ wx.cell? ⟨w.heap.size, 1, none⟩ = some (.int .i64 a) ∧ Fr (fun _ => False) w1 wx) ∧ Fr (fun _ => False) w4 wx) => (Is_num (c := e) wx (.inr ⟨_, _, HCH.out.fr (H4.out.trans hf.2) (fun _ _ h => h)⟩) HE.out.2.1).mono (R' := fun ev w' => ev = .returned (.bool true) ∧ (w'.cell? ⟨w.heap.size, 0, none⟩ = some (.int .i64 e) ∧ w'.cell? ⟨w.heap.size, 1, none⟩ = some (.int .i64 a) ∧ Fr (fun _ => False) w1 w') ∧ Fr (fun _ => False) w4 w') (fun ev w' h => ⟨by rw [h.1, decide_eq_true rfl], h.2 ▸ hf⟩))
      have HD2 := hid (fun wx (hf : (wx.cell? ⟨w.heap.size, 0, none⟩ = some (.int .i64 e) ∧ wx.cell? ⟨w.heap.size, 1, none⟩ = some (.int .i64 a) ∧ Fr (fun _ => False) w1 wx) ∧ Fr (fun _ => False) w4 wx) => (show Calls Tryd.prog 57 #[v, .int .i64 o] wx fun ev w' => ev = .returned (.bool b) ∧ (w'.cell? ⟨w.heap.size, 0, none⟩ = some (.int .i64 e) ∧ w'.cell? ⟨w.heap.size, 1, none⟩ = some (.int .i64 a) ∧ Fr (fun _ => False) w1 w') ∧ Fr (fun _ => False) w4 w' by
        by_cases h0 : o = 0
        · obtain ⟨u, g0, rfl, _⟩ := HIF.out
          subst h0
          have hb0 : b = false := by rw [← hbo]; exact decide_eq_false HE.out.2.1
          rw [hb0]
          exact (Is_ok u _ wx).mono (fun ev w' h => ⟨h.1, h.2 ▸ hf⟩)
        · exact (Is_num (c := o) wx (.inr ⟨_, _, HCH.out.fr (H4.out.trans hf.2) (fun _ _ h => h)⟩) h0).mono (fun ev w' h => ⟨by rw [h.1, hbo], h.2 ▸ hf⟩)))
      have HD3 := hid (fun wx (hf : (wx.cell? ⟨w.heap.size, 0, none⟩ = some (.int .i64 e) ∧ wx.cell? ⟨w.heap.size, 1, none⟩ = some (.int .i64 a) ∧ Fr (fun _ => False) w1 wx) ∧ Fr (fun _ => False) w4 wx) => (reftext_calls e a A i c l wx HE.out.1 HI.out.1 (HT.out.fr0 (HF1.out.trans hf.1.2.2)) HN.out h20 hc (HR.out.fr0 (HF1.out.trans hf.1.2.2)) HSA.out).mono (R' := fun ev w' => ev = .returned (.string T) ∧ (w'.cell? ⟨w.heap.size, 0, none⟩ = some (.int .i64 e) ∧ w'.cell? ⟨w.heap.size, 1, none⟩ = some (.int .i64 a) ∧ Fr (fun _ => False) w1 w') ∧ Fr (fun _ => False) w4 w') (fun ev w' h => ⟨by rw [← hTT]; exact h.1, HS.out w' (hf.1.2.2.trans h.2), hf.2.trans h.2⟩))
      have hsay := ch_says (HCH.out.fr H4.out (fun _ _ h => h)) HE.out.1 HI.out.1 (HT.out.fr0 (HF1.out.trans HF4.out)) (fun s hs => by
        obtain ⟨j, hj, rfl⟩ := List.getElem_of_mem (List.mem_reverse.1 hs)
        exact HSA.out j hj) (by rw [List.length_reverse, HN.out]; exact h20)
      rw [hTT] at hsay
      clear hbo hTT
      obtain ⟨p, ⟨hvv, hs⟩ | ⟨hvv, hs⟩⟩ := hsay
      · have HD4 := hid (fun wx (hf : (wx.cell? ⟨w.heap.size, 0, none⟩ = some (.int .i64 e) ∧ wx.cell? ⟨w.heap.size, 1, none⟩ = some (.int .i64 a) ∧ Fr (fun _ => False) w1 wx) ∧ Fr (fun _ => False) w4 wx) => (hs wx hf.2).mono (R' := fun ev w' => ev = .returned (.string T) ∧ (w'.cell? ⟨w.heap.size, 0, none⟩ = some (.int .i64 e) ∧ w'.cell? ⟨w.heap.size, 1, none⟩ = some (.int .i64 a) ∧ Fr (fun _ => False) w1 w') ∧ Fr (fun _ => False) w4 w') (fun ev w' h => ⟨h.1, HS.out w' (hf.1.2.2.trans h.2), hf.2.trans h.2⟩))
        subst hvv
        clear hs
        have HZ := hid (show (w4.cell? ⟨w.heap.size, 0, none⟩ = some (.int .i64 e) ∧ w4.cell? ⟨w.heap.size, 1, none⟩ = some (.int .i64 a) ∧ Fr (fun _ => False) w1 w4) ∧ Fr (fun _ => False) w4 w4 from ⟨HS.out w4 HF4.out, Fr.refl _ _⟩)
        have hb := HE.out.2.2
        go_wp2_with fail
        go_region_held3 (fun w' => (w'.cell? ⟨w.heap.size, 0, none⟩ = some (.int .i64 e) ∧ w'.cell? ⟨w.heap.size, 1, none⟩ = some (.int .i64 a) ∧ Fr (fun _ => False) w1 w') ∧ Fr (fun _ => False) w4 w')
          (first | exact HZ.out | exact ⟨HS.out _ (HF4.out.drew), (Fr.refl _ _).drew⟩ | assumption)
          (first
            | ((go_at_call 60; with_reducible refine (HD3.out _ (by assumption)).mono ?_; rintro e' wz ⟨rfl, hS⟩))
            | ((go_at_call 54; with_reducible refine (HD4.out _ (by assumption)).mono ?_; rintro e' wz ⟨rfl, hS⟩))
            | ((go_invoke; go_at_call 54; with_reducible refine (HD4.out _ (by assumption)).mono ?_; rintro e' wz ⟨rfl, hS⟩)))
        all_goals
          have HZ2 := hid hS
          clear c0 c1
          obtain ⟨⟨c0, c1, _⟩, _⟩ := hS
          go_wp2_with fail
          go_region_held3 (fun w' => (w'.cell? ⟨w.heap.size, 0, none⟩ = some (.int .i64 e) ∧ w'.cell? ⟨w.heap.size, 1, none⟩ = some (.int .i64 a) ∧ Fr (fun _ => False) w1 w') ∧ Fr (fun _ => False) w4 w')
            (first | exact HZ2.out | exact ⟨HS.out _ (HZ2.out.1.2.2.drew), HZ2.out.2.drew⟩ | assumption)
            (first
              | ((go_at_call 56; with_reducible refine (HD0.out _ (by assumption)).mono ?_; rintro e' wz ⟨rfl, hS⟩))
              | ((go_at_call 57; with_reducible refine (HD1.out _ (by assumption)).mono ?_; rintro e' wz ⟨rfl, hS⟩))
              | ((go_at_call 57; with_reducible refine (HD2.out _ (by assumption)).mono ?_; rintro e' wz ⟨rfl, hS⟩)))
          all_goals
            have HFE := hid hS.1.2.2
            clear hS
            go_wp2_with fail
            go_ret
            cases b <;> exact ⟨rfl, HF1.out.trans HFE.out⟩
      · have HD4 := hid (fun wx (hf : (wx.cell? ⟨w.heap.size, 0, none⟩ = some (.int .i64 e) ∧ wx.cell? ⟨w.heap.size, 1, none⟩ = some (.int .i64 a) ∧ Fr (fun _ => False) w1 wx) ∧ Fr (fun _ => False) w4 wx) => (hs wx hf.2).mono (R' := fun ev w' => ev = .returned (.string T) ∧ (w'.cell? ⟨w.heap.size, 0, none⟩ = some (.int .i64 e) ∧ w'.cell? ⟨w.heap.size, 1, none⟩ = some (.int .i64 a) ∧ Fr (fun _ => False) w1 w') ∧ Fr (fun _ => False) w4 w') (fun ev w' h => ⟨h.1, HS.out w' (hf.1.2.2.trans h.2), hf.2.trans h.2⟩))
        subst hvv
        clear hs
        have HZ := hid (show (w4.cell? ⟨w.heap.size, 0, none⟩ = some (.int .i64 e) ∧ w4.cell? ⟨w.heap.size, 1, none⟩ = some (.int .i64 a) ∧ Fr (fun _ => False) w1 w4) ∧ Fr (fun _ => False) w4 w4 from ⟨HS.out w4 HF4.out, Fr.refl _ _⟩)
        have hb := HE.out.2.2
        go_wp2_with fail
        go_region_held3 (fun w' => (w'.cell? ⟨w.heap.size, 0, none⟩ = some (.int .i64 e) ∧ w'.cell? ⟨w.heap.size, 1, none⟩ = some (.int .i64 a) ∧ Fr (fun _ => False) w1 w') ∧ Fr (fun _ => False) w4 w')
          (first | exact HZ.out | exact ⟨HS.out _ (HF4.out.drew), (Fr.refl _ _).drew⟩ | assumption)
          (first
            | ((go_at_call 60; with_reducible refine (HD3.out _ (by assumption)).mono ?_; rintro e' wz ⟨rfl, hS⟩))
            | ((go_at_call 171; with_reducible refine (HD4.out _ (by assumption)).mono ?_; rintro e' wz ⟨rfl, hS⟩))
            | ((go_invoke; go_at_call 171; with_reducible refine (HD4.out _ (by assumption)).mono ?_; rintro e' wz ⟨rfl, hS⟩)))
        all_goals
          have HZ2 := hid hS
          clear c0 c1
          obtain ⟨⟨c0, c1, _⟩, _⟩ := hS
          go_wp2_with fail
          go_region_held3 (fun w' => (w'.cell? ⟨w.heap.size, 0, none⟩ = some (.int .i64 e) ∧ w'.cell? ⟨w.heap.size, 1, none⟩ = some (.int .i64 a) ∧ Fr (fun _ => False) w1 w') ∧ Fr (fun _ => False) w4 w')
            (first | exact HZ2.out | exact ⟨HS.out _ (HZ2.out.1.2.2.drew), HZ2.out.2.drew⟩ | assumption)
            (first
              | ((go_at_call 56; with_reducible refine (HD0.out _ (by assumption)).mono ?_; rintro e' wz ⟨rfl, hS⟩))
              | ((go_at_call 57; with_reducible refine (HD1.out _ (by assumption)).mono ?_; rintro e' wz ⟨rfl, hS⟩))
              | ((go_at_call 57; with_reducible refine (HD2.out _ (by assumption)).mono ?_; rintro e' wz ⟨rfl, hS⟩)))
          all_goals
            have HFE := hid hS.1.2.2
            clear hS
            go_wp2_with fail
            go_ret
            cases b <;> exact ⟨rfl, HF1.out.trans HFE.out⟩
end Go.Proofs.YtkmgiodhaaajjaaDoor.FltG
