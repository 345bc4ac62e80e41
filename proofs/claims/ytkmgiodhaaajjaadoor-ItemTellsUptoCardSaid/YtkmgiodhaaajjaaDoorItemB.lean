/- Layer item: how many; the same, by the program and by the document. -/
import Derived.Test.YtkmgiodhaaajjaaDoorItemA
set_option linter.unusedVariables false
set_option linter.unusedSimpArgs false
namespace Go.Proofs.YtkmgiodhaaajjaaDoor.ItemB
open Go.IntWalk Go.RowKit Go.Proofs.YtkmgiodhaaajjaaDoor.Mem Go.Proofs.YtkmgiodhaaajjaaDoor.ItemP Go.Proofs.YtkmgiodhaaajjaaDoor.ItemM Go.Proofs.YtkmgiodhaaajjaaDoor.Own Go.Proofs.YtkmgiodhaaajjaaDoor.ItemA

theorem cell_fr {w w' : World} {p : Addr} {v : Value} (h : w.cell? p = some v) (hf : Fr (fun _ => False) w w') : w'.cell? p = some v :=
  (hf.cell (World.block_lt_of_cell? w p h) (fun h => h)).trans h
theorem txt_ne {s t : ByteArray} (h : s ≠ t) : (s.toList == t.toList) = false := by
  rw [beq_eq_false_iff_ne, ByteArray.toList_eq, ByteArray.toList_eq]
  intro e
  exact h (ByteArray.ext (Array.toList_inj.1 e))
theorem ret_dec {p q : Prop} [Decidable p] [Decidable q] (h : p ↔ q) : Ending.returned (.bool (decide p)) = .returned (.bool (decide q)) := by rw [decide_eq_decide.2 h]

set_option maxRecDepth 20000 in
set_option maxHeartbeats 2000000 in
theorem size_calls (N : Nat) : ∀ (x : It), x.size ≤ N → N ≤ 2000000 → ∀ (lo hi : Nat) (cs : List Value) (w : World), hi ≤ w.heap.size → ItAt w lo hi x cs →
    Calls Tryd.prog 20 #[.agg cs.toArray] w fun e w' => e = .returned (.int .i64 x.size) ∧ Fr (fun _ => False) w w' := by
  induction N with
  | zero => intro x hx; have := size_pos x; omega
  | succ N ih =>
    intro x hx hN lo hi cs w hh hi_
    obtain ⟨k, n, s, l⟩ := x
    obtain ⟨A, c, rfl, hc, hk, hn, hs, hl, hL⟩ := hi_
    have HIH := hid ih
    have HSZ := hid hx
    have HLB := hid (sizes_length l)
    have hl2 : l.length ≤ 2000000 := by have h1 := HSZ.out; have h2 := HLB.out; simp only [It.size] at h1; omega
    obtain ⟨m, hm⟩ : ∃ m, l.length = m := ⟨_, rfl⟩
    have HM := hid hm
    have HL := hid hL
    have HD := hid (show (It.mk k n s l).size = sizes l + 1 by simp [It.size])
    rw [hm] at hc hl2 ⊢
    clear ih hx hL hm hk hn hs hl
    obtain ⟨w1, hw1⟩ : ∃ w1, w.alloc (.cells #[.int .i64 k, .int .u64 n, .string s, .slice A m c] 25) = w1 := ⟨_, rfl⟩
    have HF1 := hid (show Fr (fun _ => False) w w1 by rw [← hw1]; exact (Fr.refl _ w).alloc _)
    have HW1 := hid hw1
    clear hw1
    go_enter Tryd.func20, Tryd.ntmps20
    go_wp2_with fail
    rw [HW1.out]
    go_loopw [3, 9] (fun mo i wr => ∃ j z : Nat, j ≤ m ∧ z ≤ 2000001 ∧ i = .int .i64 j ∧ mo = .int .i64 z ∧ Hid (z = sizes (l.take j) + 1) ∧ Hid (Fr (fun _ => False) w wr)) (fun _ i _ => m - (intOf i).toNat)
    case atStart => exact ⟨0, 1, Nat.zero_le _, by omega, rfl, rfl, hid (by simp [sizes]), HF1⟩
    case round =>
      obtain ⟨j, z, hj, hz, rfl, rfl, HZ, HF⟩ := hrel
      by_cases hlt : j < m
      · obtain ⟨ad, k', n', s', l', A', c', rfl, _, hab, hx', c0, c1, c2, c3, hch⟩ := ItsAt.kid (ItsAt.fr0 HL.out HF.out hh) j (by rw [HM.out]; exact hlt)
        have HS := hid (sizes_take_succ l j (by rw [HM.out]; exact hlt))
        rw [hx'] at HS
        have HCZ := hid (show (It.mk k' n' s' l').size ≤ N by have := size_get k n s l j (by rw [HM.out]; exact hlt); rw [hx'] at this; have := HSZ.out; omega)
        have HCH := hid hch
        have hj0 : (0 : Int) ≤ (j : Int) := by omega
        have hjm : (j : Int) < (m : Int) := by omega
        have hjc : (j : Int) < (c : Int) := by omega
        have HDJ := hid (show sizes (l.take (j + 1)) ≤ 2000000 by
          have h2 := sizes_take_le l (j + 1)
          have h3 := HSZ.out
          simp only [It.size] at h3; omega)
        have HSL := hid (show hi ≤ wr.heap.size from Nat.le_trans hh HF.out.size)
        clear hx' hch
        go_wp2_with fail
        refine (HIH.out _ HCZ.out (by omega) lo hi _ _ (by simp; have := HSL.out; omega) (HCH.out.fr0 ((Fr.refl _ wr).alloc _) HSL.out)).mono ?_
        rintro e w2 ⟨rfl, hf⟩
        have HF2 := hid ((HF.out.alloc _).then_ hf (fun _ _ h => h))
        obtain ⟨y, hy⟩ : ∃ y, (It.mk k' n' s' l').size = y := ⟨_, rfl⟩
        have HY := hid hy
        have hy2 : y ≤ 2000000 := by have := HCZ.out; omega
        rw [hy]
        clear hf hy c0 c1 c2 c3
        go_wp2_with fail
        go_roundw
        case rel => exact ⟨j + 1, z + y, by omega, by have h1 := HZ.out; have h2 := HS.out; have h3 := HDJ.out; have h4 := HY.out; omega, by go_num, by go_num, hid (by have h1 := HZ.out; have h2 := HS.out; have h4 := HY.out; omega), HF2⟩
        case measure => simp [intOf]; omega
      · obtain rfl : j = m := by omega
        have HE := hid (show z = sizes l + 1 by have := HZ.out; rwa [List.take_of_length_le (by rw [HM.out]; omega)] at this)
        go_wp2_with fail
        go_ret
        refine ⟨?_, HF.out⟩
        rw [HD.out, ← HE.out]
        rfl

set_option maxRecDepth 20000 in
set_option maxHeartbeats 4000000 in
theorem same_calls (N : Nat) : ∀ (x y : It), x.size ≤ N → N ≤ 2000000 → ∀ (lo hi lo' hi' : Nat) (cs ds : List Value) (w : World), hi ≤ w.heap.size → hi' ≤ w.heap.size → ItAt w lo hi x cs → ItAt w lo' hi' y ds →
    Calls Tryd.prog 24 #[.agg cs.toArray, .agg ds.toArray] w fun e w' => e = .returned (.bool (decide (x = y))) ∧ Fr (fun _ => False) w w' := by
  induction N with
  | zero => intro x y hx; have := size_pos x; omega
  | succ N ih =>
    intro x y hx hN lo hi lo' hi' cs ds w hh hh' hi_ hi2_
    obtain ⟨k, n, s, l⟩ := x
    obtain ⟨k', n', s', l'⟩ := y
    obtain ⟨A, c, rfl, hc, hk, hn, hs, hl, hL⟩ := hi_
    obtain ⟨A', c', rfl, hc', hk', hn', hs', hl', hL'⟩ := hi2_
    have HIH := hid ih
    have HSZ := hid hx
    have HLB := hid (sizes_length l)
    have hl2 : l.length ≤ 2000000 := by have h1 := HSZ.out; have h2 := HLB.out; simp only [It.size] at h1; omega
    obtain ⟨m, hm⟩ : ∃ m, l.length = m := ⟨_, rfl⟩
    obtain ⟨m', hm'⟩ : ∃ m', l'.length = m' := ⟨_, rfl⟩
    have HM := hid hm
    have HM' := hid hm'
    have HL := hid hL
    have HL' := hid hL'
    have HEQ := hid (show It.mk k n s l = It.mk k' n' s' l' ↔ k = k' ∧ n = n' ∧ s = s' ∧ l = l' from It.mk.injEq .. ▸ Iff.rfl)
    obtain ⟨r, hr⟩ : ∃ r, decide (It.mk k n s l = It.mk k' n' s' l') = r := ⟨_, rfl⟩
    have HRR := hid hr
    rw [hr]
    rw [hm] at hc hl2 ⊢
    rw [hm'] at hc' hl' ⊢
    clear hr ih hx hL hL' hm hm' hk hn hs hl hk' hn' hs'
    obtain ⟨w1, hw1⟩ : ∃ w1, (w.alloc (.cells #[.int .i64 k, .int .u64 n, .string s, .slice A m c] 25)).alloc (.cells #[.int .i64 k', .int .u64 n', .string s', .slice A' m' c'] 25) = w1 := ⟨_, rfl⟩
    have HF1 := hid (show Fr (fun _ => False) w w1 by rw [← hw1]; exact ((Fr.refl _ w).alloc _).alloc _)
    have hb1 : Blk w1 w.heap.size 25 #[.int .i64 k, .int .u64 n, .string s, .slice A m c] := by rw [← hw1]; exact (Blk.new w _ _).alloc _
    have hb2 : Blk w1 (w.heap.size + 1) 25 #[.int .i64 k', .int .u64 n', .string s', .slice A' m' c'] := by
      rw [← hw1]
      have h := Blk.new (w.alloc (.cells #[.int .i64 k, .int .u64 n, .string s, .slice A m c] 25)) 25 #[.int .i64 k', .int .u64 n', .string s', .slice A' m' c']
      rwa [show (w.alloc (.cells #[.int .i64 k, .int .u64 n, .string s, .slice A m c] 25)).heap.size = w.heap.size + 1 by simp] at h
    have HB1 := hid hb1
    have HB2 := hid hb2
    have HW1 := hid hw1
    clear hw1 hb1 hb2
    by_cases hkk : k = k'
    case neg =>
      have e1 : (k != k') = true := bne_iff_ne.2 hkk
      have HR := hid (show ¬ (It.mk k n s l = It.mk k' n' s' l') from fun h => hkk (HEQ.out.1 h).1)
      clear hkk
      go_enter Tryd.func24, Tryd.ntmps24
      go_wp2_with fail
      go_ret
      rw [HW1.out]
      exact ⟨ret_bool (by rw [← HRR.out]; exact (decide_eq_false HR.out).symm), HF1.out⟩
    case pos =>
    subst hkk
    by_cases hnn : n = n'
    case neg =>
      have e1 : (n != n') = true := bne_iff_ne.2 hnn
      have e2 : ((n : Int) != (n' : Int)) = true := bne_iff_ne.2 (by omega)
      have HR := hid (show ¬ (It.mk k n s l = It.mk k n' s' l') from fun h => hnn (HEQ.out.1 h).2.1)
      clear hnn
      go_enter Tryd.func24, Tryd.ntmps24
      go_wp2_with fail
      go_ret
      rw [HW1.out]
      exact ⟨ret_bool (by rw [← HRR.out]; exact (decide_eq_false HR.out).symm), HF1.out⟩
    case pos =>
    subst hnn
    by_cases hss : s = s'
    case neg =>
      have e1 := txt_ne hss
      have e2 : (s.toList != s'.toList) = true := by simp [bne, e1]
      have HR := hid (show ¬ (It.mk k n s l = It.mk k n s' l') from fun h => hss (HEQ.out.1 h).2.2.1)
      clear hss
      go_enter Tryd.func24, Tryd.ntmps24
      go_wp2_with fail
      go_ret
      rw [HW1.out]
      exact ⟨ret_bool (by rw [← HRR.out]; exact (decide_eq_false HR.out).symm), HF1.out⟩
    case pos =>
    subst hss
    by_cases hmm : m = m'
    case neg =>
      have e1 : (m != m') = true := bne_iff_ne.2 hmm
      have e2 : ((m : Int) != (m' : Int)) = true := bne_iff_ne.2 (by omega)
      have HR := hid (show ¬ (It.mk k n s l = It.mk k n s l') from fun h => hmm (by rw [← HM.out, ← HM'.out, (HEQ.out.1 h).2.2.2]))
      clear hmm
      go_enter Tryd.func24, Tryd.ntmps24
      go_wp2_with fail
      go_ret
      rw [HW1.out]
      exact ⟨ret_bool (by rw [← HRR.out]; exact (decide_eq_false HR.out).symm), HF1.out⟩
    case pos =>
    subst hmm
    have HEL := hid (show It.mk k n s l = It.mk k n s l' ↔ l = l' by rw [HEQ.out]; simp)
    clear HEQ
    go_enter Tryd.func24, Tryd.ntmps24
    go_wp2_with fail
    rw [HW1.out]
    go_loopw [37] (fun i wr => ∃ j : Nat, j ≤ m ∧ i = .int .i64 j ∧ Hid (l.take j = l'.take j) ∧ Hid (Fr (fun _ => False) w1 wr)) (fun i _ => m - (intOf i).toNat)
    case atStart => exact ⟨0, Nat.zero_le _, rfl, hid (by simp), hid (Fr.refl _ _)⟩
    case round =>
      obtain ⟨j, hj, rfl, HT, HF⟩ := hrel
      have b1 := cell_fr (HB1.out.cell 3) HF.out
      have b2 := cell_fr (HB2.out.cell 3) HF.out
      by_cases hlt : j < m
      · have HFw := hid (HF1.out.trans HF.out)
        obtain ⟨ad, k1, n1, s1, l1, A1, d1, rfl, _, hab, hx1, c0, c1, c2, c3, hch1⟩ := ItsAt.kid (ItsAt.fr0 HL.out HFw.out hh) j (by rw [HM.out]; exact hlt)
        obtain ⟨ad', k2, n2, s2, l2, A2, d2, rfl, _, hab', hx2, g0, g1, g2, g3, hch2⟩ := ItsAt.kid (ItsAt.fr0 HL'.out HFw.out hh') j (by rw [HM'.out]; exact hlt)
        have HCZ := hid (show (It.mk k1 n1 s1 l1).size ≤ N by have := size_get k n s l j (by rw [HM.out]; exact hlt); rw [hx1] at this; have := HSZ.out; omega)
        have HC1 := hid hch1
        have HC2 := hid hch2
        have HX1 := hid hx1
        have HX2 := hid hx2
        have HSL := hid (show hi ≤ wr.heap.size from Nat.le_trans hh HFw.out.size)
        have HSL' := hid (show hi' ≤ wr.heap.size from Nat.le_trans hh' HFw.out.size)
        have hj0 : (0 : Int) ≤ (j : Int) := by omega
        have hjm : (j : Int) < (m : Int) := by omega
        have hjc : (j : Int) < (c : Int) := by omega
        have hjc' : (j : Int) < (c' : Int) := by omega
        have HSF := hid (show ∀ w', Fr (fun _ => False) wr w' → w'.cell? ⟨w.heap.size, 3, none⟩ = some (.slice (some ad) m c) ∧ w'.cell? ⟨w.heap.size + 1, 3, none⟩ = some (.slice (some ad') m c') ∧ w'.cell? (ad.add (j * 4)) = some (.int .i64 k1) ∧ w'.cell? ⟨(ad.add (j * 4)).block, (ad.add (j * 4)).off + 1, none⟩ = some (.int .u64 n1) ∧ w'.cell? ⟨(ad.add (j * 4)).block, (ad.add (j * 4)).off + 2, none⟩ = some (.string s1) ∧ w'.cell? ⟨(ad.add (j * 4)).block, (ad.add (j * 4)).off + 3, none⟩ = some (.slice A1 l1.length d1) ∧ w'.cell? (ad'.add (j * 4)) = some (.int .i64 k2) ∧ w'.cell? ⟨(ad'.add (j * 4)).block, (ad'.add (j * 4)).off + 1, none⟩ = some (.int .u64 n2) ∧ w'.cell? ⟨(ad'.add (j * 4)).block, (ad'.add (j * 4)).off + 2, none⟩ = some (.string s2) ∧ w'.cell? ⟨(ad'.add (j * 4)).block, (ad'.add (j * 4)).off + 3, none⟩ = some (.slice A2 l2.length d2) from fun w' hf => ⟨cell_fr b1 hf, cell_fr b2 hf, cell_fr c0 hf, cell_fr c1 hf, cell_fr c2 hf, cell_fr c3 hf, cell_fr g0 hf, cell_fr g1 hf, cell_fr g2 hf, cell_fr g3 hf⟩)
        clear hx1 hx2 hch1 hch2
        by_cases heq : It.mk k1 n1 s1 l1 = It.mk k2 n2 s2 l2
        · have hde := decide_eq_true heq
          have HQ := hid heq
          clear heq
          go_wp2_with fail
          go_region_held3 (fun w' => w'.cell? ⟨w.heap.size, 3, none⟩ = some (.slice (some ad) m c) ∧ w'.cell? ⟨w.heap.size + 1, 3, none⟩ = some (.slice (some ad') m c') ∧ w'.cell? (ad.add (j * 4)) = some (.int .i64 k1) ∧ w'.cell? ⟨(ad.add (j * 4)).block, (ad.add (j * 4)).off + 1, none⟩ = some (.int .u64 n1) ∧ w'.cell? ⟨(ad.add (j * 4)).block, (ad.add (j * 4)).off + 2, none⟩ = some (.string s1) ∧ w'.cell? ⟨(ad.add (j * 4)).block, (ad.add (j * 4)).off + 3, none⟩ = some (.slice A1 l1.length d1) ∧ w'.cell? (ad'.add (j * 4)) = some (.int .i64 k2) ∧ w'.cell? ⟨(ad'.add (j * 4)).block, (ad'.add (j * 4)).off + 1, none⟩ = some (.int .u64 n2) ∧ w'.cell? ⟨(ad'.add (j * 4)).block, (ad'.add (j * 4)).off + 2, none⟩ = some (.string s2) ∧ w'.cell? ⟨(ad'.add (j * 4)).block, (ad'.add (j * 4)).off + 3, none⟩ = some (.slice A2 l2.length d2))
            (first | exact HSF.out _ (Fr.refl _ _).drew | exact HSF.out _ (Fr.refl _ _) | exact HSF.out _ hfr.out)
            (first | ((go_at_call 24; refine (HIH.out (It.mk k1 n1 s1 l1) (It.mk k2 n2 s2 l2) HCZ.out (by omega) lo hi lo' hi' _ _ wr.drew HSL.out HSL'.out (HC1.out.fr0 (Fr.drew (Fr.refl (fun _ => False) wr)) HSL.out) (HC2.out.fr0 (Fr.drew (Fr.refl (fun _ => False) wr)) HSL'.out)).mono ?_; rintro e w2 ⟨rfl, hf⟩; have hfr := hid (((Fr.refl (fun _ => False) wr).drew).then_ hf (fun _ _ h => h)); rw [hde])))
          all_goals
            go_wp2_with fail
            go_roundw
            case rel => exact ⟨j + 1, by omega, by go_num, hid (by rw [List.take_succ_eq_append_getElem (by rw [HM.out]; exact hlt), List.take_succ_eq_append_getElem (by rw [HM'.out]; exact hlt), HT.out, HX1.out, HX2.out, HQ.out]), hid (HF.out.trans hfr.out)⟩
            case measure => simp [intOf]; omega
        · have hde := decide_eq_false heq
          have HQ := hid (show ¬ (It.mk k n s l = It.mk k n s l') from fun h => heq (by
            have e := HEL.out.1 h
            subst e
            exact HX1.out.symm.trans HX2.out))
          clear heq
          go_wp2_with fail
          go_region_held3 (fun w' => w'.cell? ⟨w.heap.size, 3, none⟩ = some (.slice (some ad) m c) ∧ w'.cell? ⟨w.heap.size + 1, 3, none⟩ = some (.slice (some ad') m c') ∧ w'.cell? (ad.add (j * 4)) = some (.int .i64 k1) ∧ w'.cell? ⟨(ad.add (j * 4)).block, (ad.add (j * 4)).off + 1, none⟩ = some (.int .u64 n1) ∧ w'.cell? ⟨(ad.add (j * 4)).block, (ad.add (j * 4)).off + 2, none⟩ = some (.string s1) ∧ w'.cell? ⟨(ad.add (j * 4)).block, (ad.add (j * 4)).off + 3, none⟩ = some (.slice A1 l1.length d1) ∧ w'.cell? (ad'.add (j * 4)) = some (.int .i64 k2) ∧ w'.cell? ⟨(ad'.add (j * 4)).block, (ad'.add (j * 4)).off + 1, none⟩ = some (.int .u64 n2) ∧ w'.cell? ⟨(ad'.add (j * 4)).block, (ad'.add (j * 4)).off + 2, none⟩ = some (.string s2) ∧ w'.cell? ⟨(ad'.add (j * 4)).block, (ad'.add (j * 4)).off + 3, none⟩ = some (.slice A2 l2.length d2))
            (first | exact HSF.out _ (Fr.refl _ _).drew | exact HSF.out _ (Fr.refl _ _) | exact HSF.out _ hfr.out)
            (first | ((go_at_call 24; refine (HIH.out (It.mk k1 n1 s1 l1) (It.mk k2 n2 s2 l2) HCZ.out (by omega) lo hi lo' hi' _ _ wr.drew HSL.out HSL'.out (HC1.out.fr0 (Fr.drew (Fr.refl (fun _ => False) wr)) HSL.out) (HC2.out.fr0 (Fr.drew (Fr.refl (fun _ => False) wr)) HSL'.out)).mono ?_; rintro e w2 ⟨rfl, hf⟩; have hfr := hid (((Fr.refl (fun _ => False) wr).drew).then_ hf (fun _ _ h => h)); rw [hde])))
          all_goals
            go_wp2_with fail
            go_ret
            exact ⟨ret_bool (by rw [← HRR.out]; exact (decide_eq_false HQ.out).symm), (HF1.out.trans HF.out).trans hfr.out⟩
      · obtain rfl : j = m := by omega
        have HQ := hid (show It.mk k n s l = It.mk k n s l' from HEL.out.2 (by
          have := HT.out
          rwa [List.take_of_length_le (by rw [HM.out]; omega), List.take_of_length_le (by rw [HM'.out]; omega)] at this))
        go_wp2_with fail
        go_ret
        exact ⟨ret_bool (by rw [← HRR.out]; exact (decide_eq_true HQ.out).symm), HF1.out.trans HF.out⟩

set_option maxRecDepth 20000 in
set_option maxHeartbeats 4000000 in
theorem refsame_calls (N : Nat) : ∀ (x y : It), x.size ≤ N → N ≤ 2000000 → ∀ (lo hi lo' hi' : Nat) (cs ds : List Value) (w : World), hi ≤ w.heap.size → hi' ≤ w.heap.size → ItAt w lo hi x cs → ItAt w lo' hi' y ds →
    Calls Tryd.prog 23 #[.agg cs.toArray, .agg ds.toArray] w fun e w' => e = .returned (.bool (decide (x = y))) ∧ Fr (fun _ => False) w w' := by
  induction N with
  | zero => intro x y hx; have := size_pos x; omega
  | succ N ih =>
    intro x y hx hN lo hi lo' hi' cs ds w hh hh' hi_ hi2_
    obtain ⟨k, n, s, l⟩ := x
    obtain ⟨k', n', s', l'⟩ := y
    obtain ⟨A, c, rfl, hc, hk, hn, hs, hl, hL⟩ := hi_
    obtain ⟨A', c', rfl, hc', hk', hn', hs', hl', hL'⟩ := hi2_
    have HIH := hid ih
    have HSZ := hid hx
    have HLB := hid (sizes_length l)
    have hl2 : l.length ≤ 2000000 := by have h1 := HSZ.out; have h2 := HLB.out; simp only [It.size] at h1; omega
    obtain ⟨m, hm⟩ : ∃ m, l.length = m := ⟨_, rfl⟩
    obtain ⟨m', hm'⟩ : ∃ m', l'.length = m' := ⟨_, rfl⟩
    have HM := hid hm
    have HM' := hid hm'
    have HL := hid hL
    have HL' := hid hL'
    have HEQ := hid (show It.mk k n s l = It.mk k' n' s' l' ↔ k = k' ∧ n = n' ∧ s = s' ∧ l = l' from It.mk.injEq .. ▸ Iff.rfl)
    obtain ⟨r, hr⟩ : ∃ r, decide (It.mk k n s l = It.mk k' n' s' l') = r := ⟨_, rfl⟩
    have HRR := hid hr
    rw [hr]
    rw [hm] at hc hl2 ⊢
    rw [hm'] at hc' hl' ⊢
    clear hr ih hx hL hL' hm hm' hk hn hs hl hk' hn' hs'
    obtain ⟨w1, hw1⟩ : ∃ w1, (w.alloc (.cells #[.int .i64 k, .int .u64 n, .string s, .slice A m c] 25)).alloc (.cells #[.int .i64 k', .int .u64 n', .string s', .slice A' m' c'] 25) = w1 := ⟨_, rfl⟩
    have HF1 := hid (show Fr (fun _ => False) w w1 by rw [← hw1]; exact ((Fr.refl _ w).alloc _).alloc _)
    have hb1 : Blk w1 w.heap.size 25 #[.int .i64 k, .int .u64 n, .string s, .slice A m c] := by rw [← hw1]; exact (Blk.new w _ _).alloc _
    have hb2 : Blk w1 (w.heap.size + 1) 25 #[.int .i64 k', .int .u64 n', .string s', .slice A' m' c'] := by
      rw [← hw1]
      have h := Blk.new (w.alloc (.cells #[.int .i64 k, .int .u64 n, .string s, .slice A m c] 25)) 25 #[.int .i64 k', .int .u64 n', .string s', .slice A' m' c']
      rwa [show (w.alloc (.cells #[.int .i64 k, .int .u64 n, .string s, .slice A m c] 25)).heap.size = w.heap.size + 1 by simp] at h
    have HB1 := hid hb1
    have HB2 := hid hb2
    have HW1 := hid hw1
    clear hw1 hb1 hb2
    by_cases hkk : k = k'
    case neg =>
      have e1 : (k != k') = true := bne_iff_ne.2 hkk
      have HR := hid (show ¬ (It.mk k n s l = It.mk k' n' s' l') from fun h => hkk (HEQ.out.1 h).1)
      clear hkk
      go_enter Tryd.func23, Tryd.ntmps23
      go_wp2_with fail
      go_ret
      rw [HW1.out]
      exact ⟨ret_bool (by rw [← HRR.out]; exact (decide_eq_false HR.out).symm), HF1.out⟩
    case pos =>
    subst hkk
    by_cases hnn : n = n'
    case neg =>
      have e1 : (n != n') = true := bne_iff_ne.2 hnn
      have e2 : ((n : Int) != (n' : Int)) = true := bne_iff_ne.2 (by omega)
      have HR := hid (show ¬ (It.mk k n s l = It.mk k n' s' l') from fun h => hnn (HEQ.out.1 h).2.1)
      clear hnn
      go_enter Tryd.func23, Tryd.ntmps23
      go_wp2_with fail
      go_ret
      rw [HW1.out]
      exact ⟨ret_bool (by rw [← HRR.out]; exact (decide_eq_false HR.out).symm), HF1.out⟩
    case pos =>
    subst hnn
    by_cases hss : s = s'
    case neg =>
      have e1 := txt_ne hss
      have e2 : (s.toList != s'.toList) = true := by simp [bne, e1]
      have HR := hid (show ¬ (It.mk k n s l = It.mk k n s' l') from fun h => hss (HEQ.out.1 h).2.2.1)
      clear hss
      go_enter Tryd.func23, Tryd.ntmps23
      go_wp2_with fail
      go_ret
      rw [HW1.out]
      exact ⟨ret_bool (by rw [← HRR.out]; exact (decide_eq_false HR.out).symm), HF1.out⟩
    case pos =>
    subst hss
    by_cases hmm : m = m'
    case neg =>
      have e1 : (m != m') = true := bne_iff_ne.2 hmm
      have e2 : ((m : Int) != (m' : Int)) = true := bne_iff_ne.2 (by omega)
      have HR := hid (show ¬ (It.mk k n s l = It.mk k n s l') from fun h => hmm (by rw [← HM.out, ← HM'.out, (HEQ.out.1 h).2.2.2]))
      clear hmm
      go_enter Tryd.func23, Tryd.ntmps23
      go_wp2_with fail
      go_ret
      rw [HW1.out]
      exact ⟨ret_bool (by rw [← HRR.out]; exact (decide_eq_false HR.out).symm), HF1.out⟩
    case pos =>
    subst hmm
    have HEL := hid (show It.mk k n s l = It.mk k n s l' ↔ l = l' by rw [HEQ.out]; simp)
    clear HEQ
    go_enter Tryd.func23, Tryd.ntmps23
    go_wp2_with fail
    rw [HW1.out]
    go_loopw [5] (fun i wr => ∃ j : Nat, j ≤ m ∧ i = .int .i64 j ∧ Hid (l.take j = l'.take j) ∧ Hid (Fr (fun _ => False) w1 wr)) (fun i _ => m - (intOf i).toNat)
    case atStart => exact ⟨0, Nat.zero_le _, rfl, hid (by simp), hid (Fr.refl _ _)⟩
    case round =>
      obtain ⟨j, hj, rfl, HT, HF⟩ := hrel
      have b1 := cell_fr (HB1.out.cell 3) HF.out
      have b2 := cell_fr (HB2.out.cell 3) HF.out
      by_cases hlt : j < m
      · have HFw := hid (HF1.out.trans HF.out)
        obtain ⟨ad, k1, n1, s1, l1, A1, d1, rfl, _, hab, hx1, c0, c1, c2, c3, hch1⟩ := ItsAt.kid (ItsAt.fr0 HL.out HFw.out hh) j (by rw [HM.out]; exact hlt)
        obtain ⟨ad', k2, n2, s2, l2, A2, d2, rfl, _, hab', hx2, g0, g1, g2, g3, hch2⟩ := ItsAt.kid (ItsAt.fr0 HL'.out HFw.out hh') j (by rw [HM'.out]; exact hlt)
        have HCZ := hid (show (It.mk k1 n1 s1 l1).size ≤ N by have := size_get k n s l j (by rw [HM.out]; exact hlt); rw [hx1] at this; have := HSZ.out; omega)
        have HC1 := hid hch1
        have HC2 := hid hch2
        have HX1 := hid hx1
        have HX2 := hid hx2
        have HSL := hid (show hi ≤ wr.heap.size from Nat.le_trans hh HFw.out.size)
        have HSL' := hid (show hi' ≤ wr.heap.size from Nat.le_trans hh' HFw.out.size)
        have hj0 : (0 : Int) ≤ (j : Int) := by omega
        have hjm : (j : Int) < (m : Int) := by omega
        have hjc : (j : Int) < (c : Int) := by omega
        have hjc' : (j : Int) < (c' : Int) := by omega
        have HSF := hid (show ∀ w', Fr (fun _ => False) wr w' → w'.cell? ⟨w.heap.size, 3, none⟩ = some (.slice (some ad) m c) ∧ w'.cell? ⟨w.heap.size + 1, 3, none⟩ = some (.slice (some ad') m c') ∧ w'.cell? (ad.add (j * 4)) = some (.int .i64 k1) ∧ w'.cell? ⟨(ad.add (j * 4)).block, (ad.add (j * 4)).off + 1, none⟩ = some (.int .u64 n1) ∧ w'.cell? ⟨(ad.add (j * 4)).block, (ad.add (j * 4)).off + 2, none⟩ = some (.string s1) ∧ w'.cell? ⟨(ad.add (j * 4)).block, (ad.add (j * 4)).off + 3, none⟩ = some (.slice A1 l1.length d1) ∧ w'.cell? (ad'.add (j * 4)) = some (.int .i64 k2) ∧ w'.cell? ⟨(ad'.add (j * 4)).block, (ad'.add (j * 4)).off + 1, none⟩ = some (.int .u64 n2) ∧ w'.cell? ⟨(ad'.add (j * 4)).block, (ad'.add (j * 4)).off + 2, none⟩ = some (.string s2) ∧ w'.cell? ⟨(ad'.add (j * 4)).block, (ad'.add (j * 4)).off + 3, none⟩ = some (.slice A2 l2.length d2) from fun w' hf => ⟨cell_fr b1 hf, cell_fr b2 hf, cell_fr c0 hf, cell_fr c1 hf, cell_fr c2 hf, cell_fr c3 hf, cell_fr g0 hf, cell_fr g1 hf, cell_fr g2 hf, cell_fr g3 hf⟩)
        clear hx1 hx2 hch1 hch2
        by_cases heq : It.mk k1 n1 s1 l1 = It.mk k2 n2 s2 l2
        · have hde := decide_eq_true heq
          have HQ := hid heq
          clear heq
          go_wp2_with fail
          go_region_held3 (fun w' => w'.cell? ⟨w.heap.size, 3, none⟩ = some (.slice (some ad) m c) ∧ w'.cell? ⟨w.heap.size + 1, 3, none⟩ = some (.slice (some ad') m c') ∧ w'.cell? (ad.add (j * 4)) = some (.int .i64 k1) ∧ w'.cell? ⟨(ad.add (j * 4)).block, (ad.add (j * 4)).off + 1, none⟩ = some (.int .u64 n1) ∧ w'.cell? ⟨(ad.add (j * 4)).block, (ad.add (j * 4)).off + 2, none⟩ = some (.string s1) ∧ w'.cell? ⟨(ad.add (j * 4)).block, (ad.add (j * 4)).off + 3, none⟩ = some (.slice A1 l1.length d1) ∧ w'.cell? (ad'.add (j * 4)) = some (.int .i64 k2) ∧ w'.cell? ⟨(ad'.add (j * 4)).block, (ad'.add (j * 4)).off + 1, none⟩ = some (.int .u64 n2) ∧ w'.cell? ⟨(ad'.add (j * 4)).block, (ad'.add (j * 4)).off + 2, none⟩ = some (.string s2) ∧ w'.cell? ⟨(ad'.add (j * 4)).block, (ad'.add (j * 4)).off + 3, none⟩ = some (.slice A2 l2.length d2))
            (first | exact HSF.out _ (Fr.refl _ _).drew | exact HSF.out _ (Fr.refl _ _) | exact HSF.out _ hfr.out)
            (first | ((go_at_call 23; refine (HIH.out (It.mk k1 n1 s1 l1) (It.mk k2 n2 s2 l2) HCZ.out (by omega) lo hi lo' hi' _ _ wr.drew HSL.out HSL'.out (HC1.out.fr0 (Fr.drew (Fr.refl (fun _ => False) wr)) HSL.out) (HC2.out.fr0 (Fr.drew (Fr.refl (fun _ => False) wr)) HSL'.out)).mono ?_; rintro e w2 ⟨rfl, hf⟩; have hfr := hid (((Fr.refl (fun _ => False) wr).drew).then_ hf (fun _ _ h => h)); rw [hde])))
          all_goals
            go_wp2_with fail
            go_roundw
            case rel => exact ⟨j + 1, by omega, by go_num, hid (by rw [List.take_succ_eq_append_getElem (by rw [HM.out]; exact hlt), List.take_succ_eq_append_getElem (by rw [HM'.out]; exact hlt), HT.out, HX1.out, HX2.out, HQ.out]), hid (HF.out.trans hfr.out)⟩
            case measure => simp [intOf]; omega
        · have hde := decide_eq_false heq
          have HQ := hid (show ¬ (It.mk k n s l = It.mk k n s l') from fun h => heq (by
            have e := HEL.out.1 h
            subst e
            exact HX1.out.symm.trans HX2.out))
          clear heq
          go_wp2_with fail
          go_region_held3 (fun w' => w'.cell? ⟨w.heap.size, 3, none⟩ = some (.slice (some ad) m c) ∧ w'.cell? ⟨w.heap.size + 1, 3, none⟩ = some (.slice (some ad') m c') ∧ w'.cell? (ad.add (j * 4)) = some (.int .i64 k1) ∧ w'.cell? ⟨(ad.add (j * 4)).block, (ad.add (j * 4)).off + 1, none⟩ = some (.int .u64 n1) ∧ w'.cell? ⟨(ad.add (j * 4)).block, (ad.add (j * 4)).off + 2, none⟩ = some (.string s1) ∧ w'.cell? ⟨(ad.add (j * 4)).block, (ad.add (j * 4)).off + 3, none⟩ = some (.slice A1 l1.length d1) ∧ w'.cell? (ad'.add (j * 4)) = some (.int .i64 k2) ∧ w'.cell? ⟨(ad'.add (j * 4)).block, (ad'.add (j * 4)).off + 1, none⟩ = some (.int .u64 n2) ∧ w'.cell? ⟨(ad'.add (j * 4)).block, (ad'.add (j * 4)).off + 2, none⟩ = some (.string s2) ∧ w'.cell? ⟨(ad'.add (j * 4)).block, (ad'.add (j * 4)).off + 3, none⟩ = some (.slice A2 l2.length d2))
            (first | exact HSF.out _ (Fr.refl _ _).drew | exact HSF.out _ (Fr.refl _ _) | exact HSF.out _ hfr.out)
            (first | ((go_at_call 23; refine (HIH.out (It.mk k1 n1 s1 l1) (It.mk k2 n2 s2 l2) HCZ.out (by omega) lo hi lo' hi' _ _ wr.drew HSL.out HSL'.out (HC1.out.fr0 (Fr.drew (Fr.refl (fun _ => False) wr)) HSL.out) (HC2.out.fr0 (Fr.drew (Fr.refl (fun _ => False) wr)) HSL'.out)).mono ?_; rintro e w2 ⟨rfl, hf⟩; have hfr := hid (((Fr.refl (fun _ => False) wr).drew).then_ hf (fun _ _ h => h)); rw [hde])))
          all_goals
            go_wp2_with fail
            go_ret
            exact ⟨ret_bool (by rw [← HRR.out]; exact (decide_eq_false HQ.out).symm), (HF1.out.trans HF.out).trans hfr.out⟩
      · obtain rfl : j = m := by omega
        have HQ := hid (show It.mk k n s l = It.mk k n s l' from HEL.out.2 (by
          have := HT.out
          rwa [List.take_of_length_le (by rw [HM.out]; omega), List.take_of_length_le (by rw [HM'.out]; omega)] at this))
        go_wp2_with fail
        go_ret
        exact ⟨ret_bool (by rw [← HRR.out]; exact (decide_eq_true HQ.out).symm), HF1.out.trans HF.out⟩
end Go.Proofs.YtkmgiodhaaajjaaDoor.ItemB
