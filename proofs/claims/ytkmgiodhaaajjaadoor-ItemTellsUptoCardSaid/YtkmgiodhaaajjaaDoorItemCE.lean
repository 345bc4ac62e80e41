/- Layer item: form, twice. Layer item: is a key there twice? Layer item: what is wrong with an item by itself. -/
import Derived.Test.YtkmgiodhaaajjaaDoorItemB
import Derived.Test.YtkmgiodhaaajjaaDoorFloatB
import Derived.Test.YtkmgiodhaaajjaaDoorUtfB
set_option linter.unusedVariables false
set_option linter.unusedSimpArgs false
namespace Go.Proofs.YtkmgiodhaaajjaaDoor.ItemC
open Go.IntWalk Go.RowKit Go.Proofs.YtkmgiodhaaajjaaDoor.Mem Go.Proofs.YtkmgiodhaaajjaaDoor.ItemP Go.Proofs.YtkmgiodhaaajjaaDoor.ItemM Go.Proofs.YtkmgiodhaaajjaaDoor.Own Go.Proofs.YtkmgiodhaaajjaaDoor.ItemA Go.Proofs.YtkmgiodhaaajjaaDoor.ItemB

theorem emp_iff (s : ByteArray) : s.toList = [] ↔ s.size = 0 := by
  rw [ByteArray.toList_eq]
  constructor
  · intro h
    have := congrArg List.length h
    simpa using this
  · intro h
    exact List.eq_nil_of_length_eq_zero (by simpa using h)
theorem form_kind (k : Int) : (k = 0 ∨ k = 1 ∨ k = 7 ∨ k = 8) ∨ (k = 2 ∨ k = 3) ∨ k = 4 ∨ k = 5 ∨ k = 6 ∨ (k ≠ 0 ∧ k ≠ 1 ∧ k ≠ 2 ∧ k ≠ 3 ∧ k ≠ 4 ∧ k ≠ 5 ∧ k ≠ 6 ∧ k ≠ 7 ∧ k ≠ 8) := by omega
theorem emptyB (s : ByteArray) : decide (s.size = 0) = s.toList.isEmpty := by
  have := emp_iff s
  cases h : s.toList with
  | nil => simp [this.1 h]
  | cons c l =>
    have : ¬ s.size = 0 := fun e => by rw [this.2 e] at h; cases h
    simp [this]
theorem zeroB (n : Nat) : decide (n = 0) = ((n : Int) == 0) := by
  cases n with
  | zero => rfl
  | succ n => symm; simp; omega
theorem evenB (n : Nat) : decide (n % 2 = 0) = (((n : Int) % 2) == 0) := by
  by_cases h : n % 2 = 0
  · rw [decide_eq_true h]; symm; simp; omega
  · rw [decide_eq_false h]; symm; simp; omega
theorem oneB (n : Nat) : decide (n = 1) = ((n : Int) == 1) := by
  by_cases h : n = 1
  · rw [decide_eq_true h]; symm; simp; omega
  · rw [decide_eq_false h]; symm; simp; omega
/-- form, by its groups of kinds. -/
theorem form_0 {k : Int} (h : k = 0 ∨ k = 1 ∨ k = 7 ∨ k = 8) (n : Nat) (s : ByteArray) (l : List It) : (It.mk k n s l).form = (s.toList.isEmpty && ((l.length : Int) == 0)) := by rw [It.form, if_pos h, emptyB, zeroB]
theorem form_2 {k : Int} (h : k = 2 ∨ k = 3) (n : Nat) (s : ByteArray) (l : List It) : (It.mk k n s l).form = (((n : Int) == 0) && ((l.length : Int) == 0)) := by rw [It.form, if_neg (by omega), if_pos h, zeroB, zeroB]
theorem form_4 (n : Nat) (s : ByteArray) (l : List It) : (It.mk 4 n s l).form = (((n : Int) == 0) && s.toList.isEmpty) := by rw [It.form, if_neg (by omega), if_neg (by omega), if_pos rfl, zeroB, emptyB]
theorem form_5 (n : Nat) (s : ByteArray) (l : List It) : (It.mk 5 n s l).form = (((n : Int) == 0) && s.toList.isEmpty && (((l.length : Int) % 2) == 0)) := by rw [It.form, if_neg (by omega), if_neg (by omega), if_neg (by omega), if_pos rfl, zeroB, emptyB, evenB]
theorem form_6 (n : Nat) (s : ByteArray) (l : List It) : (It.mk 6 n s l).form = (s.toList.isEmpty && ((l.length : Int) == 1)) := by rw [It.form, if_neg (by omega), if_neg (by omega), if_neg (by omega), if_neg (by omega), if_pos rfl, emptyB, oneB]
theorem form_no {k : Int} (h : k ≠ 0 ∧ k ≠ 1 ∧ k ≠ 2 ∧ k ≠ 3 ∧ k ≠ 4 ∧ k ≠ 5 ∧ k ≠ 6 ∧ k ≠ 7 ∧ k ≠ 8) (n : Nat) (s : ByteArray) (l : List It) : (It.mk k n s l).form = false := by rw [It.form, if_neg (by omega), if_neg (by omega), if_neg (by omega), if_neg (by omega), if_neg (by omega)]
set_option maxRecDepth 20000 in
set_option maxHeartbeats 4000000 in
theorem form_calls (x : It) (lo hi : Nat) (cs : List Value) (w : World) (h : ItAt w lo hi x cs) :
    Calls Tryd.prog 94 #[.agg cs.toArray] w fun e w' => e = .returned (.bool x.form) ∧ Fr (fun _ => False) w w' := by
  obtain ⟨k, n, s, l⟩ := x
  obtain ⟨A, c, rfl, hc, hk, hn, hs, hl, hL⟩ := h
  obtain ⟨f, hf⟩ : ∃ f, (It.mk k n s l).form = f := ⟨_, rfl⟩
  rw [hf]
  have HFM := hid hf
  obtain ⟨m, hm⟩ : ∃ m, l.length = m := ⟨_, rfl⟩
  have HM := hid hm
  rw [hm] at hc hl ⊢
  obtain ⟨w1, hw1⟩ : ∃ w1, w.alloc (.cells #[.int .i64 k, .int .u64 n, .string s, .slice A m c] 25) = w1 := ⟨_, rfl⟩
  have HF1 := hid (show Fr (fun _ => False) w w1 by rw [← hw1]; exact (Fr.refl _ w).alloc _)
  have hb1 : Blk w1 w.heap.size 25 #[.int .i64 k, .int .u64 n, .string s, .slice A m c] := by rw [← hw1]; exact Blk.new w _ _
  have c0 := hb1.cell 0
  have c1 := hb1.cell 1
  have c2 := hb1.cell 2
  have c3 := hb1.cell 3
  simp at c0 c1 c2 c3
  have HW1 := hid hw1
  have hml : m ≤ 9223372036854775807 := by omega
  clear hw1 hb1 hf hm hL hs hl
  have HNR := hid hn
  have HKR := hid hk
  clear hn hk
  rcases form_kind k with (rfl | rfl | rfl | rfl) | (rfl | rfl) | rfl | rfl | rfl | ⟨k0, k1, k2, k3, k4, k5, k6, k7, k8⟩
  · go_enter Tryd.func94, Tryd.ntmps94
    go_wp2
    rw [HW1.out]
    go_quiet (fail)
    go_wp2
    all_goals
      go_ret
      refine ⟨ret_bool ?_, HF1.out.drewN _⟩
      rw [← HFM.out, form_0 (by omega), HM.out]
      simp [*]
  · go_enter Tryd.func94, Tryd.ntmps94
    go_wp2
    rw [HW1.out]
    go_quiet (fail)
    go_wp2
    all_goals
      go_ret
      refine ⟨ret_bool ?_, HF1.out.drewN _⟩
      rw [← HFM.out, form_0 (by omega), HM.out]
      simp [*]
  · go_enter Tryd.func94, Tryd.ntmps94
    go_wp2
    rw [HW1.out]
    go_quiet (fail)
    go_wp2
    all_goals
      go_ret
      refine ⟨ret_bool ?_, HF1.out.drewN _⟩
      rw [← HFM.out, form_0 (by omega), HM.out]
      simp [*]
  · go_enter Tryd.func94, Tryd.ntmps94
    go_wp2
    rw [HW1.out]
    go_quiet (fail)
    go_wp2
    all_goals
      go_ret
      refine ⟨ret_bool ?_, HF1.out.drewN _⟩
      rw [← HFM.out, form_0 (by omega), HM.out]
      simp [*]
  · go_enter Tryd.func94, Tryd.ntmps94
    go_wp2
    rw [HW1.out]
    go_quiet (fail)
    go_wp2
    all_goals
      go_ret
      refine ⟨ret_bool ?_, HF1.out.drewN _⟩
      rw [← HFM.out, form_2 (by omega), HM.out]
      simp [*]
  · go_enter Tryd.func94, Tryd.ntmps94
    go_wp2
    rw [HW1.out]
    go_quiet (fail)
    go_wp2
    all_goals
      go_ret
      refine ⟨ret_bool ?_, HF1.out.drewN _⟩
      rw [← HFM.out, form_2 (by omega), HM.out]
      simp [*]
  · go_enter Tryd.func94, Tryd.ntmps94
    go_wp2
    rw [HW1.out]
    go_quiet (fail)
    go_wp2
    all_goals
      go_ret
      refine ⟨ret_bool ?_, HF1.out.drewN _⟩
      rw [← HFM.out, form_4]
      simp [*]
  · go_enter Tryd.func94, Tryd.ntmps94
    go_wp2
    rw [HW1.out]
    go_quiet (fail)
    go_wp2
    go_quiet (fail)
    go_wp2
    all_goals
      go_ret
      refine ⟨ret_bool ?_, HF1.out.drewN _⟩
      rw [← HFM.out, form_5, HM.out]
      simp [*]
  · go_enter Tryd.func94, Tryd.ntmps94
    go_wp2
    rw [HW1.out]
    go_quiet (fail)
    go_wp2
    all_goals
      go_ret
      refine ⟨ret_bool ?_, HF1.out.drewN _⟩
      rw [← HFM.out, form_6, HM.out]
      simp [*]
  · have e0 : (k == 0) = false := beq_eq_false_iff_ne.2 k0
    have e1 : (k == 1) = false := beq_eq_false_iff_ne.2 k1
    have e2 : (k == 2) = false := beq_eq_false_iff_ne.2 k2
    have e3 : (k == 3) = false := beq_eq_false_iff_ne.2 k3
    have e4 : (k == 4) = false := beq_eq_false_iff_ne.2 k4
    have e5 : (k == 5) = false := beq_eq_false_iff_ne.2 k5
    have e6 : (k == 6) = false := beq_eq_false_iff_ne.2 k6
    have e7 : (k == 7) = false := beq_eq_false_iff_ne.2 k7
    have e8 : (k == 8) = false := beq_eq_false_iff_ne.2 k8
    have HKN := hid (form_no ⟨k0, k1, k2, k3, k4, k5, k6, k7, k8⟩ n s l)
    clear k0 k1 k2 k3 k4 k5 k6 k7 k8
    go_enter Tryd.func94, Tryd.ntmps94
    go_wp2
    rw [HW1.out]
    go_quiet (fail)
    go_wp2
    go_ret
    refine ⟨ret_bool ?_, HF1.out.drewN _⟩
    rw [← HFM.out, HKN.out]
end Go.Proofs.YtkmgiodhaaajjaaDoor.ItemC

namespace Go.Proofs.YtkmgiodhaaajjaaDoor.ItemD
open Go.IntWalk Go.RowKit Go.Proofs.YtkmgiodhaaajjaaDoor.Mem Go.Proofs.YtkmgiodhaaajjaaDoor.ItemP Go.Proofs.YtkmgiodhaaajjaaDoor.ItemM Go.Proofs.YtkmgiodhaaajjaaDoor.Own Go.Proofs.YtkmgiodhaaajjaaDoor.ItemA Go.Proofs.YtkmgiodhaaajjaaDoor.ItemB Go.Proofs.YtkmgiodhaaajjaaDoor.ItemC

theorem sizes_get_le {l : List It} {j : Nat} (h : j < l.length) {x : It} (hx : l[j] = x) : x.size ≤ sizes l := by
  have := sizes_get l j h
  rwa [hx] at this
set_option maxRecDepth 20000 in
set_option maxHeartbeats 4000000 in
theorem twice_calls (l : List It) (A : Option Addr) (m c lo hi : Nat) (w : World) (hh : hi ≤ w.heap.size) (hm : l.length = m) (hc : m ≤ c) (hz : sizes l ≤ 2000000) (hL : ItsAt w lo hi l A 0) :
    Calls Tryd.prog 97 #[.slice A m c] w fun e w' => e = .returned (.bool (decide (dup l))) ∧ Fr (fun _ => False) w w' := by
  obtain ⟨r, hr⟩ : ∃ r, decide (dup l) = r := ⟨_, rfl⟩
  have HRR := hid hr
  rw [hr]
  have HM := hid hm
  have HL := hid hL
  have HZ := hid hz
  have hm2 : m ≤ 2000000 := by have := sizes_length l; omega
  clear hr hm hL hz
  go_enter Tryd.func97, Tryd.ntmps97
  go_wp2_with fail
  go_loopw [3, 4] (fun i _ wr => ∃ a i' : Nat, i' ≤ m + 1 ∧ i = .int .i64 i' ∧ Hid (i' = 2 * a) ∧ Hid (∀ j, j < a → ∀ i, i < j → l[2 * i]? ≠ l[2 * j]?) ∧ Hid (Fr (fun _ => False) w wr)) (fun i _ _ => m + 1 - (intOf i).toNat)
  case atStart => exact ⟨0, 0, by omega, rfl, hid rfl, hid (fun j hj => by omega), hid (Fr.refl _ _)⟩
  case round =>
    obtain ⟨a, i, hi1, rfl, HA, HN, HF⟩ := hrel
    by_cases hlt : i < m
    · obtain ⟨wo, rfl⟩ : ∃ wo : World, wo = wr := ⟨_, rfl⟩
      go_wp2_with fail
      go_loopw [4] (fun k wr => ∃ b k' : Nat, k' ≤ i ∧ k = .int .i64 k' ∧ Hid (k' = 2 * b) ∧ Hid (∀ i, i < b → l[2 * i]? ≠ l[2 * a]?) ∧ Hid (Fr (fun _ => False) w wr)) (fun k _ => i - (intOf k).toNat)
      case atStart => exact ⟨0, 0, by omega, rfl, hid rfl, hid (fun j hj => by omega), HF⟩
      case round =>
        obtain ⟨b, k, hk1, rfl, HB, HNB, HFr⟩ := hrel
        by_cases hlt2 : k < i
        · have hkm : k < m := by omega
          obtain ⟨ad, k1, n1, s1, l1, A1, d1, hA1, _, hab, hx1, c0, c1, c2, c3, hch1⟩ := ItsAt.kid (ItsAt.fr0 HL.out HFr.out hh) i (by rw [HM.out]; exact hlt)
          obtain ⟨ad', k2, n2, s2, l2, A2, d2, hA2, _, hab', hx2, g0, g1, g2, g3, hch2⟩ := ItsAt.kid (ItsAt.fr0 HL.out HFr.out hh) k (by rw [HM.out]; exact hkm)
          obtain rfl : ad = ad' := Option.some.inj (hA1.symm.trans hA2)
          subst hA1
          have HCZ := hid (show (It.mk k1 n1 s1 l1).size ≤ 2000000 from Nat.le_trans (sizes_get_le _ hx1) HZ.out)
          have HC1 := hid hch1
          have HC2 := hid hch2
          have HX1 := hid hx1
          have HX2 := hid hx2
          have HSL := hid (show hi ≤ wr.heap.size from Nat.le_trans hh HFr.out.size)
          have hi0 : (0 : Int) ≤ (i : Int) := by omega
          have him : (i : Int) < (m : Int) := by omega
          have hk0 : (0 : Int) ≤ (k : Int) := by omega
          have hkm2 : (k : Int) < (m : Int) := by omega
          have hkc : (k : Int) < (c : Int) := by omega
          have hic : (i : Int) < (c : Int) := by omega
          have HSF := hid (show ∀ w', Fr (fun _ => False) wr w' → w'.cell? (ad.add (i * 4)) = some (.int .i64 k1) ∧ w'.cell? ⟨(ad.add (i * 4)).block, (ad.add (i * 4)).off + 1, none⟩ = some (.int .u64 n1) ∧ w'.cell? ⟨(ad.add (i * 4)).block, (ad.add (i * 4)).off + 2, none⟩ = some (.string s1) ∧ w'.cell? ⟨(ad.add (i * 4)).block, (ad.add (i * 4)).off + 3, none⟩ = some (.slice A1 l1.length d1) ∧ w'.cell? (ad.add (k * 4)) = some (.int .i64 k2) ∧ w'.cell? ⟨(ad.add (k * 4)).block, (ad.add (k * 4)).off + 1, none⟩ = some (.int .u64 n2) ∧ w'.cell? ⟨(ad.add (k * 4)).block, (ad.add (k * 4)).off + 2, none⟩ = some (.string s2) ∧ w'.cell? ⟨(ad.add (k * 4)).block, (ad.add (k * 4)).off + 3, none⟩ = some (.slice A2 l2.length d2) from fun w' hf => ⟨cell_fr c0 hf, cell_fr c1 hf, cell_fr c2 hf, cell_fr c3 hf, cell_fr g0 hf, cell_fr g1 hf, cell_fr g2 hf, cell_fr g3 hf⟩)
          clear hx1 hx2 hch1 hch2 hA2
          by_cases heq : It.mk k1 n1 s1 l1 = It.mk k2 n2 s2 l2
          · have hde := decide_eq_true heq
            have HQ := hid (show dup l from ⟨b, a, by have h1 := HA.out; have h2 := HB.out; omega, by have h1 := HA.out; rw [HM.out]; omega, by
              have e1 : l[2 * a]? = some (It.mk k1 n1 s1 l1) := by rw [← HA.out, List.getElem?_eq_getElem (by rw [HM.out]; exact hlt), HX1.out]
              have e2 : l[2 * b]? = some (It.mk k2 n2 s2 l2) := by rw [← HB.out, List.getElem?_eq_getElem (by rw [HM.out]; exact hkm), HX2.out]
              rw [e1, e2, heq]⟩)
            clear heq
            go_wp2_with fail
            go_region_held3 (fun w' => w'.cell? (ad.add (i * 4)) = some (.int .i64 k1) ∧ w'.cell? ⟨(ad.add (i * 4)).block, (ad.add (i * 4)).off + 1, none⟩ = some (.int .u64 n1) ∧ w'.cell? ⟨(ad.add (i * 4)).block, (ad.add (i * 4)).off + 2, none⟩ = some (.string s1) ∧ w'.cell? ⟨(ad.add (i * 4)).block, (ad.add (i * 4)).off + 3, none⟩ = some (.slice A1 l1.length d1) ∧ w'.cell? (ad.add (k * 4)) = some (.int .i64 k2) ∧ w'.cell? ⟨(ad.add (k * 4)).block, (ad.add (k * 4)).off + 1, none⟩ = some (.int .u64 n2) ∧ w'.cell? ⟨(ad.add (k * 4)).block, (ad.add (k * 4)).off + 2, none⟩ = some (.string s2) ∧ w'.cell? ⟨(ad.add (k * 4)).block, (ad.add (k * 4)).off + 3, none⟩ = some (.slice A2 l2.length d2))
              (first | exact HSF.out _ (Fr.refl _ _).drew | exact HSF.out _ (Fr.refl _ _) | exact HSF.out _ hfr.out)
              (first | ((go_at_call 24; refine (same_calls 2000000 (It.mk k1 n1 s1 l1) (It.mk k2 n2 s2 l2) HCZ.out (Nat.le_refl _) lo hi lo hi _ _ wr.drew HSL.out HSL.out (HC1.out.fr0 (Fr.drew (Fr.refl (fun _ => False) wr)) HSL.out) (HC2.out.fr0 (Fr.drew (Fr.refl (fun _ => False) wr)) HSL.out)).mono ?_; rintro e w2 ⟨rfl, hf⟩; have hfr := hid (((Fr.refl (fun _ => False) wr).drew).then_ hf (fun _ _ h => h)); rw [hde])))
            all_goals
              go_wp2_with fail
              go_ret
              exact ⟨ret_bool (by rw [← HRR.out]; exact (decide_eq_true HQ.out).symm), HFr.out.trans hfr.out⟩
          · have hde := decide_eq_false heq
            have HQ := hid (show l[2 * b]? ≠ l[2 * a]? by
              have e1 : l[2 * a]? = some (It.mk k1 n1 s1 l1) := by rw [← HA.out, List.getElem?_eq_getElem (by rw [HM.out]; exact hlt), HX1.out]
              have e2 : l[2 * b]? = some (It.mk k2 n2 s2 l2) := by rw [← HB.out, List.getElem?_eq_getElem (by rw [HM.out]; exact hkm), HX2.out]
              rw [e1, e2]
              exact fun h => heq (Option.some.inj h).symm)
            clear heq
            go_wp2_with fail
            go_region_held3 (fun w' => w'.cell? (ad.add (i * 4)) = some (.int .i64 k1) ∧ w'.cell? ⟨(ad.add (i * 4)).block, (ad.add (i * 4)).off + 1, none⟩ = some (.int .u64 n1) ∧ w'.cell? ⟨(ad.add (i * 4)).block, (ad.add (i * 4)).off + 2, none⟩ = some (.string s1) ∧ w'.cell? ⟨(ad.add (i * 4)).block, (ad.add (i * 4)).off + 3, none⟩ = some (.slice A1 l1.length d1) ∧ w'.cell? (ad.add (k * 4)) = some (.int .i64 k2) ∧ w'.cell? ⟨(ad.add (k * 4)).block, (ad.add (k * 4)).off + 1, none⟩ = some (.int .u64 n2) ∧ w'.cell? ⟨(ad.add (k * 4)).block, (ad.add (k * 4)).off + 2, none⟩ = some (.string s2) ∧ w'.cell? ⟨(ad.add (k * 4)).block, (ad.add (k * 4)).off + 3, none⟩ = some (.slice A2 l2.length d2))
              (first | exact HSF.out _ (Fr.refl _ _).drew | exact HSF.out _ (Fr.refl _ _) | exact HSF.out _ hfr.out)
              (first | ((go_at_call 24; refine (same_calls 2000000 (It.mk k1 n1 s1 l1) (It.mk k2 n2 s2 l2) HCZ.out (Nat.le_refl _) lo hi lo hi _ _ wr.drew HSL.out HSL.out (HC1.out.fr0 (Fr.drew (Fr.refl (fun _ => False) wr)) HSL.out) (HC2.out.fr0 (Fr.drew (Fr.refl (fun _ => False) wr)) HSL.out)).mono ?_; rintro e w2 ⟨rfl, hf⟩; have hfr := hid (((Fr.refl (fun _ => False) wr).drew).then_ hf (fun _ _ h => h)); rw [hde])))
            all_goals
              go_wp2_with fail
              go_roundw
              case rel => exact ⟨b + 1, k + 2, by have h1 := HA.out; have h2 := HB.out; omega, by go_num, hid (by have h2 := HB.out; omega), hid (fun i hi => by
                rcases Nat.lt_or_ge i b with h | h
                · exact HNB.out i h
                · obtain rfl : i = b := by omega
                  exact HQ.out), hid (HFr.out.trans hfr.out)⟩
              case measure => simp [intOf]; omega
        · go_wp2_with fail
          go_roundw
          case rel => exact ⟨a + 1, i + 2, by omega, by go_num, hid (by have h2 := HA.out; omega), hid (fun j hj i hi => by
            rcases Nat.lt_or_ge j a with h | h
            · exact HN.out j h i hi
            · obtain rfl : j = a := by omega
              exact HNB.out i (by have h1 := HA.out; have h2 := HB.out; omega)), HFr⟩
          case measure => simp [intOf]; omega
    · have HQ := hid (show ¬ dup l from fun ⟨i', j', h1, h2, h3⟩ => HN.out j' (by have := HA.out; rw [HM.out] at h2; omega) i' h1 h3)
      go_wp2_with fail
      go_ret
      exact ⟨ret_bool (by rw [← HRR.out]; exact (decide_eq_false HQ.out).symm), HF.out⟩
end Go.Proofs.YtkmgiodhaaajjaaDoor.ItemD

namespace Go.Proofs.YtkmgiodhaaajjaaDoor.ItemE
open Go.IntWalk Go.RowKit Go.Proofs.YtkmgiodhaaajjaaDoor.Mem Go.Proofs.YtkmgiodhaaajjaaDoor.UtfP Go.Proofs.YtkmgiodhaaajjaaDoor.FloatP Go.Proofs.YtkmgiodhaaajjaaDoor.FloatB Go.Proofs.YtkmgiodhaaajjaaDoor.ItemP Go.Proofs.YtkmgiodhaaajjaaDoor.ItemM Go.Proofs.YtkmgiodhaaajjaaDoor.Own Go.Proofs.YtkmgiodhaaajjaaDoor.ItemA Go.Proofs.YtkmgiodhaaajjaaDoor.ItemB Go.Proofs.YtkmgiodhaaajjaaDoor.ItemC Go.Proofs.YtkmgiodhaaajjaaDoor.ItemD

theorem wrong_form {x : It} (h : x.form = false) : x.wrong = 11 := by rw [It.wrong, if_pos h]
theorem wrong_7 {n : Nat} {s : ByteArray} {l : List It} (h : (It.mk 7 n s l).form = true) : (It.mk 7 n s l).wrong = if 255 < n ∨ (24 ≤ n ∧ n < 32) then 15 else 0 := by
  rw [It.wrong, if_neg (by rw [h]; simp)]
  simp [It.k, It.n]
theorem wrong_8 {n : Nat} {s : ByteArray} {l : List It} (h : (It.mk 8 n s l).form = true) : (It.mk 8 n s l).wrong = if nanB n = true ∧ n ≠ 9221120237041090560 then 15 else 0 := by
  rw [It.wrong, if_neg (by rw [h]; simp)]
  simp [It.k, It.n]
theorem wrong_3 {n : Nat} {s : ByteArray} {l : List It} (h : (It.mk 3 n s l).form = true) : (It.mk 3 n s l).wrong = if validS s = false then 6 else 0 := by
  rw [It.wrong, if_neg (by rw [h]; simp)]
  simp [It.k, It.s]
theorem wrong_5 {n : Nat} {s : ByteArray} {l : List It} (h : (It.mk 5 n s l).form = true) : (It.mk 5 n s l).wrong = if dup l then 14 else 0 := by
  rw [It.wrong, if_neg (by rw [h]; simp)]
  simp [It.k, It.l]
theorem wrong_no {k : Int} {n : Nat} {s : ByteArray} {l : List It} (h : (It.mk k n s l).form = true) (h7 : k ≠ 7) (h8 : k ≠ 8) (h3 : k ≠ 3) (h5 : k ≠ 5) : (It.mk k n s l).wrong = 0 := by
  rw [It.wrong, if_neg (by rw [h]; simp), if_neg (by simp [It.k, h7, h8]), if_neg (by simp [It.k, h3]), if_neg (by simp [It.k, h5])]

set_option maxRecDepth 20000 in
set_option maxHeartbeats 4000000 in
theorem wrong_calls (x : It) (hx : x.size ≤ 2000000) (lo hi : Nat) (cs : List Value) (w : World) (hh : hi ≤ w.heap.size) (hD : Dbl w) (h : ItAt w lo hi x cs) :
    Calls Tryd.prog 72 #[.agg cs.toArray] w fun e w' => e = .returned (.int .i64 x.wrong) ∧ Fr (fun _ => False) w w' := by
  have hAt := h
  obtain ⟨k, n, s, l⟩ := x
  obtain ⟨A, c, rfl, hc, hk, hn, hs, hl, hL⟩ := h
  obtain ⟨r, hr⟩ : ∃ r, (It.mk k n s l).wrong = r := ⟨_, rfl⟩
  rw [hr]
  have HR := hid hr
  obtain ⟨m, hm⟩ : ∃ m, l.length = m := ⟨_, rfl⟩
  have HM := hid hm
  have HAT := hid hAt
  rw [hm] at hc hl HAT ⊢
  obtain ⟨w1, hw1⟩ : ∃ w1, w.alloc (.cells #[.int .i64 k, .int .u64 n, .string s, .slice A m c] 25) = w1 := ⟨_, rfl⟩
  have HF1 := hid (show Fr (fun _ => False) w w1 by rw [← hw1]; exact (Fr.refl _ w).alloc _)
  have HB1 := hid (show Blk w1 w.heap.size 25 #[.int .i64 k, .int .u64 n, .string s, .slice A m c] by rw [← hw1]; exact Blk.new w _ _)
  have HW1 := hid hw1
  have HSL := hid hh
  have HDD := hid hD
  have HNN := hid hn
  have HSS := hid hs
  have HL := hid hL
  have HSZ := hid hx
  have c0 := HB1.out.cell 0
  have c1 := HB1.out.cell 1
  have c2 := HB1.out.cell 2
  have c3 := HB1.out.cell 3
  simp at c0 c1 c2 c3
  clear hAt hr hm hw1 hh hD hn hs hL hx hk
  cases hform : (It.mk k n s l).form with
  | false =>
    have HFM := hid hform
    have HE := hid (show r = 11 by rw [← HR.out]; exact wrong_form hform)
    go_enter Tryd.func72, Tryd.ntmps72
    go_wp2_with fail
    rw [HW1.out]
    refine (form_calls _ lo hi _ w1 (HAT.out.fr0 HF1.out HSL.out)).mono ?_
    rintro e w2 ⟨rfl, hf⟩
    have HF2 := hid (HF1.out.then_ hf (fun _ _ h => h))
    rw [HFM.out]
    clear hf hform
    go_wp2_with fail
    go_ret
    rw [HE.out]
    exact ⟨rfl, HF2.out⟩
  | true =>
    have HFM := hid hform
    clear hform
    by_cases h7 : k = 7
    · subst h7
      have HE := hid (wrong_7 HFM.out)
      go_enter Tryd.func72, Tryd.ntmps72
      go_wp2_with fail
      rw [HW1.out]
      refine (form_calls _ lo hi _ w1 (HAT.out.fr0 HF1.out HSL.out)).mono ?_
      rintro e w2 ⟨rfl, hf⟩
      have HF2 := hid (HF1.out.then_ hf (fun _ _ h => h))
      have d0 := cell_fr c0 hf
      have d1 := cell_fr c1 hf
      have d2 := cell_fr c2 hf
      have d3 := cell_fr c3 hf
      rw [HFM.out]
      clear hf c0 c1 c2 c3
      go_wp2_with fail
      all_goals
        go_ret
        refine ⟨?_, HF2.out⟩
        rw [← HR.out, HE.out]
        first
          | (rw [if_pos (by omega)]; rfl)
          | (rw [if_neg (by omega)]; rfl)
    by_cases h8 : k = 8
    · subst h8
      clear h7
      have HE := hid (wrong_8 HFM.out)
      go_enter Tryd.func72, Tryd.ntmps72
      go_wp2_with fail
      rw [HW1.out]
      refine (form_calls _ lo hi _ w1 (HAT.out.fr0 HF1.out HSL.out)).mono ?_
      rintro e w2 ⟨rfl, hf⟩
      have HF2 := hid (HF1.out.then_ hf (fun _ _ h => h))
      have d0 := cell_fr c0 hf
      have d1 := cell_fr c1 hf
      have d2 := cell_fr c2 hf
      have d3 := cell_fr c3 hf
      rw [HFM.out]
      clear hf c0 c1 c2 c3
      go_wp2_with fail
      refine (nan_calls w2 n HNN.out (HDD.out.fr0 HF2.out)).mono ?_
      rintro e w3 ⟨rfl, hf⟩
      have HF3 := hid (HF2.out.then_ hf (fun _ _ h => h))
      have g0 := cell_fr d0 hf
      have g1 := cell_fr d1 hf
      have g2 := cell_fr d2 hf
      have g3 := cell_fr d3 hf
      obtain ⟨b, hb⟩ : ∃ b, nanB n = b := ⟨_, rfl⟩
      have HNB := hid hb
      rw [hb]
      clear hf d0 d1 d2 d3 hb
      cases b with
      | true =>
        by_cases hq : n = 9221120237041090560
        · have e1 : ((n : Int) != 9221120237041090560) = false := by rw [hq]; rfl
          have HQ := hid hq
          clear hq
          go_wp2_with fail
          go_ret
          refine ⟨?_, HF3.out⟩
          rw [← HR.out, HE.out, if_neg (fun h => h.2 HQ.out)]
          rfl
        · have e1 : ((n : Int) != 9221120237041090560) = true := bne_iff_ne.2 (by omega)
          have HQ := hid hq
          clear hq
          go_wp2_with fail
          go_ret
          refine ⟨?_, HF3.out⟩
          rw [← HR.out, HE.out, if_pos ⟨HNB.out, HQ.out⟩]
          rfl
      | false =>
        go_wp2_with fail
        go_ret
        refine ⟨?_, HF3.out⟩
        rw [← HR.out, HE.out, if_neg (fun h => by rw [HNB.out] at h; exact absurd h.1 (by simp))]
        rfl
    by_cases h3 : k = 3
    · subst h3
      clear h7 h8
      have HE := hid (wrong_3 HFM.out)
      go_enter Tryd.func72, Tryd.ntmps72
      go_wp2_with fail
      rw [HW1.out]
      refine (form_calls _ lo hi _ w1 (HAT.out.fr0 HF1.out HSL.out)).mono ?_
      rintro e w2 ⟨rfl, hf⟩
      have HF2 := hid (HF1.out.then_ hf (fun _ _ h => h))
      have d0 := cell_fr c0 hf
      have d1 := cell_fr c1 hf
      have d2 := cell_fr c2 hf
      have d3 := cell_fr c3 hf
      rw [HFM.out]
      clear hf c0 c1 c2 c3
      go_wp2_with fail
      refine (UtfB.valid_calls s w2 HSS.out).mono ?_
      rintro e w3 ⟨rfl, hf⟩
      have HF3 := hid (HF2.out.then_ hf (fun _ _ h => h))
      have g0 := cell_fr d0 hf
      obtain ⟨b, hb⟩ : ∃ b, validS s = b := ⟨_, rfl⟩
      have HNB := hid hb
      rw [hb]
      clear hf d0 d1 d2 d3 hb
      cases b with
      | false =>
        go_wp2_with fail
        go_ret
        refine ⟨?_, HF3.out⟩
        rw [← HR.out, HE.out, if_pos HNB.out]
        rfl
      | true =>
        go_wp2_with fail
        go_ret
        refine ⟨?_, HF3.out⟩
        rw [← HR.out, HE.out, if_neg (by rw [HNB.out]; simp)]
        rfl
    by_cases h5 : k = 5
    · subst h5
      clear h7 h8 h3
      have HE := hid (wrong_5 HFM.out)
      go_enter Tryd.func72, Tryd.ntmps72
      go_wp2_with fail
      rw [HW1.out]
      refine (form_calls _ lo hi _ w1 (HAT.out.fr0 HF1.out HSL.out)).mono ?_
      rintro e w2 ⟨rfl, hf⟩
      have HF2 := hid (HF1.out.then_ hf (fun _ _ h => h))
      have d0 := cell_fr c0 hf
      have d1 := cell_fr c1 hf
      have d2 := cell_fr c2 hf
      have d3 := cell_fr c3 hf
      rw [HFM.out]
      clear hf c0 c1 c2 c3
      go_wp2_with fail
      refine (twice_calls l A m c lo hi w2 (Nat.le_trans HSL.out HF2.out.size) HM.out hc (by have := HSZ.out; simp only [It.size] at this; omega) (ItsAt.fr0 HL.out HF2.out HSL.out)).mono ?_
      rintro e w3 ⟨rfl, hf⟩
      have HF3 := hid (HF2.out.then_ hf (fun _ _ h => h))
      obtain ⟨b, hb⟩ : ∃ b, decide (dup l) = b := ⟨_, rfl⟩
      have HNB := hid hb
      rw [hb]
      clear hf d0 d1 d2 d3 hb
      cases b with
      | false =>
        go_wp2_with fail
        go_ret
        refine ⟨?_, HF3.out⟩
        rw [← HR.out, HE.out, if_neg (of_decide_eq_false HNB.out)]
        rfl
      | true =>
        go_wp2_with fail
        go_ret
        refine ⟨?_, HF3.out⟩
        rw [← HR.out, HE.out, if_pos (of_decide_eq_true HNB.out)]
        rfl
    have HE := hid (wrong_no HFM.out h7 h8 h3 h5)
    have e7 : (k == 7) = false := beq_eq_false_iff_ne.2 h7
    have e8 : (k == 8) = false := beq_eq_false_iff_ne.2 h8
    have e3 : (k == 3) = false := beq_eq_false_iff_ne.2 h3
    have e5 : (k == 5) = false := beq_eq_false_iff_ne.2 h5
    clear h7 h8 h3 h5
    go_enter Tryd.func72, Tryd.ntmps72
    go_wp2_with fail
    rw [HW1.out]
    refine (form_calls _ lo hi _ w1 (HAT.out.fr0 HF1.out HSL.out)).mono ?_
    rintro e w2 ⟨rfl, hf⟩
    have HF2 := hid (HF1.out.then_ hf (fun _ _ h => h))
    have d0 := cell_fr c0 hf
    have d1 := cell_fr c1 hf
    have d2 := cell_fr c2 hf
    have d3 := cell_fr c3 hf
    rw [HFM.out]
    clear hf c0 c1 c2 c3
    go_wp2_with fail
    go_ret
    refine ⟨?_, HF2.out⟩
    rw [← HR.out, HE.out]
    rfl
end Go.Proofs.YtkmgiodhaaajjaaDoor.ItemE
