/- Layer item: is a key there twice? -/
import Derived.Test.YtkmgiodhaaajjaaDoorItemC
set_option linter.unusedVariables false
set_option linter.unusedSimpArgs false
namespace Go.Proofs.YtkmgiodhaaajjaaDoor.ItemD
open Go.IntWalk Go.RowKit Go.Proofs.YtkmgiodhaaajjaaDoor.Mem Go.Proofs.YtkmgiodhaaajjaaDoor.ItemP Go.Proofs.YtkmgiodhaaajjaaDoor.ItemM Go.Proofs.YtkmgiodhaaajjaaDoor.Own Go.Proofs.YtkmgiodhaaajjaaDoor.ItemA Go.Proofs.YtkmgiodhaaajjaaDoor.ItemB Go.Proofs.YtkmgiodhaaajjaaDoor.ItemC

theorem sizes_get_le {l : List It} {j : Nat} (h : j < l.length) {x : It} (hx : l[j] = x) : x.size ≤ sizes l := by
  have := sizes_get l j h
  rwa [hx] at this
set_option maxRecDepth 20000 in
set_option maxHeartbeats 4000000 in
theorem twice_calls (l : List It) (A : Option Addr) (m c lo hi : Nat) (w : World) (hh : hi ≤ w.heap.size) (hm : l.length = m) (hc : m ≤ c) (hz : sizes l ≤ 2000000) (hL : ItsAt w lo hi l A 0) :
    Calls Tryd.prog 97 #[.slice A m c] w fun e w' => e = .returned (.bool (decide (dup l))) ∧ Fr (fun _ => False) w w' := by
  obtain ⟨r, hr⟩ : ∃ r, decide (dup l) = r := ⟨_, rfl⟩
  have HRR := hid hr
  rw [hr]
  have HM := hid hm
  have HL := hid hL
  have HZ := hid hz
  have hm2 : m ≤ 2000000 := by have := sizes_length l; omega
  clear hr hm hL hz
  go_enter Tryd.func97, Tryd.ntmps97
  go_wp2_with fail
  go_loopw [3, 4] (fun i _ wr => ∃ a i' : Nat, i' ≤ m + 1 ∧ i = .int .i64 i' ∧ Hid (i' = 2 * a) ∧ Hid (∀ j, j < a → ∀ i, i < j → l[2 * i]? ≠ l[2 * j]?) ∧ Hid (Fr (fun _ => False) w wr)) (fun i _ _ => m + 1 - (intOf i).toNat)
  case atStart => exact ⟨0, 0, by omega, rfl, hid rfl, hid (fun j hj => by omega), hid (Fr.refl _ _)⟩
  case round =>
    obtain ⟨a, i, hi1, rfl, HA, HN, HF⟩ := hrel
    by_cases hlt : i < m
    · obtain ⟨wo, rfl⟩ : ∃ wo : World, wo = wr := ⟨_, rfl⟩
      go_wp2_with fail
      go_loopw [4] (fun k wr => ∃ b k' : Nat, k' ≤ i ∧ k = .int .i64 k' ∧ Hid (k' = 2 * b) ∧ Hid (∀ i, i < b → l[2 * i]? ≠ l[2 * a]?) ∧ Hid (Fr (fun _ => False) w wr)) (fun k _ => i - (intOf k).toNat)
      case atStart => exact ⟨0, 0, by omega, rfl, hid rfl, hid (fun j hj => by omega), HF⟩
      case round =>
        obtain ⟨b, k, hk1, rfl, HB, HNB, HFr⟩ := hrel
        by_cases hlt2 : k < i
        · have hkm : k < m := by omega
          obtain ⟨ad, k1, n1, s1, l1, A1, d1, hA1, _, hab, hx1, c0, c1, c2, c3, hch1⟩ := ItsAt.kid (ItsAt.fr0 HL.out HFr.out hh) i (by rw [HM.out]; exact hlt)
          obtain ⟨ad', k2, n2, s2, l2, A2, d2, hA2, _, hab', hx2, g0, g1, g2, g3, hch2⟩ := ItsAt.kid (ItsAt.fr0 HL.out HFr.out hh) k (by rw [HM.out]; exact hkm)
          obtain rfl : ad = ad' := Option.some.inj (hA1.symm.trans hA2)
          subst hA1
          have HCZ := hid (show (It.mk k1 n1 s1 l1).size ≤ 2000000 from Nat.le_trans (sizes_get_le _ hx1) HZ.out)
          have HC1 := hid hch1
          have HC2 := hid hch2
          have HX1 := hid hx1
          have HX2 := hid hx2
          have HSL := hid (show hi ≤ wr.heap.size from Nat.le_trans hh HFr.out.size)
          have hi0 : (0 : Int) ≤ (i : Int) := by omega
          have him : (i : Int) < (m : Int) := by omega
          have hk0 : (0 : Int) ≤ (k : Int) := by omega
          have hkm2 : (k : Int) < (m : Int) := by omega
          have hkc : (k : Int) < (c : Int) := by omega
          have hic : (i : Int) < (c : Int) := by omega
          have HSF := hid (show ∀ w', Fr (fun _ => False) wr w' → w'.cell? (ad.add (i * 4)) = some (.int .i64 k1) ∧ w'.cell? ⟨(ad.add (i * 4)).block, (ad.add (i * 4)).off + 1, none⟩ = some (.int .u64 n1) ∧ w'.cell? ⟨(ad.add (i * 4)).block, (ad.add (i * 4)).off + 2, none⟩ = some (.string s1) ∧ w'.cell? ⟨(ad.add (i * 4)).block, (ad.add (i * 4)).off + 3, none⟩ = some (.slice A1 l1.length d1) ∧ w'.cell? (ad.add (k * 4)) = some (.int .i64 k2) ∧ w'.cell? ⟨(ad.add (k * 4)).block, (ad.add (k * 4)).off + 1, none⟩ = some (.int .u64 n2) ∧ w'.cell? ⟨(ad.add (k * 4)).block, (ad.add (k * 4)).off + 2, none⟩ = some (.string s2) ∧ w'.cell? ⟨(ad.add (k * 4)).block, (ad.add (k * 4)).off + 3, none⟩ = some (.slice A2 l2.length d2) from fun w' hf => ⟨cell_fr c0 hf, cell_fr c1 hf, cell_fr c2 hf, cell_fr c3 hf, cell_fr g0 hf, cell_fr g1 hf, cell_fr g2 hf, cell_fr g3 hf⟩)
          clear hx1 hx2 hch1 hch2 hA2
          by_cases heq : It.mk k1 n1 s1 l1 = It.mk k2 n2 s2 l2
          · have hde := decide_eq_true heq
            have HQ := hid (show dup l from ⟨b, a, by have h1 := HA.out; have h2 := HB.out; omega, by have h1 := HA.out; rw [HM.out]; omega, by
              have e1 : l[2 * a]? = some (It.mk k1 n1 s1 l1) := by rw [← HA.out, List.getElem?_eq_getElem (by rw [HM.out]; exact hlt), HX1.out]
              have e2 : l[2 * b]? = some (It.mk k2 n2 s2 l2) := by rw [← HB.out, List.getElem?_eq_getElem (by rw [HM.out]; exact hkm), HX2.out]
              rw [e1, e2, heq]⟩)
            clear heq
            go_wp2_with fail
            go_region_held3 (fun w' => w'.cell? (ad.add (i * 4)) = some (.int .i64 k1) ∧ w'.cell? ⟨(ad.add (i * 4)).block, (ad.add (i * 4)).off + 1, none⟩ = some (.int .u64 n1) ∧ w'.cell? ⟨(ad.add (i * 4)).block, (ad.add (i * 4)).off + 2, none⟩ = some (.string s1) ∧ w'.cell? ⟨(ad.add (i * 4)).block, (ad.add (i * 4)).off + 3, none⟩ = some (.slice A1 l1.length d1) ∧ w'.cell? (ad.add (k * 4)) = some (.int .i64 k2) ∧ w'.cell? ⟨(ad.add (k * 4)).block, (ad.add (k * 4)).off + 1, none⟩ = some (.int .u64 n2) ∧ w'.cell? ⟨(ad.add (k * 4)).block, (ad.add (k * 4)).off + 2, none⟩ = some (.string s2) ∧ w'.cell? ⟨(ad.add (k * 4)).block, (ad.add (k * 4)).off + 3, none⟩ = some (.slice A2 l2.length d2))
              (first | exact HSF.out _ (Fr.refl _ _).drew | exact HSF.out _ (Fr.refl _ _) | exact HSF.out _ hfr.out)
              (first | ((go_at_call 24; refine (same_calls 2000000 (It.mk k1 n1 s1 l1) (It.mk k2 n2 s2 l2) HCZ.out (Nat.le_refl _) lo hi lo hi _ _ wr.drew HSL.out HSL.out (HC1.out.fr0 (Fr.drew (Fr.refl (fun _ => False) wr)) HSL.out) (HC2.out.fr0 (Fr.drew (Fr.refl (fun _ => False) wr)) HSL.out)).mono ?_; rintro e w2 ⟨rfl, hf⟩; have hfr := hid (((Fr.refl (fun _ => False) wr).drew).then_ hf (fun _ _ h => h)); rw [hde])))
            all_goals
              go_wp2_with fail
              go_ret
              exact ⟨ret_bool (by rw [← HRR.out]; exact (decide_eq_true HQ.out).symm), HFr.out.trans hfr.out⟩
          · have hde := decide_eq_false heq
            have HQ := hid (show l[2 * b]? ≠ l[2 * a]? by
              have e1 : l[2 * a]? = some (It.mk k1 n1 s1 l1) := by rw [← HA.out, List.getElem?_eq_getElem (by rw [HM.out]; exact hlt), HX1.out]
              have e2 : l[2 * b]? = some (It.mk k2 n2 s2 l2) := by rw [← HB.out, List.getElem?_eq_getElem (by rw [HM.out]; exact hkm), HX2.out]
              rw [e1, e2]
              exact fun h => heq (Option.some.inj h).symm)
            clear heq
            go_wp2_with fail
            go_region_held3 (fun w' => w'.cell? (ad.add (i * 4)) = some (.int .i64 k1) ∧ w'.cell? ⟨(ad.add (i * 4)).block, (ad.add (i * 4)).off + 1, none⟩ = some (.int .u64 n1) ∧ w'.cell? ⟨(ad.add (i * 4)).block, (ad.add (i * 4)).off + 2, none⟩ = some (.string s1) ∧ w'.cell? ⟨(ad.add (i * 4)).block, (ad.add (i * 4)).off + 3, none⟩ = some (.slice A1 l1.length d1) ∧ w'.cell? (ad.add (k * 4)) = some (.int .i64 k2) ∧ w'.cell? ⟨(ad.add (k * 4)).block, (ad.add (k * 4)).off + 1, none⟩ = some (.int .u64 n2) ∧ w'.cell? ⟨(ad.add (k * 4)).block, (ad.add (k * 4)).off + 2, none⟩ = some (.string s2) ∧ w'.cell? ⟨(ad.add (k * 4)).block, (ad.add (k * 4)).off + 3, none⟩ = some (.slice A2 l2.length d2))
              (first | exact HSF.out _ (Fr.refl _ _).drew | exact HSF.out _ (Fr.refl _ _) | exact HSF.out _ hfr.out)
              (first | ((go_at_call 24; refine (same_calls 2000000 (It.mk k1 n1 s1 l1) (It.mk k2 n2 s2 l2) HCZ.out (Nat.le_refl _) lo hi lo hi _ _ wr.drew HSL.out HSL.out (HC1.out.fr0 (Fr.drew (Fr.refl (fun _ => False) wr)) HSL.out) (HC2.out.fr0 (Fr.drew (Fr.refl (fun _ => False) wr)) HSL.out)).mono ?_; rintro e w2 ⟨rfl, hf⟩; have hfr := hid (((Fr.refl (fun _ => False) wr).drew).then_ hf (fun _ _ h => h)); rw [hde])))
            all_goals
              go_wp2_with fail
              go_roundw
              case rel => exact ⟨b + 1, k + 2, by have h1 := HA.out; have h2 := HB.out; omega, by go_num, hid (by have h2 := HB.out; omega), hid (fun i hi => by
                rcases Nat.lt_or_ge i b with h | h
                · exact HNB.out i h
                · obtain rfl : i = b := by omega
                  exact HQ.out), hid (HFr.out.trans hfr.out)⟩
              case measure => simp [intOf]; omega
        · go_wp2_with fail
          go_roundw
          case rel => exact ⟨a + 1, i + 2, by omega, by go_num, hid (by have h2 := HA.out; omega), hid (fun j hj i hi => by
            rcases Nat.lt_or_ge j a with h | h
            · exact HN.out j h i hi
            · obtain rfl : j = a := by omega
              exact HNB.out i (by have h1 := HA.out; have h2 := HB.out; omega)), HFr⟩
          case measure => simp [intOf]; omega
    · have HQ := hid (show ¬ dup l from fun ⟨i', j', h1, h2, h3⟩ => HN.out j' (by have := HA.out; rw [HM.out] at h2; omega) i' h1 h3)
      go_wp2_with fail
      go_ret
      exact ⟨ret_bool (by rw [← HRR.out]; exact (decide_eq_false HQ.out).symm), HF.out⟩
end Go.Proofs.YtkmgiodhaaajjaaDoor.ItemD
