/- Layer denote: the field of a pair. -/
import Derived.Test.YtkmgiodhaaajjaaDoorDenA
import Derived.Deep.QuietTactic
import Derived.BigQuiet
set_option linter.unusedVariables false
set_option linter.unusedSimpArgs false
namespace Go.Proofs.YtkmgiodhaaajjaaDoor.DenC
open Go.IntWalk Go.RowKit Go.Proofs.YtkmgiodhaaajjaaDoor.Mem Go.Proofs.YtkmgiodhaaajjaaDoor.App Go.Proofs.YtkmgiodhaaajjaaDoor.FloatB Go.Proofs.YtkmgiodhaaajjaaDoor.ItemP Go.Proofs.YtkmgiodhaaajjaaDoor.ItemM Go.Proofs.YtkmgiodhaaajjaaDoor.ItemB Go.Proofs.YtkmgiodhaaajjaaDoor.SchP Go.Proofs.YtkmgiodhaaajjaaDoor.SchM Go.Proofs.YtkmgiodhaaajjaaDoor.SchG Go.Proofs.YtkmgiodhaaajjaaDoor.SchJ Go.Proofs.YtkmgiodhaaajjaaDoor.DenP

set_option maxRecDepth 20000 in
set_option maxHeartbeats 4000000 in
theorem rec1_calls (lo hi gl gi m cx j : Nat) (i : Int) (l : List It) (Ax : Option Addr) (key : ByteArray) (nd : Int) (opt : Bool) (w : World) (hm : l.length = m) (hc : m ≤ cx) (hL : ItsAt w lo hi l Ax 0)
    (hij : i = 2 * (j : Int)) (hj : 2 * j < m) (hh : hi ≤ w.heap.size) (hl : w.cell? ⟨gl, 0, none⟩ = some (.slice Ax m cx)) (hi' : w.cell? ⟨gi, 0, none⟩ = some (.int .i64 i)) :
    Calls Tryd.prog 133 #[.agg #[.string key, .int .i64 nd, .bool opt], .pointer (some ⟨gl, 0, none⟩), .pointer (some ⟨gi, 0, none⟩)] w fun e w' => e = .returned (.bool (keyAt l j key)) ∧ Fr (fun _ => False) w w' := by
  obtain ⟨ad, k', n', s', l2, A', c', rfl, hla, hab, hx', b0, b1, b2, b3, hch⟩ := ItsAt.kid hL (2 * j) (by omega)
  have HK := hid (show keyAt l j key = (decide (k' = 3) && decide (s' = key)) by unfold keyAt; rw [getD_it (by omega), hx']; rfl)
  obtain ⟨q2, hq2⟩ : ∃ q, l2.length = q := ⟨_, rfl⟩
  rw [hq2] at b3
  obtain ⟨i', hi2⟩ : ∃ i' : Nat, i = (i' : Int) := ⟨2 * j, by omega⟩
  obtain rfl : i' = 2 * j := by omega
  clear hx' hch hq2 hla hm hL
  subst hi2
  have hj0 : (0 : Int) ≤ ((2 * j : Nat) : Int) := by omega
  have hjm : ((2 * j : Nat) : Int) < (m : Int) := by omega
  have hjc : ((2 * j : Nat) : Int) < (cx : Int) := by omega
  obtain ⟨z, hz⟩ : ∃ z, 2 * j = z := ⟨_, rfl⟩
  rw [hz] at b0 b1 b2 b3 hi' hj0 hjm hjc
  clear hij hj hz
  have d0 := fun o => cell_a b0 o
  have d2 := fun o => cell_a b2 o
  have dl := fun o => cell_a hl o
  have di := fun o => cell_a hi' o
  obtain ⟨w1, hw1⟩ : ∃ w1, w.alloc (.cells #[.string key, .int .i64 nd, .bool opt] 111) = w1 := ⟨_, rfl⟩
  have HF1 := hid (show Fr (fun _ => False) w w1 by rw [← hw1]; exact (Fr.refl _ w).alloc _)
  have HB1 := hid (show Blk w1 w.heap.size 111 #[.string key, .int .i64 nd, .bool opt] by rw [← hw1]; exact Blk.new w _ _)
  have d0 : w1.cell? (ad.add (z * 4)) = some (.int .i64 k') := by rw [← hw1]; exact d0 _
  have d2 : w1.cell? ⟨(ad.add (z * 4)).block, (ad.add (z * 4)).off + 2, none⟩ = some (.string s') := by rw [← hw1]; exact d2 _
  have dl : w1.cell? ⟨gl, 0, none⟩ = some (.slice (some ad) m cx) := by rw [← hw1]; exact dl _
  have di : w1.cell? ⟨gi, 0, none⟩ = some (.int .i64 z) := by rw [← hw1]; exact di _
  have HW1 := hid hw1
  clear hw1 b0 b1 b2 b3 hl hi'
  obtain ⟨e0, _, _⟩ := blk3 HB1.out
  by_cases h3 : k' = 3
  · subst h3
    by_cases hs : s' = key
    · subst hs
      go_enter Tryd.func133, Tryd.ntmps133
      go_wp2_with fail
      rw [HW1.out]
      go_quiet (fail)
      go_wp2_with fail
      go_ret
      exact ⟨ret_bool (by rw [HK.out]; simp), HF1.out.drewN _⟩
    · have hde := decide_eq_false hs
      have hb := txt_ne hs
      have HE := hid (show keyAt l j key = false by rw [HK.out, hde]; rfl)
      go_enter Tryd.func133, Tryd.ntmps133
      go_wp2_with fail
      rw [HW1.out]
      go_quiet (fail)
      go_wp2_with fail
      go_ret
      exact ⟨ret_bool HE.out.symm, HF1.out.drewN _⟩
  · have hb : (k' == 3) = false := beq_eq_false_iff_ne.2 h3
    go_enter Tryd.func133, Tryd.ntmps133
    go_wp2_with fail
    rw [HW1.out]
    go_quiet (fail)
    go_wp2_with fail
    go_ret
    exact ⟨ret_bool (by rw [HK.out]; simp [h3]), HF1.out.drewN _⟩

set_option maxRecDepth 20000 in
set_option maxHeartbeats 4000000 in
/-- The first field whose key is that of a pair. -/
theorem field_calls (Af : Option Addr) (q cf : Nat) (fs : List Fld) (lo hi gl gi m cx j : Nat) (i : Int) (l : List It) (Ax : Option Addr) (w : World) (hq : fs.length = q) (hqc : q ≤ cf) (hqm : q ≤ 1048576) (hf : RdF w Af fs)
    (hm : l.length = m) (hc : m ≤ cx) (hL : ItsAt w lo hi l Ax 0) (hij : i = 2 * (j : Int)) (hj : 2 * j < m) (hh : hi ≤ w.heap.size) (hl : w.cell? ⟨gl, 0, none⟩ = some (.slice Ax m cx)) (hi' : w.cell? ⟨gi, 0, none⟩ = some (.int .i64 i)) (hgl : gl < w.heap.size) (hgi : gi < w.heap.size) :
    Calls Tryd.prog 132 #[.slice Af q cf, .func (.func 133) #[] #[.pointer (some ⟨gl, 0, none⟩), .pointer (some ⟨gi, 0, none⟩)]] w fun e w' =>
      (∃ r : Int, e = .returned (.int .i64 r) ∧ ((r = -1 ∧ ∀ f ∈ fs, keyAt l j f.key = false) ∨ ∃ k : Nat, r = (k : Int) ∧ ∃ h : k < fs.length, keyAt l j fs[k].key = true)) ∧ Fr (fun _ => False) w w' := by
  have HQ := hid hq
  have HFS := hid hf
  have HC := hid (fun (w' : World) (hfr : Fr (fun _ => False) w w') key nd opt => rec1_calls lo hi gl gi m cx j i l Ax key nd opt w' hm hc (hL.fr0 hfr hh) hij hj (Nat.le_trans hh hfr.size) ((hfr.cell (p := ⟨_, _, none⟩) hgl (fun h => h)).trans hl) ((hfr.cell (p := ⟨_, _, none⟩) hgi (fun h => h)).trans hi'))
  clear hq hf hm hL hl hi' hgl hgi hh hij hj hc
  go_enter Tryd.func132, Tryd.ntmps132
  go_wp2_with fail
  go_loopw [8] (fun v wr => ∃ p : Nat, p ≤ q ∧ v = .int .i64 p ∧ Hid (∀ t (ht : t < fs.length), t < p → keyAt l j fs[t].key = false) ∧ Hid (Fr (fun _ => False) w wr)) (fun v _ => q - (intOf v).toNat)
  case atStart => exact ⟨0, Nat.zero_le _, rfl, hid (fun t ht h => by omega), hid (Fr.refl _ _)⟩
  case round =>
    obtain ⟨p, hp, rfl, HA, HF⟩ := hrel
    by_cases hlt : p < q
    · have hpl : p < fs.length := by rw [HQ.out]; exact hlt
      obtain ⟨af, rfl, hab, hks, hkn, f0, f1, f2⟩ := (HFS.out.fr0 HF.out) p hpl
      obtain ⟨f, hfe⟩ : ∃ f, fs[p] = f := ⟨_, rfl⟩
      rw [hfe] at f0 f1 f2 hkn hks
      have HFE := hid (show ∀ h : p < fs.length, fs[p] = f from fun _ => hfe)
      obtain ⟨key, nd, opt⟩ := f
      simp only at f0 f1 f2 hkn hks
      clear hfe
      have hp0 : (0 : Int) ≤ (p : Int) := by omega
      have hpq : (p : Int) < (q : Int) := by omega
      have hpc : (p : Int) < (cf : Int) := by omega
      obtain ⟨b, hb⟩ : ∃ b, keyAt l j key = b := ⟨_, rfl⟩
      have HB := hid hb
      clear hb
      go_wp2_with fail
      refine (HC.out wr HF.out key nd opt).mono ?_
      rintro e w2 ⟨rfl, hf2⟩
      have HF2 := hid (HF.out.then_ hf2 (fun _ _ h => h))
      rw [HB.out]
      clear hf2
      cases b with
      | true =>
        go_wp2_with fail
        go_ret
        exact ⟨⟨p, rfl, Or.inr ⟨p, rfl, hpl, by rw [HFE.out hpl]; exact HB.out⟩⟩, HF2.out⟩
      | false =>
        go_wp2_with fail
        go_roundw
        case rel => exact ⟨p + 1, by omega, by go_num, hid (fun t ht h => by
          by_cases h' : t < p
          · exact HA.out t ht h'
          · obtain rfl : t = p := by omega
            rw [HFE.out ht]; exact HB.out), HF2⟩
        case measure => simp [intOf]; omega
    · obtain rfl : p = q := by omega
      go_wp2_with fail
      go_ret
      refine ⟨⟨-1, rfl, Or.inl ⟨rfl, fun f hf => ?_⟩⟩, HF.out⟩
      obtain ⟨t, ht, rfl⟩ := List.getElem_of_mem hf
      exact HA.out t ht (by rw [← HQ.out]; exact ht)
end Go.Proofs.YtkmgiodhaaajjaaDoor.DenC
