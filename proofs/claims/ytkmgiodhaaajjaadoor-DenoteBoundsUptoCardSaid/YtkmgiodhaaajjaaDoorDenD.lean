/- Layer denote: a map against a record. -/
import Derived.Test.YtkmgiodhaaajjaaDoorDenC
import Derived.Test.YtkmgiodhaaajjaaDoorSchI
import Derived.Deep.RegionHeld3
set_option linter.unusedVariables false
set_option linter.unusedSimpArgs false
namespace Go.Proofs.YtkmgiodhaaajjaaDoor.DenD
open Go.IntWalk Go.RowKit Go.Proofs.YtkmgiodhaaajjaaDoor.Mem Go.Proofs.YtkmgiodhaaajjaaDoor.App Go.Proofs.YtkmgiodhaaajjaaDoor.FloatB Go.Proofs.YtkmgiodhaaajjaaDoor.ItemP Go.Proofs.YtkmgiodhaaajjaaDoor.ItemM Go.Proofs.YtkmgiodhaaajjaaDoor.ItemB Go.Proofs.YtkmgiodhaaajjaaDoor.SchP Go.Proofs.YtkmgiodhaaajjaaDoor.SchM Go.Proofs.YtkmgiodhaaajjaaDoor.SchG Go.Proofs.YtkmgiodhaaajjaaDoor.SchI Go.Proofs.YtkmgiodhaaajjaaDoor.SchJ Go.Proofs.YtkmgiodhaaajjaaDoor.DenP Go.Proofs.YtkmgiodhaaajjaaDoor.DenC

/-- The number in a box. -/
def boxN (w : World) (v : Value) : Nat := match v with
  | .pointer (some ad) => (match w.cell? ad with | some (.int _ i) => i.toNat | _ => 0)
  | _ => 0
theorem boxN_eq {w : World} {g : Nat} {k : IntKind} {i : Int} (h : w.cell? ⟨g, 0, none⟩ = some (.int k i)) : boxN w (.pointer (some ⟨g, 0, none⟩)) = i.toNat := by
  unfold boxN
  simp only [h]
theorem count_take {fs : List Fld} {p : Nat} (h : p < fs.length) (P : Fld → Bool) : (fs.take (p + 1)).countP P = (fs.take p).countP P + (if P fs[p] = true then 1 else 0) := by
  rw [List.take_succ_eq_append_getElem h, List.countP_append, List.countP_singleton]

set_option maxRecDepth 100000 in
set_option maxHeartbeats 8000000 in
theorem record_calls (w : World) (A : Option Addr) (M c lo hi : Nat) (a0 a1 a2 a3 a4 a5 a6 a7 : Value) (fs : List Fld) (Af : Option Addr) (q cf : Nat) (x : It) (Ax : Option Addr) (m cx : Nat) (B : Nat → Int → Bool)
    (hg : MayBe x) (hk5 : x.k = 5) (hp : fs.Pairwise (fun f g => f.key ≠ g.key)) (hq : fs.length = q) (hqc : q ≤ cf) (hqm : q ≤ 1048576) (hf : RdF w Af fs)
    (hm : x.l.length = m) (hc : m ≤ cx) (hmm : m ≤ 2000000) (hL : ItsAt w lo hi x.l Ax 0) (hh : hi ≤ w.heap.size)
    (hma : ∀ w', Fr (fun _ => False) w w' → ∀ k : Nat, k < m → ∀ f ∈ fs, ∀ cs, ItAt w lo hi (x.l.getD k noIt) cs → Calls Tryd.prog 83 #[.agg #[.slice A M c], .int .i64 f.node, .agg cs.toArray] w' fun e w'' => e = .returned (.bool (B k f.node)) ∧ Fr (fun _ => False) w' w'') :
    Calls Tryd.prog 114 #[.agg #[.slice A M c], .agg #[a0, a1, a2, a3, a4, a5, a6, a7, .slice Af q cf], .slice Ax m cx] w fun e w' => e = .returned (.bool (recV x.l fs B)) ∧ Fr (fun _ => False) w w' := by
  have HGD := hid hg
  have HK5 := hid hk5
  have HP := hid hp
  have HQ := hid hq
  have HFS := hid hf
  have HM := hid hm
  have HL := hid hL
  have HMA := hid hma
  have HH := hid hh
  obtain ⟨P, hP⟩ : ∃ P, m = 2 * P := ⟨m / 2, by have := hg.even hk5; omega⟩
  have HLP := hid (show x.l.length / 2 = P by omega)
  have HPP := hid hP
  clear hg hk5 hp hq hf hm hL hma hP
  obtain ⟨w1, hw1⟩ : ∃ w1, ((w.alloc (.cells #[.slice A M c] 42)).alloc (.cells #[a0, a1, a2, a3, a4, a5, a6, a7, .slice Af q cf] 54)).alloc (.cells #[.slice Ax m cx] 23) = w1 := ⟨_, rfl⟩
  have HF1 := hid (show Fr (fun _ => False) w w1 by rw [← hw1]; exact fr_3 _ _ _ _)
  have HBS := hid (show Blk w1 w.heap.size 42 #[.slice A M c] by rw [← hw1]; exact blk_1of3 _ _ _ _ _)
  have HBN := hid (show Blk w1 (w.heap.size + 1) 54 #[a0, a1, a2, a3, a4, a5, a6, a7, .slice Af q cf] by rw [← hw1]; exact blk_2 _ _ _ _ _)
  have HBL := hid (show Blk w1 (w.heap.size + 1 + 1) 23 #[.slice Ax m cx] by rw [← hw1]; exact blk_3 _ _ _ _ _)
  have HW1 := hid hw1
  clear hw1
  have HSZ := hid (show w.heap.size + 1 + 1 < w1.heap.size from HBL.out.lt)
  have HS := hid (show ∀ w', Fr (fun _ => False) w1 w' → w'.cell? ⟨w.heap.size, 0, none⟩ = some (.slice A M c) ∧ w'.cell? ⟨w.heap.size + 1, 8, none⟩ = some (.slice Af q cf) ∧ w'.cell? ⟨w.heap.size + 1 + 1, 0, none⟩ = some (.slice Ax m cx) from fun w' hf => by
    obtain ⟨_, _, _, _, _, _, _, _, c8⟩ := blk9 (HBN.out.fr hf (fun h => h))
    exact ⟨(blk1 (HBS.out.fr hf (fun h => h))).1, c8, (blk1 (HBL.out.fr hf (fun h => h))).1⟩)
  obtain ⟨c0, c8, cl⟩ := HS.out w1 (Fr.refl _ _)
  go_enter Tryd.func114, Tryd.ntmps114
  go_wp2_with fail
  rw [HW1.out]
  clear c0 c8 cl
  go_loopw [7, 15] (fun mu ix wr => ∃ p u : Nat, p ≤ q ∧ u ≤ p ∧ mu = .int .i64 u ∧ ix = .int .i64 p ∧ Hid (u = (fs.take p).countP (fun f => !f.opt)) ∧ Hid (Fr (fun _ => False) w1 wr)) (fun _ ix _ => q - (intOf ix).toNat)
  case atStart => exact ⟨0, 0, Nat.zero_le _, Nat.le_refl _, rfl, rfl, hid (by simp), hid (Fr.refl _ _)⟩
  case round =>
    obtain ⟨p, u, hpq, hup, rfl, rfl, HU, HF⟩ := hrel
    by_cases hlt : p < q
    · have hpl : p < fs.length := by rw [HQ.out]; exact hlt
      obtain ⟨af, rfl, hab, hks, hkn, f0, f1, f2⟩ := (HFS.out.fr0 (HF1.out.trans HF.out)) p hpl
      have HCT := hid (count_take hpl (fun f => !f.opt))
      obtain ⟨f, hfe⟩ : ∃ f, fs[p] = f := ⟨_, rfl⟩
      rw [hfe] at f0 f1 f2 hkn hks HCT
      obtain ⟨key, nd, opt⟩ := f
      simp only at f0 f1 f2 hkn hks HCT
      clear hfe
      have hp0 : (0 : Int) ≤ (p : Int) := by omega
      have hpq' : (p : Int) < (q : Int) := by omega
      have hpc : (p : Int) < (cf : Int) := by omega
      have hfrz := fun (o : Obj) => (Blk.new wr 111 #[.string key, .int .i64 nd, .bool opt]).frozen 0
      cases opt with
      | true =>
        go_wp2_with fail
        go_roundw
        case rel => exact ⟨p + 1, u, by omega, by omega, rfl, by go_num, hid (by rw [HCT.out, HU.out]; simp), hid (HF.out.alloc _)⟩
        case measure => simp [intOf]; omega
      | false =>
        go_wp2_with fail
        go_roundw
        case rel => exact ⟨p + 1, u + 1, by omega, by omega, by go_num, by go_num, hid (by rw [HCT.out, HU.out]; simp), hid (HF.out.alloc _)⟩
        case measure => simp [intOf]; omega
    · obtain rfl : p = q := by omega
      have HU0 := hid (show u = left x.l fs 0 by rw [left_zero, HU.out, ← HQ.out, List.take_length])
      have HFW := hid HF.out
      have hc0 := HS.out wr HF.out
      obtain ⟨w2, hw2⟩ : ∃ w2, wr.alloc (.cells #[.int .i64 0] 3) = w2 := ⟨_, rfl⟩
      have HF2 := hid (show Fr (fun _ => False) w1 w2 by rw [← hw2]; exact HF.out.alloc _)
      have HI2 := hid (show Blk w2 wr.heap.size 3 #[.int .i64 0] by rw [← hw2]; exact Blk.new wr _ _)
      have HG2 := hid (show w1.heap.size ≤ wr.heap.size from HF.out.size)
      have HW2 := hid hw2
      clear hw2 hc0
      go_wp2_with fail
      rw [HW2.out]
      go_loopw [7, 10] (fun mu ip ws => ∃ j v gi : Nat, j ≤ P ∧ v ≤ p ∧ mu = .int .i64 v ∧ ip = .pointer (some ⟨gi, 0, none⟩) ∧ Hid (v = left x.l fs j) ∧ Hid (Blk ws gi 3 #[.int .i64 (2 * (j : Int))]) ∧ Hid (w1.heap.size ≤ gi) ∧ Hid (∀ t, t < j → ∃ f ∈ fs, keyAt x.l t f.key = true ∧ B (2 * t + 1) f.node = true) ∧ Hid (Fr (fun _ => False) w1 ws)) (fun _ ip ws => m - boxN ws ip)
      case atStart => exact ⟨0, u, _, Nat.zero_le _, hup, rfl, rfl, HU0, HI2, HG2, hid (fun t ht => by omega), HF2⟩
      case round =>
        obtain ⟨j, v, gi, hjP, hvp, rfl, rfl, HV, HBI, HGI, HD, HFR⟩ := hrel
        obtain ⟨c0, c8, cl⟩ := HS.out _ HFR.out
        obtain ⟨ci, fi⟩ := blk1 HBI.out
        have HBX := hid (boxN_eq ci)
        obtain ⟨z, hz⟩ : ∃ z : Nat, 2 * j = z := ⟨_, rfl⟩
        have HZ := hid hz
        rw [show (2 * (j : Int)) = (z : Int) by omega] at ci HBX
        have HCI := hid ci
        by_cases hlt : j < P
        · have hzm : (z : Int) < (m : Int) := by have := HPP.out; omega
          have hz0 : (0 : Int) ≤ (z : Int) := by omega
          have hzc : (z : Int) < (cx : Int) := by omega
          have hz1 : (z : Int) + 1 < (m : Int) := by have := HPP.out; omega
          have hz1c : (z : Int) + 1 < (cx : Int) := by omega
          have hgl : w.heap.size + 1 + 1 < wr.heap.size := Nat.lt_of_lt_of_le HSZ.out HFR.out.size
          go_wp2_with fail
          refine (field_calls Af p cf fs lo hi (w.heap.size + 1 + 1) gi m cx j z x.l Ax wr HQ.out hqc hqm (HFS.out.fr0 (HF1.out.trans HFR.out)) HM.out hc (HL.out.fr0 (HF1.out.trans HFR.out) HH.out) (by have := HZ.out; omega) (by have := HPP.out; omega) (Nat.le_trans HH.out (HF1.out.trans HFR.out).size) cl ci hgl HBI.out.lt).mono ?_
          rintro e w3 ⟨⟨r, rfl, hr⟩, hf3⟩
          have HF3 := hid (HFR.out.then_ hf3 (fun _ _ h => h))
          have HBI3 := hid (HBI.out.fr hf3 (fun h => h))
          clear hf3 ci c0 c8 cl fi
          obtain ⟨c0, c8, cl⟩ := HS.out _ HF3.out
          obtain ⟨ci, fi⟩ := blk1 HBI3.out
          rw [show (2 * (j : Int)) = (z : Int) by omega] at ci
          rcases hr with ⟨rfl, hno⟩ | ⟨k, rfl, hkf, hkk⟩
          · have HNO := hid hno
            clear hno
            go_wp2_with fail
            go_quiet (fail)
            go_wp2_with fail
            go_ret
            exact ⟨ret_bool (by rw [rec_no1 (m := j) (by rw [HLP.out]; exact hlt) HNO.out]), (HF1.out.trans HF3.out).drewN _⟩
          · have hkp : k < p := by rw [← HQ.out]; exact hkf
            obtain ⟨af, rfl, hab, hks, hkn, f0, f1, f2⟩ := (HFS.out.fr0 (HF1.out.trans HF3.out)) k hkf
            obtain ⟨f, hfe⟩ : ∃ f, fs[k] = f := ⟨_, rfl⟩
            have HFE := hid hfe
            have HKK := hid hkk
            have HMF := hid (List.getElem_mem hkf)
            rw [hfe] at f0 f1 f2 hkn hks HMF
            obtain ⟨key, nd, opt⟩ := f
            simp only at f0 f1 f2 hkn hks
            obtain ⟨ad, k', n', s', l2, A', c', rfl, hla, hab2, hx', b0, b1, b2, b3, hch⟩ := ItsAt.kid (HL.out.fr0 (HF1.out.trans HF3.out) HH.out) (2 * j + 1) (by have := HM.out; have := HPP.out; omega)
            have hk0 : (0 : Int) ≤ (k : Int) := by omega
            have hkp' : (k : Int) < (p : Int) := by omega
            have hkc : (k : Int) < (cf : Int) := by omega
            clear hfe hkk hks
            have HCH := hid (show ItAt w lo hi (x.l.getD (2 * j + 1) noIt) [.int .i64 k', .int .u64 n', .string s', .slice A' l2.length c'] by
              obtain ⟨ad', k'', n'', s'', l2', A'', c'', e1, _, _, hx'', d0, d1, d2, d3, hch'⟩ := ItsAt.kid HL.out (2 * j + 1) (by have := HM.out; have := HPP.out; omega)
              rw [getD_it (by have := HM.out; have := HPP.out; omega)]
              injection e1 with e1
              subst e1
              have g0 := cell_fr d0 (HF1.out.trans HF3.out)
              have g1 := cell_fr d1 (HF1.out.trans HF3.out)
              have g2 := cell_fr d2 (HF1.out.trans HF3.out)
              have g3 := cell_fr d3 (HF1.out.trans HF3.out)
              rw [b0] at g0
              rw [b1] at g1
              rw [b2] at g2
              rw [b3] at g3
              simp only [Option.some.injEq, Value.int.injEq, Value.string.injEq, Value.slice.injEq, true_and, Int.natCast_inj] at g0 g1 g2 g3
              obtain ⟨rfl, g3b, rfl⟩ := g3
              subst g0 g1 g2
              rw [hx'', g3b]
              exact hch')
            obtain ⟨q2, hq2⟩ : ∃ q, l2.length = q := ⟨_, rfl⟩
            rw [hq2] at b3 HCH
            rw [show 2 * j + 1 = z + 1 by omega] at b0 b1 b2 b3
            clear hx' hch hq2 hla
            obtain ⟨b, hb⟩ : ∃ b, B (2 * j + 1) nd = b := ⟨_, rfl⟩
            have HB := hid hb
            clear hb
            have HS3 := hid (show ∀ w', Fr (fun _ => False) w3 w' → w'.cell? ⟨w.heap.size, 0, none⟩ = some (.slice A M c) ∧ w'.cell? ⟨w.heap.size + 1, 8, none⟩ = some (.slice (some af) p cf) ∧ w'.cell? ⟨w.heap.size + 1 + 1, 0, none⟩ = some (.slice (some ad) m cx) ∧ w'.cell? ⟨gi, 0, none⟩ = some (.int .i64 (z : Int)) ∧ w'.cell? ⟨(af.add (k * 3)).block, (af.add (k * 3)).off + 1, none⟩ = some (.int .i64 nd) ∧ w'.cell? (ad.add ((z + 1) * 4)) = some (.int .i64 k') ∧ w'.cell? ⟨(ad.add ((z + 1) * 4)).block, (ad.add ((z + 1) * 4)).off + 1, none⟩ = some (.int .u64 n') ∧ w'.cell? ⟨(ad.add ((z + 1) * 4)).block, (ad.add ((z + 1) * 4)).off + 2, none⟩ = some (.string s') ∧ w'.cell? ⟨(ad.add ((z + 1) * 4)).block, (ad.add ((z + 1) * 4)).off + 3, none⟩ = some (.slice A' q2 c') ∧ Fr (fun _ => False) w3 w' from fun w' hf => by
              obtain ⟨g0, g8, gl⟩ := HS.out _ (HF3.out.trans hf)
              exact ⟨g0, g8, gl, cell_fr ci hf, cell_fr f1 hf, cell_fr b0 hf, cell_fr b1 hf, cell_fr b2 hf, cell_fr b3 hf, hf⟩)
            have HCM := hid (fun wx (hf : wx.cell? ⟨w.heap.size, 0, none⟩ = some (.slice A M c) ∧ wx.cell? ⟨w.heap.size + 1, 8, none⟩ = some (.slice (some af) p cf) ∧ wx.cell? ⟨w.heap.size + 1 + 1, 0, none⟩ = some (.slice (some ad) m cx) ∧ wx.cell? ⟨gi, 0, none⟩ = some (.int .i64 (z : Int)) ∧ wx.cell? ⟨(af.add (k * 3)).block, (af.add (k * 3)).off + 1, none⟩ = some (.int .i64 nd) ∧ wx.cell? (ad.add ((z + 1) * 4)) = some (.int .i64 k') ∧ wx.cell? ⟨(ad.add ((z + 1) * 4)).block, (ad.add ((z + 1) * 4)).off + 1, none⟩ = some (.int .u64 n') ∧ wx.cell? ⟨(ad.add ((z + 1) * 4)).block, (ad.add ((z + 1) * 4)).off + 2, none⟩ = some (.string s') ∧ wx.cell? ⟨(ad.add ((z + 1) * 4)).block, (ad.add ((z + 1) * 4)).off + 3, none⟩ = some (.slice A' q2 c') ∧ Fr (fun _ => False) w3 wx) => (HMA.out wx ((HF1.out.trans HF3.out).trans hf.2.2.2.2.2.2.2.2.2) (2 * j + 1) (by have := HPP.out; omega) ⟨key, nd, opt⟩ HMF.out _ HCH.out).mono (R' := fun e w' => e = .returned (.bool b) ∧ w'.cell? ⟨w.heap.size, 0, none⟩ = some (.slice A M c) ∧ w'.cell? ⟨w.heap.size + 1, 8, none⟩ = some (.slice (some af) p cf) ∧ w'.cell? ⟨w.heap.size + 1 + 1, 0, none⟩ = some (.slice (some ad) m cx) ∧ w'.cell? ⟨gi, 0, none⟩ = some (.int .i64 (z : Int)) ∧ w'.cell? ⟨(af.add (k * 3)).block, (af.add (k * 3)).off + 1, none⟩ = some (.int .i64 nd) ∧ w'.cell? (ad.add ((z + 1) * 4)) = some (.int .i64 k') ∧ w'.cell? ⟨(ad.add ((z + 1) * 4)).block, (ad.add ((z + 1) * 4)).off + 1, none⟩ = some (.int .u64 n') ∧ w'.cell? ⟨(ad.add ((z + 1) * 4)).block, (ad.add ((z + 1) * 4)).off + 2, none⟩ = some (.string s') ∧ w'.cell? ⟨(ad.add ((z + 1) * 4)).block, (ad.add ((z + 1) * 4)).off + 3, none⟩ = some (.slice A' q2 c') ∧ Fr (fun _ => False) w3 w') (fun e w' g => ⟨by rw [g.1]; exact ret_bool HB.out, HS3.out w' (hf.2.2.2.2.2.2.2.2.2.then_ g.2 (fun _ _ h => h))⟩))
            have HF2B := hid f2
            clear f0 f1 f2 b0 b1 b2 b3 ci fi c0 c8 cl
            have hwr : IntKind.i64.wrap ((z : Int) + 1) = (z : Int) + 1 := i64_in _ (by omega)
            have hz10 : (0 : Int) ≤ (z : Int) + 1 := by omega
            have hzt : ((z : Int) + 1).toNat = z + 1 := by omega
            cases b with
            | false =>
              go_wp2_with fail
              go_region_held3 (fun w' => w'.cell? ⟨w.heap.size, 0, none⟩ = some (.slice A M c) ∧ w'.cell? ⟨w.heap.size + 1, 8, none⟩ = some (.slice (some af) p cf) ∧ w'.cell? ⟨w.heap.size + 1 + 1, 0, none⟩ = some (.slice (some ad) m cx) ∧ w'.cell? ⟨gi, 0, none⟩ = some (.int .i64 (z : Int)) ∧ w'.cell? ⟨(af.add (k * 3)).block, (af.add (k * 3)).off + 1, none⟩ = some (.int .i64 nd) ∧ w'.cell? (ad.add ((z + 1) * 4)) = some (.int .i64 k') ∧ w'.cell? ⟨(ad.add ((z + 1) * 4)).block, (ad.add ((z + 1) * 4)).off + 1, none⟩ = some (.int .u64 n') ∧ w'.cell? ⟨(ad.add ((z + 1) * 4)).block, (ad.add ((z + 1) * 4)).off + 2, none⟩ = some (.string s') ∧ w'.cell? ⟨(ad.add ((z + 1) * 4)).block, (ad.add ((z + 1) * 4)).off + 3, none⟩ = some (.slice A' q2 c') ∧ Fr (fun _ => False) w3 w')
                (first | exact HS3.out _ (Fr.refl _ _) | exact HS3.out _ (Fr.refl _ _).drew | assumption)
                (first
                  | ((go_at_call 83; with_reducible refine (HCM.out _ (by assumption)).mono ?_; rintro e' w8 ⟨rfl, hS⟩)))
              all_goals
                go_wp2_with fail
                go_ret
                exact ⟨ret_bool (by rw [rec_no2 (m := j) HP.out (by rw [HLP.out]; exact hlt) hkf HKK.out (by rw [HFE.out]; exact HB.out)]), (HF1.out.trans HF3.out).trans hS.2.2.2.2.2.2.2.2.2⟩
            | true =>
              have HST := hid (hit_step HGD.out HK5.out HP.out (j := j) (k := k) (by have := HM.out; have := HPP.out; omega) hkf HKK.out).1
              rw [HFE.out] at HST
              simp only at HST
              have hwr2 : IntKind.i64.wrap ((z : Int) + 2) = (z : Int) + 2 := i64_in _ (by omega)
              have HDN := hid (show ∀ t, t < j + 1 → ∃ f ∈ fs, keyAt x.l t f.key = true ∧ B (2 * t + 1) f.node = true from fun t ht => by
                by_cases h : t < j
                · exact HD.out t h
                · obtain rfl : t = j := by omega
                  exact ⟨⟨key, nd, opt⟩, HMF.out, HFE.out ▸ HKK.out, HB.out⟩)
              cases opt with
              | true =>
                go_wp2_with fail
                go_region_held3 (fun w' => w'.cell? ⟨w.heap.size, 0, none⟩ = some (.slice A M c) ∧ w'.cell? ⟨w.heap.size + 1, 8, none⟩ = some (.slice (some af) p cf) ∧ w'.cell? ⟨w.heap.size + 1 + 1, 0, none⟩ = some (.slice (some ad) m cx) ∧ w'.cell? ⟨gi, 0, none⟩ = some (.int .i64 (z : Int)) ∧ w'.cell? ⟨(af.add (k * 3)).block, (af.add (k * 3)).off + 1, none⟩ = some (.int .i64 nd) ∧ w'.cell? (ad.add ((z + 1) * 4)) = some (.int .i64 k') ∧ w'.cell? ⟨(ad.add ((z + 1) * 4)).block, (ad.add ((z + 1) * 4)).off + 1, none⟩ = some (.int .u64 n') ∧ w'.cell? ⟨(ad.add ((z + 1) * 4)).block, (ad.add ((z + 1) * 4)).off + 2, none⟩ = some (.string s') ∧ w'.cell? ⟨(ad.add ((z + 1) * 4)).block, (ad.add ((z + 1) * 4)).off + 3, none⟩ = some (.slice A' q2 c') ∧ Fr (fun _ => False) w3 w')
                  (first | exact HS3.out _ (Fr.refl _ _) | exact HS3.out _ (Fr.refl _ _).drew | assumption)
                  (first
                    | ((go_at_call 83; with_reducible refine (HCM.out _ (by assumption)).mono ?_; rintro e' w8 ⟨rfl, hS⟩)))
                all_goals
                  have HF8 := hid hS.2.2.2.2.2.2.2.2.2
                  have g2 := cell_fr HF2B.out HF8.out
                  obtain ⟨s0, s8, sl, si, _⟩ := hS
                  go_wp2_with fail
                  go_roundw
                  case rel => exact ⟨j + 1, v, _, by omega, hvp, rfl, rfl, hid (by have := HST.out; have := HV.out; simp only [if_true] at *; omega), hid (by
                    rw [show (2 * ((j + 1 : Nat) : Int)) = (z : Int) + 2 by omega]
                    exact Blk.new w8 _ _), hid (Nat.le_trans (HF3.out.size) HF8.out.size), HDN, hid ((HF3.out.trans HF8.out).alloc _)⟩
                  case measure =>
                    rw [HBX.out, boxN_eq (blk1 (Blk.new w8 _ _)).1]
                    have := HPP.out
                    omega
              | false =>
                go_wp2_with fail
                go_region_held3 (fun w' => w'.cell? ⟨w.heap.size, 0, none⟩ = some (.slice A M c) ∧ w'.cell? ⟨w.heap.size + 1, 8, none⟩ = some (.slice (some af) p cf) ∧ w'.cell? ⟨w.heap.size + 1 + 1, 0, none⟩ = some (.slice (some ad) m cx) ∧ w'.cell? ⟨gi, 0, none⟩ = some (.int .i64 (z : Int)) ∧ w'.cell? ⟨(af.add (k * 3)).block, (af.add (k * 3)).off + 1, none⟩ = some (.int .i64 nd) ∧ w'.cell? (ad.add ((z + 1) * 4)) = some (.int .i64 k') ∧ w'.cell? ⟨(ad.add ((z + 1) * 4)).block, (ad.add ((z + 1) * 4)).off + 1, none⟩ = some (.int .u64 n') ∧ w'.cell? ⟨(ad.add ((z + 1) * 4)).block, (ad.add ((z + 1) * 4)).off + 2, none⟩ = some (.string s') ∧ w'.cell? ⟨(ad.add ((z + 1) * 4)).block, (ad.add ((z + 1) * 4)).off + 3, none⟩ = some (.slice A' q2 c') ∧ Fr (fun _ => False) w3 w')
                  (first | exact HS3.out _ (Fr.refl _ _) | exact HS3.out _ (Fr.refl _ _).drew | assumption)
                  (first
                    | ((go_at_call 83; with_reducible refine (HCM.out _ (by assumption)).mono ?_; rintro e' w8 ⟨rfl, hS⟩)))
                all_goals
                  have HF8 := hid hS.2.2.2.2.2.2.2.2.2
                  have g2 := cell_fr HF2B.out HF8.out
                  obtain ⟨s0, s8, sl, si, _⟩ := hS
                  obtain ⟨v', rfl⟩ : ∃ v', v = v' + 1 := ⟨v - 1, by have := HST.out; have := HV.out; simp only [Bool.false_eq_true, if_false] at *; omega⟩
                  have hwv : IntKind.i64.wrap (((v' + 1 : Nat) : Int) - 1) = (v' : Int) := by rw [show ((v' + 1 : Nat) : Int) - 1 = (v' : Int) by omega]; exact i64_in _ (by omega)
                  go_wp2_with fail
                  go_roundw
                  case rel => exact ⟨j + 1, v', _, by omega, by omega, by go_num, rfl, hid (by have := HST.out; have := HV.out; simp only [Bool.false_eq_true, if_false] at *; omega), hid (by
                    rw [show (2 * ((j + 1 : Nat) : Int)) = (z : Int) + 2 by omega]
                    exact Blk.new w8 _ _), hid (Nat.le_trans (HF3.out.size) HF8.out.size), HDN, hid ((HF3.out.trans HF8.out).alloc _)⟩
                  case measure =>
                    rw [HBX.out, boxN_eq (blk1 (Blk.new w8 _ _)).1]
                    have := HPP.out
                    omega
        · obtain rfl : j = P := by omega
          have hzm : ¬ (z : Int) < (m : Int) := by have := HPP.out; omega
          have HE := hid (show recV x.l fs B = decide (v = 0) by rw [HV.out, rec_yes (fun t ht => HD.out t (by rw [HLP.out] at ht; exact ht)), HLP.out])
          by_cases h0 : v = 0
          · subst h0
            go_wp2_with fail
            go_ret
            exact ⟨ret_bool (by rw [HE.out]; rfl), HF1.out.trans HFR.out⟩
          · have hb : ((v : Int) == 0) = false := beq_eq_false_iff_ne.2 (by omega)
            have HE2 := hid (show recV x.l fs B = false by rw [HE.out]; exact decide_eq_false h0)
            go_wp2_with fail
            go_ret
            exact ⟨ret_bool HE2.out.symm, HF1.out.trans HFR.out⟩
end Go.Proofs.YtkmgiodhaaajjaaDoor.DenD
