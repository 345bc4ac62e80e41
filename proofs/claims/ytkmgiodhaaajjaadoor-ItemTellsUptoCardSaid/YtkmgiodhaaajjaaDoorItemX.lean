/- Layer item: the copy. -/
import Derived.Test.YtkmgiodhaaajjaaDoorItemQ
import Derived.Test.YtkmgiodhaaajjaaDoorItemT
import Derived.Deep.RegionHeld3
set_option linter.unusedVariables false
set_option linter.unusedSimpArgs false
namespace Go.Proofs.YtkmgiodhaaajjaaDoor.ItemX
open Go.IntWalk Go.RowKit Go.Proofs.YtkmgiodhaaajjaaDoor.Mem Go.Proofs.YtkmgiodhaaajjaaDoor.App Go.Proofs.YtkmgiodhaaajjaaDoor.ItemP Go.Proofs.YtkmgiodhaaajjaaDoor.ItemM Go.Proofs.YtkmgiodhaaajjaaDoor.Own Go.Proofs.YtkmgiodhaaajjaaDoor.ItemA Go.Proofs.YtkmgiodhaaajjaaDoor.ItemB Go.Proofs.YtkmgiodhaaajjaaDoor.Range Go.Proofs.YtkmgiodhaaajjaaDoor.ItemT Go.Proofs.YtkmgiodhaaajjaaDoor.ItemQ

theorem sizeItem : (Tryd.prog.info? 25).map (·.size) = some 4 := by kernel_rfl
set_option maxRecDepth 100000 in
set_option maxHeartbeats 4000000 in
theorem copy_calls (N : Nat) : ∀ (x : It), x.size ≤ N → N ≤ 2000000 → ∀ (lo hi : Nat) (cs : List Value) (w : World), hi ≤ w.heap.size → ItAt w lo hi x cs →
    Calls Tryd.prog 25 #[.agg cs.toArray] w fun e w' => ∃ cs', e = .returned (.agg cs'.toArray) ∧ CpAt 25 w' (fun b => w.heap.size ≤ b ∧ b < w'.heap.size) x cs' ∧ Fr (fun _ => False) w w' := by
  induction N with
  | zero => intro x hx; have := size_pos x; omega
  | succ N ih =>
    intro x hx hN lo hi cs w hh hi_
    obtain ⟨k, n, s, l⟩ := x
    obtain ⟨A, c, rfl, hc, hk, hn, hs, hl, hL⟩ := hi_
    have HIH := hid ih
    have HSZ := hid hx
    have HLB := hid (sizes_length l)
    have hl2 : l.length ≤ 2000000 := by have h1 := HSZ.out; have h2 := HLB.out; simp only [It.size] at h1; omega
    obtain ⟨m, hm⟩ : ∃ m, l.length = m := ⟨_, rfl⟩
    have HM := hid hm
    have HL := hid hL
    have HKR := hid hk
    have HNR := hid hn
    have HSR := hid hs
    rw [hm] at hc hl2 ⊢
    clear ih hx hL hm hk hn hs hl
    obtain ⟨w1, hw1⟩ : ∃ w1, (w.alloc (.cells #[.int .i64 k, .int .u64 n, .string s, .slice A m c] 25)).alloc (.cells #[.int .i64 0, .int .u64 0, .string { data := #[] }, .slice none 0 0] 25) = w1 := ⟨_, rfl⟩
    have HF1 := hid (show Fr (fun _ => False) w w1 by rw [← hw1]; exact ((Fr.refl _ w).alloc _).alloc _)
    have HB1 := hid (show Blk w1 w.heap.size 25 #[.int .i64 k, .int .u64 n, .string s, .slice A m c] by rw [← hw1]; exact (Blk.new w _ _).alloc _)
    have HB2 := hid (show Blk w1 (w.heap.size + 1) 25 #[.int .i64 0, .int .u64 0, .string { data := #[] }, .slice none 0 0] by rw [← hw1]; have := Blk.new (w.alloc (.cells #[.int .i64 k, .int .u64 n, .string s, .slice A m c] 25)) 25 #[.int .i64 0, .int .u64 0, .string { data := #[] }, .slice none 0 0]; rwa [World.size_alloc] at this)
    have HZ1 := hid (show w1.heap.size = w.heap.size + 2 by rw [← hw1]; simp)
    have HW1 := hid hw1
    have c0 := HB1.out.cell 0
    have c1 := HB1.out.cell 1
    have c2 := HB1.out.cell 2
    have c3 := HB1.out.cell 3
    simp at c0 c1 c2 c3
    clear hw1
    go_enter Tryd.func25, Tryd.ntmps25
    go_wp2_with fail
    rw [HW1.out]
    have HB3 := hid (show Blk (w1.alloc (.cells #[.int .i64 k, .int .u64 n, .string s, .slice none 0 0] 25)) (w.heap.size + 1 + 1) 25 #[.int .i64 k, .int .u64 n, .string s, .slice none 0 0] by
      have := Blk.new w1 25 #[.int .i64 k, .int .u64 n, .string s, .slice none 0 0]
      rwa [HZ1.out] at this)
    clear c0 c1 c2 c3
    go_loopw [11] (fun i wr => ∃ (j : Nat) (A1 : Option Addr) (c1 : Nat) (ccs : List Value), j ≤ m ∧ i = .int .i64 j ∧ Hid (Blk wr (w.heap.size + 1 + 1) 25 #[.int .i64 k, .int .u64 n, .string s, .slice A1 j c1]) ∧
      Hid (OwnG 25 4 wr (w.heap.size + 1 + 1 + 1) (.slice A1 j c1) j ccs) ∧ Hid (CpsAt 25 wr (fun b => w.heap.size + 1 + 1 + 1 ≤ b ∧ b < wr.heap.size ∧ (Value.slice A1 j c1).ownBlock ≠ some b) (l.take j) ccs) ∧ Hid (Fr (fun _ => False) w1 wr)) (fun i _ => m - (intOf i).toNat)
    case atStart => exact ⟨0, none, 0, [], Nat.zero_le _, rfl, HB3, hid (OwnG.nil _ _ _ _), hid (by rw [List.take_zero]; exact rfl), hid ((Fr.refl _ w1).alloc _)⟩
    case round =>
      obtain ⟨j, A1, c1, ccs, hj, rfl, HBX, HO, HCP, HF⟩ := hrel
      have x0 := HBX.out.cell 0
      have x1 := HBX.out.cell 1
      have x2 := HBX.out.cell 2
      have x3 := HBX.out.cell 3
      have xf := HBX.out.frozen 3
      simp at x0 x1 x2 x3
      have HBR := hid (HB2.out.fr HF.out (fun h => h))
      have y0 := HBR.out.cell 0
      have y1 := HBR.out.cell 1
      have y2 := HBR.out.cell 2
      have y3 := HBR.out.cell 3
      simp at y0 y1 y2 y3
      by_cases hlt : j < m
      · obtain ⟨ad, k', n', s', l', A', c', rfl, _, hab, hx', b0, b1, b2, b3, hch⟩ := ItsAt.kid HL.out j (by rw [HM.out]; exact hlt)
        have HFA := hid (HF1.out.trans HF.out)
        have g0 := cell_fr b0 HFA.out
        have g1 := cell_fr b1 HFA.out
        have g2 := cell_fr b2 HFA.out
        have g3 := cell_fr b3 HFA.out
        have HCH := hid hch
        have HX := hid hx'
        have HCZ := hid (show (It.mk k' n' s' l').size ≤ N by have := size_get k n s l j (by rw [HM.out]; exact hlt); rw [hx'] at this; have := HSZ.out; omega)
        have hj0 : (0 : Int) ≤ (j : Int) := by omega
        have hjm : (j : Int) < (m : Int) := by omega
        have hjc : (j : Int) < (c : Int) := by omega
        clear hch hx' b0 b1 b2 b3 y0 y1 y2 y3
        have HTK := hid (List.take_succ_eq_append_getElem (show j < l.length by rw [HM.out]; exact hlt))
        obtain ⟨wq, hwq⟩ : ∃ wq, wr.alloc (.cells #[.int .i64 k', .int .u64 n', .string s', .slice A' l'.length c'] 25) = wq := ⟨_, rfl⟩
        have HWQ := hid hwq
        have HBQ := hid (show Blk wq wr.heap.size 25 #[.int .i64 k', .int .u64 n', .string s', .slice A' l'.length c'] by rw [← hwq]; exact Blk.new wr _ _)
        have HFQ := hid (show Fr (fun _ => False) wr wq by rw [← hwq]; exact (Fr.refl _ wr).alloc _)
        have HXF := hid (show ∀ w', Fr (fun b => (Value.slice A1 j c1).ownBlock = some b) wq w' → w'.cell? ⟨w.heap.size + 1 + 1, 3, none⟩ = some (.slice A1 j c1) ∧ w'.frozen? ⟨w.heap.size + 1 + 1, 3, none⟩ = false from fun w' hf => by
          have hn3 : ¬ (Value.slice A1 j c1).ownBlock = some (w.heap.size + 1 + 1) := fun h => by have := (HO.out.lt _ h).1; omega
          have h3 := (HBX.out.fr HFQ.out (fun h => h)).fr hf hn3
          have q3 := h3.cell 3
          simp at q3
          exact ⟨q3, h3.frozen 3⟩)
        have HSF2 := hid (show ∀ w', Fr (fun b => (Value.slice A1 j c1).ownBlock = some b ∨ b = w.heap.size + 1 + 1) wq w' → w'.cell? ⟨wr.heap.size, 0, none⟩ = some (.int .i64 k') ∧ w'.cell? ⟨wr.heap.size, 1, none⟩ = some (.int .u64 n') ∧ w'.cell? ⟨wr.heap.size, 2, none⟩ = some (.string s') ∧ w'.cell? ⟨wr.heap.size, 3, none⟩ = some (.slice A' l'.length c') from fun w' hf => by
          have hnr : ¬ ((Value.slice A1 j c1).ownBlock = some wr.heap.size ∨ wr.heap.size = w.heap.size + 1 + 1) := fun h => by
            rcases h with h | h
            · have := (HO.out.lt _ h).2; omega
            · have := HBX.out.lt; omega
          have h5 := HBQ.out.fr hf hnr
          have q4 := h5.cell 0
          have q5 := h5.cell 1
          have q6 := h5.cell 2
          have q7 := h5.cell 3
          simp at q4 q5 q6 q7
          exact ⟨q4, q5, q6, q7⟩)
        have HSF := hid (show ∀ w', Fr (fun b => (Value.slice A1 j c1).ownBlock = some b) wq w' → w'.cell? ⟨wr.heap.size, 0, none⟩ = some (.int .i64 k') ∧ w'.cell? ⟨wr.heap.size, 1, none⟩ = some (.int .u64 n') ∧ w'.cell? ⟨wr.heap.size, 2, none⟩ = some (.string s') ∧ w'.cell? ⟨wr.heap.size, 3, none⟩ = some (.slice A' l'.length c') from fun w' hf => HSF2.out _ (hf.mono (fun _ _ h => .inl h)))
        obtain ⟨xq, xqf⟩ := HXF.out _ (Fr.refl _ wq).drew
        have HSLQ := hid (show hi ≤ wq.heap.size from Nat.le_trans hh (Nat.le_trans HFA.out.size HFQ.out.size))
        have HCQ := hid (HCH.out.fr0 (HFA.out.trans HFQ.out |> fun h => h.drew) hh)
        have HOQ := hid (HO.out.fr0 HFQ.out)
        have hj2 : j + 1 ≤ 2000000 := by omega
        clear hwq xf
        go_wp2_with fail
        rw [HWQ.out]
        clear x0 x1 x2 x3 g0 g1 g2 g3
        obtain ⟨z0, z1, z2, z3⟩ := HSF.out _ (Fr.refl _ wq)
        go_region_law
          (first
            | ((go_simp; go_at_call 25; refine (HIH.out (.mk k' n' s' l') HCZ.out (by omega) lo hi _ wq.drew HSLQ.out HCQ.out).mono ?_; rintro e w4 ⟨cs5, rfl, hcp, hf⟩; obtain ⟨A5, c5, ccs5, rfl, hcp2⟩ := hcp; have HC5 := hid (show CpAt 25 w4 _ (.mk k' n' s' l') _ from ⟨A5, c5, ccs5, rfl, hcp2⟩); have hfr := hid (((Fr.refl (fun b => (Value.slice A1 j c1).ownBlock = some b) wq).drew).then_ hf (fun _ _ h => h.elim)); have HF4 := hid hf; obtain ⟨x4, x4f⟩ := HXF.out _ hfr.out; obtain ⟨x5, x5f⟩ := HXF.out _ (hfr.out.alloc (.cells #[.int .i64 k', .int .u64 n', .string s', .slice A5 l'.length c5] 25)); clear hcp2 hf))
            | ((refine step_appG rfl (.tmp 16) (.tmp 19) 23 rfl _ 56 Tryd.underlying23 infoItem rfl (by decide) (.slice A1 j c1) j ccs rfl (HOQ.out.fr0 ((((Fr.refl (fun _ => False) wq).drew).then_ HF4.out (fun _ _ h => h)).alloc _)) _ 1 1 rfl [.int .i64 k', .int .u64 n', .string s', .slice A5 l'.length c5] rfl HC5.out.one (RdC.blk (Blk.new w4 _ _)) (by omega) (by have h1 := HF4.out.size; have h2 := HFQ.out.size; have h3 := HF.out.size; have h4 := HZ1.out; simp at h1 ⊢; omega) ?_; intro v6 w6 h6; have hfs := hid ((hfr.out.alloc _).trans h6.out.fr); obtain ⟨x6, x6f⟩ := HXF.out _ hfs.out; obtain ⟨A6, c6, rfl, _⟩ := h6.out.own.form)))
        all_goals
          have HST := hid (cp_step (by rw [HZ1.out] : w1.heap.size = w.heap.size + 1 + 1) HBX.out HO.out HCP.out HF.out (CpAt.mono (fun b hb => ⟨by have := hb.1; rw [← HWQ.out] at this; simpa using this, hb.2⟩) _ _ HC5.out) (by rw [HWQ.out]; exact (((Fr.refl (fun _ => False) wq).drew).then_ HF4.out (fun _ _ h => h))) h6.out)
          clear xq xqf x4 x4f x5 x5f x6 x6f z0 z1 z2 z3
          go_wp2_with fail
          go_roundw
          case rel => exact ⟨j + 1, A6, c6, _, by omega, by go_num, hid HST.out.1, hid HST.out.2.1, hid (by rw [HTK.out, HX.out]; exact HST.out.2.2.1), hid HST.out.2.2.2⟩
          case measure => simp [intOf]; omega
      · have f0 := HBR.out.frozen 0
        have f1 := HBR.out.frozen 1
        have f2 := HBR.out.frozen 2
        have f3 := HBR.out.frozen 3
        go_wp2_with fail
        have HB8 := hid ((((HBR.out.set_ 0 (.int .i64 k)).set_ 1 (.int .u64 n)).set_ 2 (.string s)).set_ 3 (.slice A1 j c1))
        refine bodyPost_ret (results_cell_row rfl _ _ _ _ _ (0, 0) _ rfl HB8.out Tryd.underlying25 rfl sizeItem) rfl ?_
        have hn8 : ∀ b, w.heap.size + 1 + 1 + 1 ≤ b → ¬ b = w.heap.size + 1 := fun b h => by omega
        have HF8 := hid (((((Fr.refl (fun b => b = w.heap.size + 1) wr).setCell (p := ⟨w.heap.size + 1, 0, none⟩) (.inl rfl) (.int .i64 k)).setCell (p := ⟨w.heap.size + 1, 1, none⟩) (.inl rfl) (.int .u64 n)).setCell (p := ⟨w.heap.size + 1, 2, none⟩) (.inl rfl) (.string s)).setCell (p := ⟨w.heap.size + 1, 3, none⟩) (.inl rfl) (.slice A1 j c1))
        obtain rfl : j = m := by omega
        have htk : l.take j = l := List.take_of_length_le (by rw [HM.out]; omega)
        have hcps := HCP.out
        rw [htk] at hcps
        refine ⟨[.int .i64 k, .int .u64 n, .string s, .slice A1 j c1], rfl, ?_, (HF1.out.trans HF.out).then_ HF8.out (fun b hb h => by omega)⟩
        refine ⟨A1, c1, ccs, by rw [HM.out], HKR.out, HNR.out, HSR.out, by rw [HM.out]; omega, ?_, ?_, ?_⟩
        · rw [HM.out]
          exact (HO.out.mono (Nat.zero_le _)).fr HF8.out (fun g hg h => by have := (HO.out.lt g hg).1; omega)
        · rw [HM.out]
          intro g hg
          have h1 := HO.out.lt g hg
          exact ⟨by omega, Nat.lt_of_lt_of_le h1.2 HF8.out.size⟩
        · exact CpsAt.mono (fun b hb => ⟨by omega, Nat.lt_of_lt_of_le hb.2.1 HF8.out.size⟩) _ _ (CpsAt.fr HF8.out (fun b hb h => by omega) _ _ hcps)
end Go.Proofs.YtkmgiodhaaajjaaDoor.ItemX
