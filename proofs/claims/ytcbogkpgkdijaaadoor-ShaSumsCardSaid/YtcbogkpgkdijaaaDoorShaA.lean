/- Walks of layer sha: one block. -/
import Derived.Test.YtcbogkpgkdijaaaDoorProg
import Derived.Test.YtcbogkpgkdijaaaDoorShaP
import Derived.Deep.QuietTactic
import Derived.BigQuiet
import Derived.RegionTactic
import Derived.Deep.OwnRows
import Derived.Deep.RegionHeld3
import Derived.Laws.ResultCell
import Derived.OwnWalk
import Derived.IntWalk
set_option linter.unusedVariables false
set_option linter.unusedSimpArgs false
namespace Go.Proofs.YtcbogkpgkdijaaaDoor.ShaA
open Go.IntWalk Go.RowKit Go.Proofs.YtcbogkpgkdijaaaDoor.Mem Go.Proofs.YtcbogkpgkdijaaaDoor.Num Go.Proofs.YtcbogkpgkdijaaaDoor.BitsA Go.Proofs.YtcbogkpgkdijaaaDoor.BitsB Go.Proofs.YtcbogkpgkdijaaaDoor.ShaP

theorem turned_calls (x a b c : Int) (w : World) (h0 : 0 ≤ x) (hx : x < 4294967296) :
    Calls Tryd.prog 57 #[.int .u32 x, .int .i64 a, .int .i64 b, .int .i64 c] w fun e w' => e = .returned (.int .u32 (turn x a b c)) ∧ w = w' := by
  go_enter Tryd.func57, Tryd.ntmps57
  go_wp2_with ((with_reducible refine (right32_calls x _ _ h0 hx).mono ?_); rintro e w' ⟨rfl, rfl⟩)
  go_ret
  exact ⟨ret_int rfl, rfl⟩

theorem rd_drop {k : IntKind} {w : World} {Ad : Option Addr} {xs : List Int} (h : RdI k w Ad xs) (n : Nat) : RdI k w (Ad.map fun x => x.add n) (xs.drop n) := by
  intro i hi
  rw [List.length_drop] at hi
  obtain ⟨ad, rfl, hb, hc⟩ := h (n + i) (by omega)
  refine ⟨ad.add n, rfl, by rw [block_of_add]; exact hb, ?_⟩
  rw [add_of_add, hc]
  simp [List.getD_eq_getElem?_getD]
theorem big32_any (A : Option Addr) (c n : Nat) (xs : List Int) (w : World) (hn : xs.length = n) (hr : RdI .u8 w A xs) (hb : Bytes xs) :
    Calls Tryd.prog 55 #[.slice A n c] w fun e w' => e = .returned (.int .u32 (val (firstS xs 4) % 4294967296)) ∧ Fr (fun _ => False) w w' := by subst hn; exact big32_calls A c xs w hr hb
theorem bytes_drop {xs : List Int} (h : Bytes xs) (n : Nat) : Bytes (xs.drop n) := fun c hc => h c (List.mem_of_mem_drop hc)

theorem vec_far {k : IntKind} {t : TypeId} {w : World} {g : Nat} {xs : List Int} (h : VecI k t w g xs) (g' i : Nat) (u : Value) (hne : g ≠ g') : VecI k t (w.setCell ⟨g', i, none⟩ u) g xs := Blk.far h hne u
theorem blk_far {t : TypeId} {w : World} {g : Nat} {cs : Array Value} (h : Blk w g t cs) (g' i : Nat) (u : Value) (hne : g ≠ g') : Blk (w.setCell ⟨g', i, none⟩ u) g t cs := Blk.far h hne u
theorem fr_cell {w w' : World} (h : Fr (fun _ => False) w w') (g i : Nat) (u : Value) (hg : w.heap.size ≤ g) : Fr (fun _ => False) w (w'.setCell ⟨g, i, none⟩ u) := h.setCell (.inr hg) u

theorem vec8 {k : IntKind} {t : TypeId} {w : World} {g : Nat} {a0 a1 a2 a3 a4 a5 a6 a7 : Int} (h : VecI k t w g [a0, a1, a2, a3, a4, a5, a6, a7]) :
    w.cell? ⟨g, 0, none⟩ = some (.int k a0) ∧ w.cell? ⟨g, 1, none⟩ = some (.int k a1) ∧ w.cell? ⟨g, 2, none⟩ = some (.int k a2) ∧ w.cell? ⟨g, 3, none⟩ = some (.int k a3) ∧
    w.cell? ⟨g, 4, none⟩ = some (.int k a4) ∧ w.cell? ⟨g, 5, none⟩ = some (.int k a5) ∧ w.cell? ⟨g, 6, none⟩ = some (.int k a6) ∧ w.cell? ⟨g, 7, none⟩ = some (.int k a7) :=
  ⟨h.at_ 0 (by simp), h.at_ 1 (by simp), h.at_ 2 (by simp), h.at_ 3 (by simp), h.at_ 4 (by simp), h.at_ 5 (by simp), h.at_ 6 (by simp), h.at_ 7 (by simp)⟩

theorem froz8 {t : TypeId} {w : World} {g : Nat} {cs : Array Value} (h : Blk w g t cs) :
    w.frozen? ⟨g, 0, none⟩ = false ∧ w.frozen? ⟨g, 1, none⟩ = false ∧ w.frozen? ⟨g, 2, none⟩ = false ∧ w.frozen? ⟨g, 3, none⟩ = false ∧ w.frozen? ⟨g, 4, none⟩ = false ∧ w.frozen? ⟨g, 5, none⟩ = false ∧ w.frozen? ⟨g, 6, none⟩ = false ∧ w.frozen? ⟨g, 7, none⟩ = false :=
  ⟨h.frozen 0, h.frozen 1, h.frozen 2, h.frozen 3, h.frozen 4, h.frozen 5, h.frozen 6, h.frozen 7⟩
theorem eight {xs : List Int} (h : xs.length = 8) : ∃ a0 a1 a2 a3 a4 a5 a6 a7, xs = [a0, a1, a2, a3, a4, a5, a6, a7] := by
  match xs, h with
  | [a0, a1, a2, a3, a4, a5, a6, a7], _ => exact ⟨_, _, _, _, _, _, _, _, rfl⟩

/-- The numbers of the rounds, in their variable. -/
def KTab (w : World) : Prop := ∀ t, t < 64 → w.cell? ⟨2, t, none⟩ = some (.int .u32 (at_ K t))

/-- The words of a block, under a name that nothing unfolds. -/
structure SchedIs (xs ws : List Int) : Prop where
  eq : sched xs 64 = ws
structure RoundsIs (ws s vs : List Int) : Prop where
  eq : rounds ws s 64 = vs
theorem lt_of_cell {w : World} {p : Addr} {v : Value} (h : w.cell? p = some v) : p.block < w.heap.size := by
  rcases Nat.lt_or_ge p.block w.heap.size with hlt | hge
  · exact hlt
  · simp [World.cell?, Array.getElem?_eq_none hge] at h
theorem ktab_fr {w w' : World} (h : KTab w) (hf : Fr (fun _ => False) w w') : KTab w' := fun t ht => (hf.cell (lt_of_cell (h t ht)) id).trans (h t ht)
theorem turned_q (x a b c : Int) (w : World) (k : Nat) (h0 : 0 ≤ x) (hx : x < 4294967296) :
    Calls Tryd.prog 57 #[.int .u32 x, .int .i64 a, .int .i64 b, .int .i64 c] (w.drewN k) fun e w' => e = .returned (.int .u32 (turn x a b c)) ∧ ∃ j, w' = w.drewN j := by
  refine (turned_calls x a b c _ h0 hx).mono ?_
  rintro e w' ⟨rfl, rfl⟩
  exact ⟨rfl, k, rfl⟩

theorem set8 {k : IntKind} {t : TypeId} {w : World} {g : Nat} {xs : List Int} (h : VecI k t w g xs) (hl : xs.length = 8) (x0 x1 x2 x3 x4 x5 x6 x7 : Int) :
    VecI k t ((((((((w.setCell ⟨g, 0, none⟩ (.int k x0)).setCell ⟨g, 1, none⟩ (.int k x1)).setCell ⟨g, 2, none⟩ (.int k x2)).setCell ⟨g, 3, none⟩ (.int k x3)).setCell ⟨g, 4, none⟩ (.int k x4)).setCell ⟨g, 5, none⟩ (.int k x5)).setCell ⟨g, 6, none⟩ (.int k x6)).setCell ⟨g, 7, none⟩ (.int k x7)) g [x0, x1, x2, x3, x4, x5, x6, x7] := by
  obtain ⟨a0, a1, a2, a3, a4, a5, a6, a7, rfl⟩ := eight hl
  exact (((((((h.set_ 0 x0).set_ 1 x1).set_ 2 x2).set_ 3 x3).set_ 4 x4).set_ 5 x5).set_ 6 x6).set_ 7 x7
theorem fr8 (w : World) (g : Nat) (x0 x1 x2 x3 x4 x5 x6 x7 : Value) :
    Fr (fun i => i = g) w ((((((((w.setCell ⟨g, 0, none⟩ x0).setCell ⟨g, 1, none⟩ x1).setCell ⟨g, 2, none⟩ x2).setCell ⟨g, 3, none⟩ x3).setCell ⟨g, 4, none⟩ x4).setCell ⟨g, 5, none⟩ x5).setCell ⟨g, 6, none⟩ x6).setCell ⟨g, 7, none⟩ x7) :=
  ((((((((Fr.refl (fun i => i = g) w).set1 0 x0).set1 1 x1).set1 2 x2).set1 3 x3).set1 4 x4).set1 5 x5).set1 6 x6).set1 7 x7

set_option maxRecDepth 100000 in
set_option maxHeartbeats 4000000 in
theorem compress_calls (s xs : List Int) (Ad : Option Addr) (c : Nat) (w : World) (s0 s1 s2 s3 s4 s5 s6 s7 : Int) (hs : s = [s0, s1, s2, s3, s4, s5, s6, s7]) (hsU : U s) (hr : RdI .u8 w Ad xs) (hb : Bytes xs) (hx : xs.length = 64) (hk : KTab w) (hc : 64 ≤ c) :
    Calls Tryd.prog 44 #[.agg #[.int .u32 s0, .int .u32 s1, .int .u32 s2, .int .u32 s3, .int .u32 s4, .int .u32 s5, .int .u32 s6, .int .u32 s7], .slice Ad 64 c] w
      fun e w' => e = .returned (.agg ((compress s xs).map (Value.int .u32)).toArray) ∧ Fr (fun _ => False) w w' := by
  have HR := hid hr
  have HB := hid hb
  have HX := hid hx
  have HK := hid hk
  have HS := hid hs
  have HU := hid hsU
  clear hr hb hx hk hs hsU
  obtain ⟨b, hb⟩ : ∃ b, w.heap.size = b := ⟨_, rfl⟩
  have HBb := hid hb
  go_enter Tryd.func44, Tryd.ntmps44
  go_wp2_with fail
  go_loopw [22] (fun i w' => ∃ t : Nat, t ≤ 64 ∧ i = .int .i64 t ∧ VecI .u32 39 w' b s ∧ VecI .u32 79 w' (b + 2) (sched xs t) ∧ Blk w' (b + 1) 39 (Array.replicate 8 (.int .u32 0)) ∧ Fr (fun _ => False) w w') (fun i _ => 64 - (intOf i).toNat)
  case atStart =>
    subst hb
    refine ⟨0, by omega, rfl, ?_, ?_, ?_, (((Fr.refl _ _).alloc _).alloc _).alloc _⟩
    · rw [HS.out]
      exact ((Blk.new w 39 _).alloc _).alloc _
    · have h := Blk.new ((w.alloc (.cells #[.int .u32 s0, .int .u32 s1, .int .u32 s2, .int .u32 s3, .int .u32 s4, .int .u32 s5, .int .u32 s6, .int .u32 s7] 39)).alloc (.cells (Array.replicate 8 (.int .u32 0)) 39)) 79 (Array.replicate 64 (.int .u32 0))
      rw [World.size_alloc, World.size_alloc] at h
      exact h
    · have h := (Blk.new (w.alloc (.cells #[.int .u32 s0, .int .u32 s1, .int .u32 s2, .int .u32 s3, .int .u32 s4, .int .u32 s5, .int .u32 s6, .int .u32 s7] 39)) 39 (Array.replicate 8 (.int .u32 0))).alloc (.cells (Array.replicate 64 (.int .u32 0)) 79)
      rw [World.size_alloc] at h
      exact h
  case round =>
    obtain ⟨t, ht, rfl, hv1, hv2, hv3, hf⟩ := hrel
    have HV1 := hid hv1
    have HV2 := hid hv2
    have HV3 := hid hv3
    have HF := hid hf
    clear hv1 hv2 hv3 hf
    by_cases h1 : t < 16
    · have hne : ¬ c = 4 * t := by omega
      go_wp2_with fail
      refine (big32_any _ _ _ (xs.drop (4 * t)) _ (by rw [List.length_drop, HX.out]) (rd_drop (HR.out.fr0 HF.out) (4 * t)) (bytes_drop HB.out _)).mono ?_
      rintro e w4 ⟨rfl, hf⟩
      have HF4 := hid (HF.out.then_ hf (fun _ _ h => h))
      have HV14 := hid (HV1.out.fr hf id)
      have HV24 := hid (HV2.out.fr hf id)
      have HV34 := hid (HV3.out.fr hf id)
      clear hf
      obtain ⟨v, hv⟩ : ∃ v, val (firstS (xs.drop (4 * t)) 4) % 4294967296 = v := ⟨_, rfl⟩
      have hw : word xs (sched xs t) t = v := by unfold word; rw [if_pos h1, hv]
      have HW := hid hw
      rw [hv]
      clear hv hw
      have hc4 := HV24.out.at_ t (by rw [sched_length]; omega)
      have hz4 := Blk.frozen HV24.out t
      go_wp2_with fail
      go_roundw
      case rel =>
        refine ⟨t + 1, by omega, by go_num, vec_far HV14.out _ _ _ (by omega), ?_, blk_far HV34.out _ _ _ (by omega), fr_cell HF4.out _ _ _ (by omega)⟩
        have h := HV24.out.set_ t v
        rw [← HW.out] at h
        rw [← HW.out]
        exact h
      case measure => simp [intOf]; omega
    · by_cases h2 : t < 64
      · have n2 : (t : Int) - 2 = ((t - 2 : Nat) : Int) := by omega
        have n7 : (t : Int) - 7 = ((t - 7 : Nat) : Int) := by omega
        have n15 : (t : Int) - 15 = ((t - 15 : Nat) : Int) := by omega
        have n16 : (t : Int) - 16 = ((t - 16 : Nat) : Int) := by omega
        obtain ⟨a2, h2e⟩ : ∃ v, at_ (sched xs t) (t - 2) = v := ⟨_, rfl⟩
        obtain ⟨a7, h7e⟩ : ∃ v, at_ (sched xs t) (t - 7) = v := ⟨_, rfl⟩
        obtain ⟨a15, h15e⟩ : ∃ v, at_ (sched xs t) (t - 15) = v := ⟨_, rfl⟩
        obtain ⟨a16, h16e⟩ : ∃ v, at_ (sched xs t) (t - 16) = v := ⟨_, rfl⟩
        have c2 : wr.cell? ⟨b + 2, t - 2, none⟩ = some (.int .u32 a2) := by rw [← h2e]; exact HV2.out.at_ (t - 2) (by rw [sched_length]; omega)
        have c7 : wr.cell? ⟨b + 2, t - 7, none⟩ = some (.int .u32 a7) := by rw [← h7e]; exact HV2.out.at_ (t - 7) (by rw [sched_length]; omega)
        have c15 : wr.cell? ⟨b + 2, t - 15, none⟩ = some (.int .u32 a15) := by rw [← h15e]; exact HV2.out.at_ (t - 15) (by rw [sched_length]; omega)
        have c16 : wr.cell? ⟨b + 2, t - 16, none⟩ = some (.int .u32 a16) := by rw [← h16e]; exact HV2.out.at_ (t - 16) (by rw [sched_length]; omega)
        have c0 := HV2.out.at_ t (by rw [sched_length]; omega)
        have hz := Blk.frozen HV2.out t
        have r2 := (sched_U xs t).at_ (t - 2)
        have r15 := (sched_U xs t).at_ (t - 15)
        rw [h2e] at r2
        rw [h15e] at r15
        have R2 := hid r2
        have R15 := hid r15
        have hw : word xs (sched xs t) t = W (W (W (smallB a2 + a7) + smallA a15) + a16) := by unfold word; rw [if_neg h1, h2e, h7e, h15e, h16e]
        have HW := hid hw
        clear h2e h7e h15e h16e hw r2 r15
        obtain ⟨r2a, r2b⟩ := R2.out
        obtain ⟨r15a, r15b⟩ := R15.out
        go_wp2_with fail
        go_quiet (fail)
        go_wp2_with ((first | (with_reducible refine (right32_calls a2 _ _ R2.out.1 R2.out.2).mono ?_) | (with_reducible refine (right32_calls a15 _ _ R15.out.1 R15.out.2).mono ?_)); rintro e w' ⟨rfl, rfl⟩)
        obtain ⟨S0, hS0⟩ : ∃ v, smallA a15 = v := ⟨_, rfl⟩
        obtain ⟨S1, hS1⟩ : ∃ v, smallB a2 = v := ⟨_, rfl⟩
        obtain ⟨T1, hT1⟩ : ∃ v, W (S1 + a7) = v := ⟨_, rfl⟩
        obtain ⟨T2, hT2⟩ : ∃ v, W (T1 + S0) = v := ⟨_, rfl⟩
        obtain ⟨T3, hT3⟩ : ∃ v, W (T2 + a16) = v := ⟨_, rfl⟩
        have HWT : Hid (word xs (sched xs t) t = T3) := hid (by rw [HW.out, hS0, hS1, hT1, hT2, hT3])
        rw [show Go.bits .xor .u32 (Go.bits .xor .u32 (ror 32 a15 7) (ror 32 a15 18)) (a15 / 8) = S0 from hS0, show Go.bits .xor .u32 (Go.bits .xor .u32 (ror 32 a2 17) (ror 32 a2 19)) (a2 / 1024) = S1 from hS1]
        have k1 : IntKind.u32.wrap (S1 + a7) = T1 := hT1
        have k2 : IntKind.u32.wrap (T1 + S0) = T2 := hT2
        have k3 : IntKind.u32.wrap (T2 + a16) = T3 := hT3
        clear hS0 hS1 hT1 hT2 hT3 HW r2a r2b r15a r15b c2 c15
        go_region
        go_wp2_with fail
        go_roundw
        case rel =>
          refine ⟨t + 1, by omega, by go_num, vec_far (HV1.out.drewN _) _ _ _ (by omega), ?_, blk_far (HV3.out.drewN _) _ _ _ (by omega), fr_cell (HF.out.drewN _) _ _ _ (by omega)⟩
          have h := VecI.set_ (Blk.drewN HV2.out (nq + 1)) t T3
          have e : sched xs (t + 1) = (sched xs t).set t T3 := by rw [← HWT.out]; rfl
          rw [e]
          exact h
        case measure => simp [intOf]; omega
      · have ht64 : t = 64 := by omega
        rw [show ((t : Nat) : Int) = 64 from by omega]
        subst ht64
        obtain ⟨ws, hws⟩ : ∃ v, sched xs 64 = v := ⟨_, rfl⟩
        have hwU := hid (sched_U xs 64)
        have hwl := hid (sched_length xs 64)
        rw [hws] at HV2 hwU hwl
        have HWS : SchedIs xs ws := ⟨hws⟩
        have h8 := HV1.out
        rw [HS.out] at h8
        obtain ⟨d0, d1, d2, d3, d4, d5, d6, d7⟩ := vec8 h8
        clear hws h8
        obtain ⟨g, hg⟩ : ∃ g, wr.heap.size = g := ⟨_, rfl⟩
        have hbg := hid (show b + 2 < g by have := Blk.lt HV2.out; omega)
        have hnew := hid (Blk.new wr 39 #[.int .u32 s0, .int .u32 s1, .int .u32 s2, .int .u32 s3, .int .u32 s4, .int .u32 s5, .int .u32 s6, .int .u32 s7])
        rw [hg] at hnew
        have HF1 := hid (HF.out.alloc (.cells #[.int .u32 s0, .int .u32 s1, .int .u32 s2, .int .u32 s3, .int .u32 s4, .int .u32 s5, .int .u32 s6, .int .u32 s7] 39))
        have HV11 := hid (Blk.alloc HV1.out (.cells #[.int .u32 s0, .int .u32 s1, .int .u32 s2, .int .u32 s3, .int .u32 s4, .int .u32 s5, .int .u32 s6, .int .u32 s7] 39))
        have HV21 := hid (Blk.alloc HV2.out (.cells #[.int .u32 s0, .int .u32 s1, .int .u32 s2, .int .u32 s3, .int .u32 s4, .int .u32 s5, .int .u32 s6, .int .u32 s7] 39))
        have HV31 := hid (Blk.alloc HV3.out (.cells #[.int .u32 s0, .int .u32 s1, .int .u32 s2, .int .u32 s3, .int .u32 s4, .int .u32 s5, .int .u32 s6, .int .u32 s7] 39))
        go_wp2_with fail
        clear hg d0 d1 d2 d3 d4 d5 d6 d7
        go_loopw [75] (fun i w' => ∃ t : Nat, t ≤ 64 ∧ i = .int .i64 t ∧ VecI .u32 39 w' g (rounds ws s t) ∧ VecI .u32 39 w' b s ∧ VecI .u32 79 w' (b + 2) ws ∧ Blk w' (b + 1) 39 (Array.replicate 8 (.int .u32 0)) ∧ Fr (fun _ => False) w w') (fun i _ => 64 - (intOf i).toNat)
        case atStart =>
          refine ⟨0, by omega, rfl, ?_, HV11.out, HV21.out, HV31.out, HF1.out⟩
          rw [show rounds ws s 0 = s from rfl, HS.out]
          exact hnew.out
        case round =>
          obtain ⟨t, ht, rfl, hvg, hv1, hv2, hv3, hf⟩ := hrel
          have HVG := hid hvg
          have HV12 := hid hv1
          have HV22 := hid hv2
          have HV32 := hid hv3
          have HF2 := hid hf
          clear hvg hv1 hv2 hv3 hf
          by_cases h3 : t < 64
          · obtain ⟨v0, v1, v2, v3, v4, v5, v6, v7, hv⟩ := eight (rounds_length (w := ws) (s := s) (by rw [HS.out]; rfl) t)
            have hvU := rounds_U (w := ws) HU.out t
            have hvg := HVG.out
            rw [hv] at hvg hvU
            obtain ⟨d0, d1, d2, d3, d4, d5, d6, d7⟩ := vec8 hvg
            have hz : ∀ i, wr.frozen? ⟨g, i, none⟩ = false := fun i => Blk.frozen hvg i
            have u4 := hid (hvU v4 (by simp))
            have u0 := hid (hvU v0 (by simp))
            obtain ⟨kt, hkt⟩ : ∃ v, at_ K t = v := ⟨_, rfl⟩
            obtain ⟨wt, hwt⟩ : ∃ v, at_ ws t = v := ⟨_, rfl⟩
            have HV := hid hv
            have HKT := hid hkt
            have HWT := hid hwt
            have ck : wr.cell? ⟨2, t, none⟩ = some (.int .u32 kt) := by rw [← hkt]; exact (ktab_fr HK.out HF2.out) t h3
            have cw : wr.cell? ⟨b + 2, t, none⟩ = some (.int .u32 wt) := by rw [← hwt]; exact HV22.out.at_ t (by rw [hwl.out]; omega)
            clear hv hkt hwt hvU hvg
            go_wp2_with fail
            go_quiet (fail)
            obtain ⟨wq, hwq⟩ : ∃ wq, wr.drewN nq = wq := ⟨_, rfl⟩
            rw [hwq]
            have qg := hid (show VecI .u32 39 wq g _ by rw [← hwq]; exact HVG.out.drewN nq)
            have q1 := hid (show VecI .u32 39 wq b s by rw [← hwq]; exact HV12.out.drewN nq)
            have q2 := hid (show VecI .u32 79 wq (b + 2) ws by rw [← hwq]; exact HV22.out.drewN nq)
            have q3 := hid (show Blk wq (b + 1) 39 (Array.replicate 8 (.int .u32 0)) by rw [← hwq]; exact HV32.out.drewN nq)
            have qf := hid (show Fr (fun _ => False) w wq by rw [← hwq]; exact HF2.out.drewN nq)
            clear hwq ck cw hz d0 d1 d2 d3 d4 d5 d6 d7 HVG HV12 HV22 HV32 HF2
            have ck : wq.cell? ⟨2, t, none⟩ = some (.int .u32 kt) := by rw [← HKT.out]; exact (ktab_fr HK.out qf.out) t h3
            have cw : wq.cell? ⟨b + 2, t, none⟩ = some (.int .u32 wt) := by rw [← HWT.out]; exact q2.out.at_ t (by rw [hwl.out]; omega)
            have hvg := qg.out
            rw [HV.out] at hvg
            obtain ⟨d0, d1, d2, d3, d4, d5, d6, d7⟩ := vec8 hvg
            obtain ⟨z0, z1, z2, z3, z4, z5, z6, z7⟩ := froz8 hvg
            clear hvg
            go_wp2_with fail
            go_quiet ((go_at_call 57; exact turned_q v4 _ _ _ _ _ u4.out.1 u4.out.2))
            obtain ⟨T1, hT1⟩ : ∃ v, ((v7 + turn v4 6 11 25 + Go.bits .xor .u32 (Go.bits .and .u32 v4 v5) (Go.bits .and .u32 (Go.bits .xor .u32 (if IntKind.u32.signed = true then -1 else IntKind.u32.max) v4) v6) + kt) % 4294967296 + wt) % 4294967296 = v := ⟨_, rfl⟩
            rw [hT1]
            have HT1 := hid (show t1 ws [v0, v1, v2, v3, v4, v5, v6, v7] t = T1 by unfold t1; rw [HKT.out, HWT.out, ← hT1]; rfl)
            have b1 : 0 ≤ T1 := by omega
            have b2 : T1 < 4294967296 := by omega
            clear hT1
            go_wp2_with ((with_reducible refine (turned_calls v0 _ _ _ _ u0.out.1 u0.out.2).mono ?_); rintro e w' ⟨rfl, rfl⟩)
            go_roundw
            case rel =>
              have F8 := fr8 (wq.drewN nq) g (.int .u32 ((T1 + t2 [v0, v1, v2, v3, v4, v5, v6, v7]) % 4294967296)) (.int .u32 v0) (.int .u32 v1) (.int .u32 v2) (.int .u32 ((v3 + T1) % 4294967296)) (.int .u32 v4) (.int .u32 v5) (.int .u32 v6)
              refine ⟨t + 1, by omega, by go_num, ?_, (q1.out.drewN nq).fr F8 (by have := hbg.out; omega), (q2.out.drewN nq).fr F8 (by have := hbg.out; omega), (q3.out.drewN nq).fr F8 (by have := hbg.out; omega), (qf.out.drewN nq).then_ F8 (fun i hi h => by have := hbg.out; have := HBb.out; omega)⟩
              have h := set8 (w := wq.drewN nq) (qg.out.drewN nq) (by rw [HV.out]; rfl) ((T1 + t2 [v0, v1, v2, v3, v4, v5, v6, v7]) % 4294967296) v0 v1 v2 ((v3 + T1) % 4294967296) v4 v5 v6
              have e : rounds ws s (t + 1) = [(T1 + t2 [v0, v1, v2, v3, v4, v5, v6, v7]) % 4294967296, v0, v1, v2, (v3 + T1) % 4294967296, v4, v5, v6] := by
                rw [show rounds ws s (t + 1) = round ws (rounds ws s t) t from rfl, HV.out]
                unfold round
                rw [HT1.out]
                rfl
              rw [e]
              exact h
            case measure => simp [intOf]; omega
          · have ht64 : t = 64 := by omega
            rw [show ((t : Nat) : Int) = 64 from by omega]
            subst ht64
            obtain ⟨vs, hvs⟩ : ∃ v, rounds ws s 64 = v := ⟨_, rfl⟩
            have hvl := hid (rounds_length (w := ws) (s := s) (by rw [HS.out]; rfl) 64)
            rw [hvs] at HVG hvl
            have HVS : RoundsIs ws s vs := ⟨hvs⟩
            clear hvs
            go_wp2_with fail
            go_loopw [141] (fun i w' => ∃ t : Nat, t ≤ 8 ∧ i = .int .i64 t ∧ VecI .u32 39 w' g vs ∧ VecI .u32 39 w' b (added s vs t) ∧ Blk w' (b + 1) 39 (Array.replicate 8 (.int .u32 0)) ∧ Fr (fun _ => False) w w') (fun i _ => 8 - (intOf i).toNat)
            case atStart => exact ⟨0, by omega, rfl, HVG.out, HV12.out, HV32.out, HF2.out⟩
            case round =>
              obtain ⟨t, ht, rfl, hvg, hv1, hv3, hf⟩ := hrel
              have HVG := hid hvg
              have HV13 := hid hv1
              have HV33 := hid hv3
              have HF3 := hid hf
              clear hvg hv1 hv3 hf
              by_cases h4 : t < 8
              · obtain ⟨p, hp⟩ : ∃ v, at_ (added s vs t) t = v := ⟨_, rfl⟩
                obtain ⟨q, hq⟩ : ∃ v, at_ vs t = v := ⟨_, rfl⟩
                have c1 : wr.cell? ⟨b, t, none⟩ = some (.int .u32 p) := by rw [← hp]; exact HV13.out.at_ t (by rw [added_length, HS.out]; exact h4)
                have c2 : wr.cell? ⟨g, t, none⟩ = some (.int .u32 q) := by rw [← hq]; exact HVG.out.at_ t (by rw [hvl.out]; exact h4)
                have hz := Blk.frozen HV13.out t
                have HE := hid (show added s vs (t + 1) = (added s vs t).set t (W (p + q)) by rw [← hp, ← hq]; rfl)
                clear hp hq
                go_wp2_with fail
                go_region
                go_wp2_with fail
                go_roundw
                case rel =>
                  have FS := (((Fr.refl (fun i => i = b) wr).set1 t (.int .u32 ((p + q) % 4294967296)))).drew
                  refine ⟨t + 1, by omega, by go_num, HVG.out.fr FS (by have := hbg.out; omega), ?_, HV33.out.fr FS (by omega), HF3.out.then_ FS (fun i hi h => by have := HBb.out; omega)⟩
                  have h := HV13.out.set_ t (W (p + q))
                  rw [← HE.out] at h
                  rw [show (p + q) % 4294967296 = W (p + q) from (wrap_u32 _).symm]
                  exact Blk.drew h
                case measure => simp [intOf]; omega
              · have ht8 : t = 8 := by omega
                rw [show ((t : Nat) : Int) = 8 from by omega]
                subst ht8
                obtain ⟨e0, e1, e2, e3, e4, e5, e6, e7, he⟩ := eight (xs := added s vs 8) (by rw [added_length, HS.out]; rfl)
                have h8 := HV13.out
                rw [he] at h8
                obtain ⟨d0, d1, d2, d3, d4, d5, d6, d7⟩ := vec8 h8
                obtain ⟨n0, n1, n2, n3, n4, n5, n6, n7⟩ := vec8 (show VecI .u32 39 wr (b + 1) [0, 0, 0, 0, 0, 0, 0, 0] from HV33.out)
                obtain ⟨z0, z1, z2, z3, z4, z5, z6, z7⟩ := froz8 HV33.out
                have HE := hid he
                clear he h8
                go_wp2_with fail
                have h9 := set8 (show VecI .u32 39 wr (b + 1) [0, 0, 0, 0, 0, 0, 0, 0] from HV33.out) rfl e0 e1 e2 e3 e4 e5 e6 e7
                refine bodyPost_ret (results_cell_row rfl _ _ (b + 1) 39 _ (0, 0) _ rfl h9 Tryd.underlying39 rfl (by kernel_rfl)) rfl ⟨?_, ?_⟩
                · rw [show compress s xs = added s vs 8 by unfold compress; rw [HWS.eq, HVS.eq], HE.out]
                · exact HF3.out.then_ (fr8 wr (b + 1) _ _ _ _ _ _ _ _) (fun i hi h => by have := HBb.out; omega)
end Go.Proofs.YtcbogkpgkdijaaaDoor.ShaA
