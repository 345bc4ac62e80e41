/- Walks of layer head: the document's Read, at the beginning. -/
import Derived.Test.YtgdhchknegjpfaaDoorHeadE
set_option linter.unusedVariables false
set_option linter.unusedSimpArgs false
namespace Go.Proofs.YtgdhchknegjpfaaDoor.HeadG
open Go.IntWalk Go.RowKit Go.Proofs.YtgdhchknegjpfaaDoor.Mem Go.Proofs.YtgdhchknegjpfaaDoor.Num Go.Proofs.YtgdhchknegjpfaaDoor.BitsA Go.Proofs.YtgdhchknegjpfaaDoor.BitsB Go.Proofs.YtgdhchknegjpfaaDoor.App Go.Proofs.YtgdhchknegjpfaaDoor.FloatP Go.Proofs.YtgdhchknegjpfaaDoor.FloatB Go.Proofs.YtgdhchknegjpfaaDoor.FloatG Go.Proofs.YtgdhchknegjpfaaDoor.FloatI Go.Proofs.YtgdhchknegjpfaaDoor.HeadP Go.Proofs.YtgdhchknegjpfaaDoor.HeadA Go.Proofs.YtgdhchknegjpfaaDoor.HeadB Go.Proofs.YtgdhchknegjpfaaDoor.HeadC Go.Proofs.YtgdhchknegjpfaaDoor.HeadD Go.Proofs.YtgdhchknegjpfaaDoor.HeadE

theorem results6 {fn : Func} {a b c d e f : Tmp} (h : fn.results = #[.tmp a, .tmp b, .tmp c, .tmp d, .tmp e, .tmp f]) (tmps : Array Value) (P : Program) (w : World) :
    (results fn tmps).run P w = .ok (.tuple #[tmps.getD a undef, tmps.getD b undef, tmps.getD c undef, tmps.getD d undef, tmps.getD e undef, tmps.getD f undef]) w := by simp [results, h]
def rdV (r : Rd) : Value := .tuple #[.int .i64 r.M, .int .i64 r.W, .int .u64 r.A, .int .i64 r.many, .int .i64 r.at_, .int .i64 r.f]
def ReadTo (r : Rd) (w : World) (e : Ending) (w' : World) : Prop := e = .returned (rdV r) ∧ Fr (fun _ => False) w w'
theorem read_nil (A : Option Addr) (cap : Nat) (w : World) : Calls Tryd.prog 16 #[.slice A 0 cap, .int .i64 0] w (ReadTo (readR []) w) := by
  go_enter Tryd.func16, Tryd.ntmps16
  go_wp2_with fail
  refine bodyPost_ret (results6 rfl _ _ _) rfl ?_
  exact ⟨rfl, Fr.refl _ _⟩
/-- The first byte, told apart. -/
structure Byt0 (xs : List Int) (c : Int) (M I : Nat) : Prop where
  hd : xs.getD 0 0 = c
  e : c = 32 * (M : Int) + (I : Int)
  M8 : M < 8
  I32 : I < 32
  ne : 0 < xs.length
theorem Byt0.read {xs : List Int} {c : Int} {M I : Nat} (h : Byt0 xs c M I) : readR xs = readC xs c.toNat ∧ c.toNat / 32 = M ∧ c.toNat % 32 = I := by
  have h1 := h.e
  have h2 := h.I32
  refine ⟨?_, by omega, by omega⟩
  have h0 := h.hd
  have hn := h.ne
  cases xs with
  | nil => exact absurd hn (by simp)
  | cons y ys =>
    simp only [List.getD_cons_zero] at h0
    rw [← h0]
    rfl
theorem Byt0.err {xs : List Int} {c : Int} {M I : Nat} (h : Byt0 xs c M I) (h28 : 28 ≤ I) : readR xs = ⟨0, 0, 0, 0, 0, begE M I⟩ := by
  obtain ⟨h1, h2, h3⟩ := h.read
  rw [h1]; unfold readC; rw [h2, h3, if_pos h28]
theorem Byt0.low {xs : List Int} {c : Int} {M I : Nat} (h : Byt0 xs c M I) (h24 : I < 24) : readR xs = ⟨M, 0, I, 1, -1, 0⟩ := by
  obtain ⟨h1, h2, h3⟩ := h.read
  rw [h1]; unfold readC; rw [h2, h3, if_neg (by omega), if_pos h24]
theorem Byt0.wide {xs : List Int} {c : Int} {M I : Nat} (h : Byt0 xs c M I) (h24 : 24 ≤ I) (h27 : I ≤ 27) : readR xs = readW xs M (begW I) := by
  obtain ⟨h1, h2, h3⟩ := h.read
  rw [h1]; unfold readC; rw [h2, h3, if_neg (by omega), if_neg (by omega)]
theorem number_1 (A : Option Addr) (n cap : Nat) (xs : List Int) (W : Nat) (w : World) (hn : xs.length = n) (hr : RdI .u8 w A xs) (hb : Bytes xs) (hl : n ≤ 140737488355328) (hW : W ≤ 8) :
    Calls Tryd.prog 39 #[.slice A n cap, .int .i64 1, .int .i64 (W : Int)] w fun e w' => e = .returned (.int .u64 ((arg xs W : Nat) : Int)) ∧ w = w' := by
  subst hn
  rw [arg_val]
  exact number_calls A cap xs 1 W w hr hb hl (by decide) (by omega)
set_option maxHeartbeats 4000000 in
theorem read_some (A : Option Addr) (n cap : Nat) (xs : List Int) (c : Int) (M I : Nat) (w : World) (hd : Dbl w) (hn : xs.length = n) (hr : RdI .u8 w A xs) (hb : Bytes xs) (hl : n ≤ 140737488355328) (h0 : Byt0 xs c M I) :
    Calls Tryd.prog 16 #[.slice A n cap, .int .i64 0] w (ReadTo (readR xs) w) := by
  have HD := hid hd
  have HN := hid hn
  have HR := hid hr
  have HB := hid hb
  have H0 := hid h0
  have hn0 : 0 < n := by rw [← hn]; exact h0.ne
  obtain ⟨ad, rfl, hadl, hc⟩ := hr 0 h0.ne
  rw [show ad.add 0 = ad by simp [Addr.add], h0.hd] at hc
  have hM8 := h0.M8
  have hI32 := h0.I32
  have hce := h0.e
  have k1 : Int.tdiv c 32 = (M : Int) := by rw [Int.tdiv_eq_ediv_of_nonneg (by omega)]; omega
  have k2 : Int.tmod c 32 = (I : Int) := by rw [Int.tmod_eq_emod_of_nonneg (by omega)]; omega
  have k3 : c / 32 = (M : Int) := by omega
  have k4 : c % 32 = (I : Int) := by omega
  have c0 : 0 ≤ c := by omega
  have c1 : c < 256 := by omega
  obtain ⟨r, hr⟩ : ∃ r, readR xs = r := ⟨_, rfl⟩
  rw [hr]
  have HRE := hid hr
  clear hd hn hb h0 hce hr
  go_enter Tryd.func16, Tryd.ntmps16
  go_wp2_with fail
  go_quiet (fail)
  have HFq := hid (drewN_fr (fun _ => False) w nq)
  obtain ⟨wq, hwq⟩ : ∃ wq, w.drewN nq = wq := ⟨_, rfl⟩
  rw [hwq] at HFq ⊢
  clear hwq k1 k2 k3 k4 hc hr
  by_cases h28 : 28 ≤ I
  · have h28' : 28 ≤ (I : Int) := by omega
    go_wp2_with fail
    all_goals
      refine bodyPost_ret (results6 rfl _ _ _) rfl ⟨?_, HFq.out⟩
      rw [← HRE.out, H0.out.err h28]
      first
        | (rw [show begE M I = 5 by unfold begE; rw [if_pos (by omega)]]; rfl)
        | (rw [show begE M I = 2 by unfold begE; rw [if_neg (by omega), if_pos (by omega)]]; rfl)
  · have h28' : ¬ 28 ≤ (I : Int) := by omega
    by_cases h24 : I < 24
    · have h24' : (I : Int) < 24 := by omega
      go_wp2_with fail
      refine bodyPost_ret (results6 rfl _ _ _) rfl ⟨?_, HFq.out⟩
      rw [← HRE.out, H0.out.low h24]
      rfl
    · have h24' : ¬ (I : Int) < 24 := by omega
      have d28 : decide (28 ≤ (I : Int)) = false := decide_eq_false h28'
      have d24 : decide ((I : Int) < 24) = false := decide_eq_false h24'
      go_wp2_with fail
      go_loop [12, 13] (fun v i => ∃ j : Nat, j ≤ I - 24 ∧ i = .int .i64 (24 + (j : Int)) ∧ v = .int .i64 ((2 ^ j : Nat) : Int)) (fun _ i => 40 - (intOf i).toNat)
      case atStart => exact ⟨0, by omega, rfl, rfl⟩
      case round =>
        obtain ⟨j, hj, rfl, rfl⟩ := hrel
        by_cases hji : j < I - 24
        · obtain ⟨q, hq⟩ : ∃ q, 2 ^ j = q := ⟨_, rfl⟩
          have hq1 : q ≤ 8 := by
            have : j ≤ 3 := by omega
            rw [← hq]
            exact Nat.pow_le_pow_right (by decide) this
          have HQ := hid hq
          rw [hq]
          clear hq
          go_wp2_with fail
          go_round
          case rel => exact ⟨j + 1, by omega, by rw [show 24 + (((j + 1 : Nat)) : Int) = 24 + (j : Int) + 1 by omega], by rw [Nat.pow_succ, HQ.out]; go_num⟩
          case measure => simp [intOf]; omega
        · have hje : j = I - 24 := by omega
          obtain ⟨W, hW⟩ : ∃ W, begW I = W := ⟨_, rfl⟩
          have hWc := begW_cases (show 24 ≤ I by omega) (show I ≤ 27 by omega)
          have h2j : 2 ^ j = W := by
            rw [← hW, hje]
            have : I = 24 ∨ I = 25 ∨ I = 26 ∨ I = 27 := by omega
            rcases this with rfl | rfl | rfl | rfl <;> rfl
          rw [hW] at hWc
          have HRW := hid (show readW xs M W = r by rw [← HRE.out, H0.out.wide (by omega) (by omega), hW])
          rw [h2j, show 24 + (j : Int) = (I : Int) by omega]
          clear h2j hje hW hji hj
          by_cases hnW : n ≤ W
          · have hnW' : (n : Int) ≤ (W : Int) := by omega
            go_wp2_with fail
            refine bodyPost_ret (results6 rfl _ _ _) rfl ⟨?_, HFq.out⟩
            rw [← HRW.out]
            unfold readW
            rw [if_pos (by rw [HN.out]; exact hnW), HN.out]
            rfl
          · have hnW' : ¬ (n : Int) ≤ (W : Int) := by omega
            have hdW : decide ((W : Int) ≥ (n : Int)) = false := decide_eq_false (by omega)
            go_wp2_with fail
            refine (number_1 (some ad) n cap xs W wq HN.out (HR.out.fr0 HFq.out) HB.out hl (by omega)).mono ?_
            rintro e w3 ⟨rfl, rfl⟩
            have HF := HFq
            obtain ⟨B, hB⟩ : ∃ B, arg xs W = B := ⟨_, rfl⟩
            have hB64 : B < 2 ^ 64 := by rw [← hB]; exact arg_lt xs W
            rw [hB]
            have HBE := hid hB
            have HB64 := hid hB64
            clear hB hB64
            by_cases h7 : M = 7
            · subst h7
              by_cases hW1 : W = 1
              · subst hW1
                by_cases h32 : B < 32
                · have h32' : (B : Int) < 32 := by omega
                  go_wp2_with fail
                  refine bodyPost_ret (results6 rfl _ _ _) rfl ⟨?_, HF.out⟩
                  rw [← HRW.out]
                  unfold readW
                  rw [if_neg (by rw [HN.out]; exact hnW), if_pos (by rw [HBE.out]; exact ⟨rfl, rfl, h32⟩)]
                  rfl
                · have h32' : ¬ (B : Int) < 32 := by omega
                  have HL := hid (show longB 7 1 B = false from rfl)
                  go_wp2_with fail
                  refine bodyPost_ret (results6 rfl _ _ _) rfl ⟨?_, HF.out⟩
                  rw [← HRW.out]
                  unfold readW
                  rw [HBE.out, if_neg (by rw [HN.out]; exact hnW), if_neg (by omega), if_neg (by rw [HL.out]; decide)]
                  rfl
              · have hW1' : ((W : Int) == 1) = false := beq_eq_false_iff_ne.2 (by omega)
                have hW2 : decide ((W : Int) > 1) = true := decide_eq_true (by omega)
                have hW3 : decide (1 < (W : Int)) = true := decide_eq_true (by omega)
                have HSH := hid (show longB 7 W B = !shortR B W by unfold longB; rw [if_neg (by omega), if_pos rfl, decide_eq_true (by omega), Bool.true_and])
                obtain ⟨b, hb⟩ : ∃ b, shortR B W = b := ⟨_, rfl⟩
                rw [hb] at HSH
                have HSB := hid hb
                clear hb
                go_wp2_with fail
                refine (rshort_calls _ B W HB64.out).mono ?_
                rintro e w4 ⟨rfl, hf⟩
                have HF := hid (HFq.out.then_ hf (fun _ _ h => h))
                rw [HSB.out]
                clear hf
                cases b
                · have HL := hid (show longB 7 W B = true from HSH.out)
                  go_wp2_with fail
                  refine bodyPost_ret (results6 rfl _ _ _) rfl ⟨?_, HF.out⟩
                  rw [← HRW.out]
                  unfold readW
                  rw [HBE.out, if_neg (by rw [HN.out]; exact hnW), if_neg (by omega), if_pos HL.out]
                  rfl
                · have HL := hid (show longB 7 W B = false from HSH.out)
                  go_wp2_with fail
                  refine bodyPost_ret (results6 rfl _ _ _) rfl ⟨?_, HF.out⟩
                  rw [← HRW.out]
                  unfold readW
                  rw [HBE.out, if_neg (by rw [HN.out]; exact hnW), if_neg (by omega), if_neg (by rw [HL.out]; decide)]
                  rfl
            · have e7 : ((M : Int) == 7) = false := beq_eq_false_iff_ne.2 (by omega)
              rcases hWc with rfl | rfl | rfl | rfl
              · by_cases hs : B < 24
                · have hs' : (B : Int) < 24 := by omega
                  have hd' : decide ((B : Int) < 24) = true := decide_eq_true hs'
                  have HL := hid (show longB M 1 B = true by unfold longB; rw [if_neg (by decide), if_neg h7, if_pos rfl]; exact decide_eq_true (by omega))
                  go_wp2_with fail
                  refine bodyPost_ret (results6 rfl _ _ _) rfl ⟨?_, HF.out⟩
                  rw [← HRW.out]
                  unfold readW
                  rw [HBE.out, if_neg (by rw [HN.out]; exact hnW), if_neg (by intro h; exact h7 h.1), if_pos HL.out]
                  rfl
                · have hs' : ¬ (B : Int) < 24 := by omega
                  have hd' : decide ((B : Int) < 24) = false := decide_eq_false hs'
                  have HL := hid (show longB M 1 B = false by unfold longB; rw [if_neg (by decide), if_neg h7, if_pos rfl]; exact decide_eq_false (by omega))
                  go_wp2_with fail
                  refine bodyPost_ret (results6 rfl _ _ _) rfl ⟨?_, HF.out⟩
                  rw [← HRW.out]
                  unfold readW
                  rw [HBE.out, if_neg (by rw [HN.out]; exact hnW), if_neg (by intro h; exact h7 h.1), if_neg (by rw [HL.out]; decide)]
                  rfl
              · by_cases hs : B < 256
                · have hs' : (B : Int) < 256 := by omega
                  have hd' : decide ((B : Int) < 256) = true := decide_eq_true hs'
                  have HL := hid (show longB M 2 B = true by unfold longB; rw [if_neg (by decide), if_neg h7, if_neg (by decide)]; exact decide_eq_true (by omega))
                  go_wp2_with fail
                  refine bodyPost_ret (results6 rfl _ _ _) rfl ⟨?_, HF.out⟩
                  rw [← HRW.out]
                  unfold readW
                  rw [HBE.out, if_neg (by rw [HN.out]; exact hnW), if_neg (by intro h; exact h7 h.1), if_pos HL.out]
                  rfl
                · have hs' : ¬ (B : Int) < 256 := by omega
                  have hd' : decide ((B : Int) < 256) = false := decide_eq_false hs'
                  have HL := hid (show longB M 2 B = false by unfold longB; rw [if_neg (by decide), if_neg h7, if_neg (by decide)]; exact decide_eq_false (by omega))
                  go_wp2_with fail
                  refine bodyPost_ret (results6 rfl _ _ _) rfl ⟨?_, HF.out⟩
                  rw [← HRW.out]
                  unfold readW
                  rw [HBE.out, if_neg (by rw [HN.out]; exact hnW), if_neg (by intro h; exact h7 h.1), if_neg (by rw [HL.out]; decide)]
                  rfl
              · by_cases hs : B < 65536
                · have hs' : (B : Int) < 65536 := by omega
                  have hd' : decide ((B : Int) < 65536) = true := decide_eq_true hs'
                  have HL := hid (show longB M 4 B = true by unfold longB; rw [if_neg (by decide), if_neg h7, if_neg (by decide)]; exact decide_eq_true (by omega))
                  go_wp2_with fail
                  refine bodyPost_ret (results6 rfl _ _ _) rfl ⟨?_, HF.out⟩
                  rw [← HRW.out]
                  unfold readW
                  rw [HBE.out, if_neg (by rw [HN.out]; exact hnW), if_neg (by intro h; exact h7 h.1), if_pos HL.out]
                  rfl
                · have hs' : ¬ (B : Int) < 65536 := by omega
                  have hd' : decide ((B : Int) < 65536) = false := decide_eq_false hs'
                  have HL := hid (show longB M 4 B = false by unfold longB; rw [if_neg (by decide), if_neg h7, if_neg (by decide)]; exact decide_eq_false (by omega))
                  go_wp2_with fail
                  refine bodyPost_ret (results6 rfl _ _ _) rfl ⟨?_, HF.out⟩
                  rw [← HRW.out]
                  unfold readW
                  rw [HBE.out, if_neg (by rw [HN.out]; exact hnW), if_neg (by intro h; exact h7 h.1), if_neg (by rw [HL.out]; decide)]
                  rfl
              · by_cases hs : B < 4294967296
                · have hs' : (B : Int) < 4294967296 := by omega
                  have hd' : decide ((B : Int) < 4294967296) = true := decide_eq_true hs'
                  have HL := hid (show longB M 8 B = true by unfold longB; rw [if_neg (by decide), if_neg h7, if_neg (by decide)]; exact decide_eq_true (by omega))
                  go_wp2_with fail
                  refine bodyPost_ret (results6 rfl _ _ _) rfl ⟨?_, HF.out⟩
                  rw [← HRW.out]
                  unfold readW
                  rw [HBE.out, if_neg (by rw [HN.out]; exact hnW), if_neg (by intro h; exact h7 h.1), if_pos HL.out]
                  rfl
                · have hs' : ¬ (B : Int) < 4294967296 := by omega
                  have hd' : decide ((B : Int) < 4294967296) = false := decide_eq_false hs'
                  have HL := hid (show longB M 8 B = false by unfold longB; rw [if_neg (by decide), if_neg h7, if_neg (by decide)]; exact decide_eq_false (by omega))
                  go_wp2_with fail
                  refine bodyPost_ret (results6 rfl _ _ _) rfl ⟨?_, HF.out⟩
                  rw [← HRW.out]
                  unfold readW
                  rw [HBE.out, if_neg (by rw [HN.out]; exact hnW), if_neg (by intro h; exact h7 h.1), if_neg (by rw [HL.out]; decide)]
                  rfl
theorem read_calls (A : Option Addr) (n cap : Nat) (xs : List Int) (w : World) (hd : Dbl w) (hn : xs.length = n) (hr : RdI .u8 w A xs) (hb : Bytes xs) (hl : n ≤ 140737488355328) :
    Calls Tryd.prog 16 #[.slice A n cap, .int .i64 0] w (ReadTo (readR xs) w) := by
  rcases Nat.eq_zero_or_pos n with h0 | h0
  · subst h0
    have hx : xs = [] := List.eq_nil_of_length_eq_zero hn
    subst hx
    exact read_nil A cap w
  · have hc := hb.get 0
    exact read_some A n cap xs (xs.getD 0 0) ((xs.getD 0 0).toNat / 32) ((xs.getD 0 0).toNat % 32) w hd hn hr hb hl ⟨rfl, by omega, by omega, by omega, by omega⟩
end Go.Proofs.YtgdhchknegjpfaaDoor.HeadG
