/- UtfTells: the law's walk. -/
import Derived.Test.YtcbogkpgkdijaaaUtfD
namespace Go.Proofs.Ytcbogkpgkdijaaa.UtfTells
open Go.RowKit Go.Proofs.Ytcbogkpgkdijaaa.Mem Go.Proofs.Ytcbogkpgkdijaaa.UtfP Go.Proofs.Ytcbogkpgkdijaaa.UtfA Go.Proofs.Ytcbogkpgkdijaaa.UtfB Go.Proofs.Ytcbogkpgkdijaaa.UtfC Go.Proofs.Ytcbogkpgkdijaaa.UtfD

set_option maxRecDepth 100000 in
set_option maxHeartbeats 4000000 in
theorem law (s : ByteArray) (w : World) (hs : s.size ≤ 140737488355328) :
    Calls Try.prog 7 #[.string s] w fun e w' => e = .returned (.bool true) ∧ Fr (fun _ => False) w w' := by
  by_cases hlen : 1000 < s.size
  · go_enter Try.func7, Try.ntmps7
    go_wp2_with fail
    refine (awake_calls _).mono ?_
    rintro e w1 ⟨rfl, h1⟩
    have H1 := hid h1
    clear h1
    go_wp2
    go_ret
    exact ⟨rfl, H1.out⟩
  · go_enter Try.func7, Try.ntmps7
    go_wp2_with fail
    refine (awake_calls _).mono ?_
    rintro e w1 ⟨rfl, h1⟩
    have H1 := hid h1
    clear h1
    go_wp2_with fail
    refine (reffirst_calls _ _ hs).mono ?_
    rintro e w' ⟨rfl, rfl⟩
    go_wp2_with fail
    refine (first_calls _ _ hs).mono ?_
    rintro e w2 ⟨rfl, h2⟩
    have H2 := hid h2
    clear h2
    go_wp2_with fail
    refine (valid_calls _ _ hs).mono ?_
    rintro e w3 ⟨rfl, h3⟩
    have H3 := hid h3
    clear h3
    go_wp2_with fail
    refine (done_calls _ St.zero _ (Blk.new _ _ _)).mono ?_
    rintro e w' ⟨rfl, rfl⟩
    have hz : doneB St.zero = true := rfl
    go_wp2_with fail
    go_loopw [6] (fun i w' => ∃ k : Nat, k ≤ s.size ∧ i = .int .i64 k ∧ Blk w' w3.heap.size 57 (run St.zero ((byt s).take k)).cells ∧ Fr (fun _ => False) w3 w') (fun i _ => s.size - (intOf i).toNat)
    case atStart => exact ⟨0, by omega, rfl, Blk.new _ _ _, (Fr.refl _ _).alloc _⟩
    case round =>
      obtain ⟨k, hk, rfl, hb, hfr⟩ := hrel
      have HB := hid hb
      have HF := hid hfr
      clear hb hfr hz
      by_cases hlt : k < s.size
      · have hsn : stepS (run St.zero ((byt s).take k)) ((s[k]'hlt).toNat : Int) = run St.zero ((byt s).take (k + 1)) := by rw [byt_take_snoc s k hlt, run_snoc]
        have HS := hid hsn
        clear hsn
        have hcut : byt (s.extract 0 (k + 1)) = (byt s).take (k + 1) := by rw [byt_extract]; rfl
        have hpre := fb_prefix St.zero rfl (byt s) 0 (k + 1) (by rw [byt_length]; omega)
        have hrng := fb_range St.zero (byt s) 0
        have HPRE := hid hpre
        have HRNG := hid hrng
        clear hpre hrng
        have hv : validS (s.extract 0 (k + 1)) = doneB (run St.zero ((byt s).take (k + 1))) := by unfold validS; rw [hcut]
        have HV := hid hv
        clear hv hcut
        by_cases hbad : (run St.zero ((byt s).take (k + 1))).bad = true
        · have hat : 0 ≤ firstS s ∧ firstS s ≤ k := by have := HPRE.out.1 hbad; unfold firstS; omega
          obtain ⟨hat0, hat1⟩ := hat
          have HBAD := hid hbad
          clear hbad
          go_wp2_with fail
          refine (reffirst_calls _ _ (by simp; omega)).mono ?_
          rintro e w' ⟨rfl, rfl⟩
          rw [HV.out]
          go_wp2_with fail
          refine (step_calls _ _ _ _ (run_ok zero_ok _) HB.out).mono ?_
          rintro e w4 ⟨rfl, hst, hf1⟩
          rw [HS.out] at hst
          rw [HS.out, HBAD.out]
          have HST := hid hst
          have HF1 := hid hf1
          clear hst hf1
          go_wp2_with fail
          refine (done_calls _ _ _ HST.out).mono ?_
          rintro e w' ⟨rfl, rfl⟩
          go_wp2
          go_roundw
          case rel => exact ⟨k + 1, by omega, by go_num, HST.out, HF.out.then_ HF1.out (fun i hi e => by have := HF.out.size; omega)⟩
          case measure => simp [intOf]; omega
        · have hbad : (run St.zero ((byt s).take (k + 1))).bad = false := by simpa using hbad
          have hat : firstS s = -1 ∨ (k : Int) < firstS s := by
            have h1 := mt HPRE.out.2 (by rw [hbad]; simp)
            have h2 := HRNG.out
            unfold firstS
            omega
          have HBAD := hid hbad
          clear hbad
          rcases hat with hat | hat
          · have hat0 : firstS s < 0 := by omega
            clear hat
            go_wp2_with fail
            refine (reffirst_calls _ _ (by simp; omega)).mono ?_
            rintro e w' ⟨rfl, rfl⟩
            rw [HV.out]
            go_wp2_with fail
            refine (step_calls _ _ _ _ (run_ok zero_ok _) HB.out).mono ?_
            rintro e w4 ⟨rfl, hst, hf1⟩
            rw [HS.out] at hst
            rw [HS.out, HBAD.out]
            have HST := hid hst
            have HF1 := hid hf1
            clear hst hf1
            go_wp2_with fail
            refine (done_calls _ _ _ HST.out).mono ?_
            rintro e w' ⟨rfl, rfl⟩
            go_wp2
            go_roundw
            case rel => exact ⟨k + 1, by omega, by go_num, HST.out, HF.out.then_ HF1.out (fun i hi e => by have := HF.out.size; omega)⟩
            case measure => simp [intOf]; omega
          · have hat0 : 0 ≤ firstS s := by omega
            go_wp2_with fail
            refine (reffirst_calls _ _ (by simp; omega)).mono ?_
            rintro e w' ⟨rfl, rfl⟩
            rw [HV.out]
            go_wp2_with fail
            refine (step_calls _ _ _ _ (run_ok zero_ok _) HB.out).mono ?_
            rintro e w4 ⟨rfl, hst, hf1⟩
            rw [HS.out] at hst
            rw [HS.out, HBAD.out]
            have HST := hid hst
            have HF1 := hid hf1
            clear hst hf1
            go_wp2_with fail
            refine (done_calls _ _ _ HST.out).mono ?_
            rintro e w' ⟨rfl, rfl⟩
            go_wp2
            go_roundw
            case rel => exact ⟨k + 1, by omega, by go_num, HST.out, HF.out.then_ HF1.out (fun i hi e => by have := HF.out.size; omega)⟩
            case measure => simp [intOf]; omega
      · go_wp2_with fail
        refine (reset_calls _ _ _ HB.out).mono ?_
        rintro e w4 ⟨rfl, hst, hf1⟩
        have HST := hid hst
        have HF1 := hid hf1
        clear hst hf1
        go_wp2_with fail
        refine (done_calls _ _ _ HST.out).mono ?_
        rintro e w' ⟨rfl, rfl⟩
        rw [show doneB St.zero = true from rfl]
        go_wp2_with fail
        refine (step_calls _ _ 97 _ zero_ok HST.out).mono ?_
        rintro e w5 ⟨rfl, hst, hf2⟩
        rw [show (!(stepS St.zero 97).bad) = true from by decide]
        have HST2 := hid hst
        have HF2 := hid hf2
        clear hst hf2
        go_wp2_with fail
        refine (done_calls _ _ _ HST2.out).mono ?_
        rintro e w' ⟨rfl, rfl⟩
        go_wp2
        go_ret
        refine ⟨ret_bool (by decide), ?_⟩
        exact ((((H1.out.then_ H2.out (fun _ _ h => h)).then_ H3.out (fun _ _ h => h)).then_ HF.out (fun _ _ h => h)).then_ HF1.out (fun i hi e => by have := H1.out.size; have := H2.out.size; have := H3.out.size; omega)).then_ HF2.out (fun i hi e => by have := H1.out.size; have := H2.out.size; have := H3.out.size; omega)

theorem whole (s : ByteArray) (w : World) (hs : s.size ≤ 140737488351232) :
    Calls Try.prog 7 #[.string s] w fun e w' => e = .returned (.bool true) ∧ Below w.heap.size w w' :=
  (law s w (by omega)).mono fun _ _ ⟨he, h⟩ => ⟨he, h.toBelow (fun _ _ h => h)⟩

end Go.Proofs.Ytcbogkpgkdijaaa.UtfTells
