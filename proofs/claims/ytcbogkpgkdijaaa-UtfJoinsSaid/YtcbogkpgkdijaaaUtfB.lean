/- Walks of layer utf: First, Valid. -/
import Derived.Test.YtcbogkpgkdijaaaUtfA
namespace Go.Proofs.Ytcbogkpgkdijaaa.UtfB
open Go.RowKit Go.Proofs.Ytcbogkpgkdijaaa.Mem Go.Proofs.Ytcbogkpgkdijaaa.UtfP Go.Proofs.Ytcbogkpgkdijaaa.UtfA

theorem zero_cells : St.zero.cells = #[.int .i64 0, .int .u8 0, .int .u8 0, .bool false] := rfl

set_option maxHeartbeats 1000000 in
theorem valid_calls (s : ByteArray) (w : World) (hs : s.size ≤ 140737488355328) :
    Calls Try.prog 37 #[.string s] w fun e w' => e = .returned (.bool (validS s)) ∧ Fr (fun _ => False) w w' := by
  go_enter Try.func37, Try.ntmps37
  go_wp2
  go_loopw [7] (fun i w' => ∃ k : Nat, k ≤ s.size ∧ i = .int .i64 k ∧ Blk w' w.heap.size 57 (run St.zero ((byt s).take k)).cells ∧ Fr (fun _ => False) w w') (fun i _ => s.size - (intOf i).toNat)
  case atStart => exact ⟨0, by omega, rfl, Blk.new _ _ _, (Fr.refl _ _).alloc _⟩
  case round =>
    obtain ⟨k, hk, rfl, hb, hfr⟩ := hrel
    have HB := hid hb
    have HF := hid hfr
    clear hb hfr
    by_cases hlt : k < s.size
    · go_wp2_with ((with_reducible refine (step_calls _ _ _ _ (run_ok zero_ok _) HB.out).mono ?_); rintro e w1 ⟨rfl, hst, hf1⟩; have HST := hid hst; have HF1 := hid hf1; clear hst hf1)
      go_roundw
      case rel =>
        refine ⟨k + 1, by omega, by go_num, ?_, ?_⟩
        · rw [byt_take_snoc s k hlt, run_snoc]; exact HST.out
        · exact HF.out.then_ HF1.out (fun i hi e => by omega)
      case measure => simp [intOf]; omega
    · go_wp2_with ((with_reducible refine (done_calls _ _ _ HB.out).mono ?_); rintro e w1 ⟨rfl, rfl⟩)
      go_ret
      refine ⟨ret_bool ?_, HF.out⟩
      rw [List.take_of_length_le (by rw [byt_length]; omega)]
      rfl

set_option maxHeartbeats 1000000 in
theorem first_calls (s : ByteArray) (w : World) (hs : s.size ≤ 140737488355328) :
    Calls Try.prog 36 #[.string s] w fun e w' => e = .returned (.int .i64 (firstS s)) ∧ Fr (fun _ => False) w w' := by
  go_enter Try.func36, Try.ntmps36
  go_wp2
  go_loopw [7] (fun i w' => ∃ k : Nat, k ≤ s.size ∧ i = .int .i64 k ∧ (run St.zero ((byt s).take k)).bad = false ∧ Blk w' w.heap.size 57 (run St.zero ((byt s).take k)).cells ∧ Fr (fun _ => False) w w') (fun i _ => s.size - (intOf i).toNat)
  case atStart => exact ⟨0, by omega, rfl, rfl, Blk.new _ _ _, (Fr.refl _ _).alloc _⟩
  case round =>
    obtain ⟨k, hk, rfl, hgood, hb, hfr⟩ := hrel
    have HB := hid hb
    have HF := hid hfr
    have HG := hid hgood
    clear hb hfr hgood
    by_cases hlt : k < s.size
    · have hsn : run St.zero ((byt s).take (k + 1)) = stepS (run St.zero ((byt s).take k)) ((s[k]'hlt).toNat : Int) := by rw [byt_take_snoc s k hlt, run_snoc]
      have HS := hid hsn
      clear hsn
      by_cases hbad : (stepS (run St.zero ((byt s).take k)) ((s[k]'hlt).toNat : Int)).bad = true
      · have hfin : firstS s = (k : Int) := by
          have h1 := (fb_prefix St.zero rfl (byt s) 0 (k + 1) (by rw [byt_length]; omega)).1 (by rw [HS.out]; exact hbad)
          have h2 := mt (fb_prefix St.zero rfl (byt s) 0 k (by rw [byt_length]; omega)).2 (by rw [HG.out]; simp)
          unfold firstS
          omega
        have HFIN := hid hfin
        clear hfin
        go_wp2_with ((with_reducible refine (step_calls _ _ _ _ (run_ok zero_ok _) HB.out).mono ?_); rintro e w1 ⟨rfl, hst, hf1⟩; have HST := hid hst; have HF1 := hid hf1; clear hst hf1)
        go_ret
        exact ⟨ret_int HFIN.out.symm, HF.out.then_ HF1.out (fun i hi e => by omega)⟩
      · have hbad : (stepS (run St.zero ((byt s).take k)) ((s[k]'hlt).toNat : Int)).bad = false := by simpa using hbad
        go_wp2_with ((with_reducible refine (step_calls _ _ _ _ (run_ok zero_ok _) HB.out).mono ?_); rintro e w1 ⟨rfl, hst, hf1⟩; have HST := hid hst; have HF1 := hid hf1; clear hst hf1)
        go_roundw
        case rel =>
          refine ⟨k + 1, by omega, by go_num, ?_, ?_, ?_⟩
          · rw [HS.out]; exact hbad
          · rw [HS.out]; exact HST.out
          · exact HF.out.then_ HF1.out (fun i hi e => by omega)
        case measure => simp [intOf]; omega
    · have hfin : firstS s = -1 := by
        have h2 := mt (fb_prefix St.zero rfl (byt s) 0 k (by rw [byt_length]; omega)).2 (by rw [HG.out]; simp)
        have h3 := fb_range St.zero (byt s) 0
        rw [byt_length] at h3
        unfold firstS
        omega
      have HFIN := hid hfin
      clear hfin
      go_wp2
      go_ret
      exact ⟨ret_int HFIN.out.symm, HF.out⟩

end Go.Proofs.Ytcbogkpgkdijaaa.UtfB
