/- Walks of layer utf: First, Valid. -/
import Derived.Test.YtkmgiodhaaajjaaDoorUtfA
set_option linter.unusedVariables false
set_option linter.unusedSimpArgs false
namespace Go.Proofs.YtkmgiodhaaajjaaDoor.UtfB
open Go.RowKit Go.Proofs.YtkmgiodhaaajjaaDoor.Mem Go.Proofs.YtkmgiodhaaajjaaDoor.UtfP Go.Proofs.YtkmgiodhaaajjaaDoor.UtfA

theorem zero_cells : St.zero.cells = #[.int .i64 0, .int .u8 0, .int .u8 0, .bool false] := rfl

set_option maxHeartbeats 1000000 in
theorem valid_calls (s : ByteArray) (w : World) (hs : s.size ≤ 140737488355328) :
    Calls Tryd.prog 96 #[.string s] w fun e w' => e = .returned (.bool (validS s)) ∧ Fr (fun _ => False) w w' := by
  go_enter Tryd.func96, Tryd.ntmps96
  go_wp2
  go_loopw [7] (fun i w' => ∃ k : Nat, k ≤ s.size ∧ i = .int .i64 k ∧ Blk w' w.heap.size 174 (run St.zero ((byt s).take k)).cells ∧ Fr (fun _ => False) w w') (fun i _ => s.size - (intOf i).toNat)
  case atStart => exact ⟨0, by omega, rfl, Blk.new _ _ _, (Fr.refl _ _).alloc _⟩
  case round =>
    obtain ⟨k, hk, rfl, hb, hfr⟩ := hrel
    have HB := hid hb
    have HF := hid hfr
    clear hb hfr
    by_cases hlt : k < s.size
    · go_wp2_with ((with_reducible refine (step_calls _ _ _ _ (run_ok zero_ok _) HB.out).mono ?_); rintro e w1 ⟨rfl, hst, hf1⟩; have HST := hid hst; have HF1 := hid hf1; clear hst hf1)
      go_roundw
      case rel =>
        refine ⟨k + 1, by omega, by go_num, ?_, ?_⟩
        · rw [byt_take_snoc s k hlt, run_snoc]; exact HST.out
        · exact HF.out.then_ HF1.out (fun i hi e => by omega)
      case measure => simp [intOf]; omega
    · go_wp2_with ((with_reducible refine (done_calls _ _ _ HB.out).mono ?_); rintro e w1 ⟨rfl, rfl⟩)
      go_ret
      refine ⟨ret_bool ?_, HF.out⟩
      rw [List.take_of_length_le (by rw [byt_length]; omega)]
      rfl

end Go.Proofs.YtkmgiodhaaajjaaDoor.UtfB
