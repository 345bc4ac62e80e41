/- Walks of layer head: a reader's pieces. -/
import Derived.Test.YtgdhchknegjpfaaDoorHeadP
import Derived.Test.YtgdhchknegjpfaaDoorFloatI
import Derived.Test.YtgdhchknegjpfaaDoorApp
import Derived.Laws.StructEq
import Derived.Deep.DeepCutAuto
set_option linter.unusedVariables false
set_option linter.unusedSimpArgs false
namespace Go.Proofs.YtgdhchknegjpfaaDoor.HeadA
open Go.IntWalk Go.RowKit Go.Proofs.YtgdhchknegjpfaaDoor.Mem Go.Proofs.YtgdhchknegjpfaaDoor.Num Go.Proofs.YtgdhchknegjpfaaDoor.BitsA Go.Proofs.YtgdhchknegjpfaaDoor.BitsB Go.Proofs.YtgdhchknegjpfaaDoor.App Go.Proofs.YtgdhchknegjpfaaDoor.FloatP Go.Proofs.YtgdhchknegjpfaaDoor.FloatB Go.Proofs.YtgdhchknegjpfaaDoor.FloatG Go.Proofs.YtgdhchknegjpfaaDoor.FloatI Go.Proofs.YtgdhchknegjpfaaDoor.HeadP

/-- A head as a value. -/
abbrev hd (M W : Int) (A : Int) : Value := .agg #[.int .i64 M, .int .i64 W, .int .u64 A]
theorem load_three (w : World) (o : Obj) (a b c : Int) : Sem.run Tryd.prog (loadCells { block := w.heap.size, off := 0 } 3) ((w.alloc (.cells #[.int .i64 a, .int .i64 b, .int .u64 c] 29)).alloc o) = .ok #[.int .i64 a, .int .i64 b, .int .u64 c] ((w.alloc (.cells #[.int .i64 a, .int .i64 b, .int .u64 c] 29)).alloc o) :=
  run_loadCells_list _ _ [.int .i64 a, .int .i64 b, .int .u64 c] (fun j v h => by
    have hb := Blk.cell (Blk.alloc (Blk.new w 29 #[.int .i64 a, .int .i64 b, .int .u64 c]) o) j
    rw [add_plain]
    simp only [Nat.zero_add]
    rw [hb]
    simpa using h)
def BegTo (M I : Nat) (w : World) (e : Ending) (w' : World) : Prop := e = .returned (.tuple #[hd M (begW I) (begA I), .int .i64 (begE M I)]) ∧ Fr (fun _ => False) w w'
set_option maxHeartbeats 1000000 in
theorem begin_low (M I : Nat) (c : Int) (hc : c = 32 * (M : Int) + (I : Int)) (hM : M < 8) (hI : I < 24) (w : World) : Calls Tryd.prog 37 #[.int .u8 c] w (BegTo M I w) := by
  have h1 : Go.bits .and .u8 c 31 = (I : Int) := by rw [hc]; exact and31 M I hM (by omega)
  have h2 : c / 32 = (M : Int) := by omega
  have e31 : ((I : Int) == 31) = false := beq_eq_false_iff_ne.2 (by omega)
  have e28 : ((I : Int) == 28) = false := beq_eq_false_iff_ne.2 (by omega)
  have e29 : ((I : Int) == 29) = false := beq_eq_false_iff_ne.2 (by omega)
  have e30 : ((I : Int) == 30) = false := beq_eq_false_iff_ne.2 (by omega)
  have e24 : ((I : Int) == 24) = false := beq_eq_false_iff_ne.2 (by omega)
  have e25 : ((I : Int) == 25) = false := beq_eq_false_iff_ne.2 (by omega)
  have e26 : ((I : Int) == 26) = false := beq_eq_false_iff_ne.2 (by omega)
  have e27 : ((I : Int) == 27) = false := beq_eq_false_iff_ne.2 (by omega)
  have c0 : 0 ≤ c := by omega
  have c1 : c < 256 := by omega
  clear hc
  go_enter Tryd.func37, Tryd.ntmps37
  go_wp2_with fail
  refine bodyPost_ret (v := .tuple #[hd M 0 I, .int .i64 0]) ?_ rfl ?_
  · rw [results_cell_tmp rfl]
    simp [Result.andThen, asAddr, loadVar, load_three w _ M 0 I]
  · refine ⟨?_, ((Fr.refl _ _).alloc _).alloc _⟩
    have a1 : begW I = 0 := by unfold begW; rw [if_neg (by omega), if_neg (by omega), if_neg (by omega), if_neg (by omega)]
    have a2 : begA I = I := by unfold begA; rw [if_neg (by omega)]
    have a3 : begE M I = 0 := by unfold begE; rw [if_neg (by omega), if_neg (by omega)]
    rw [a1, a2, a3]
    rfl
set_option maxHeartbeats 1000000 in
theorem begin_24 (M : Nat) (c : Int) (hc : c = 32 * (M : Int) + ((24 : Nat) : Int)) (hM : M < 8) (w : World) : Calls Tryd.prog 37 #[.int .u8 c] w (BegTo M 24 w) := by
  have h1 : Go.bits .and .u8 c 31 = 24 := by rw [hc]; exact and31 M 24 hM (by omega)
  have h2 : c / 32 = (M : Int) := by omega
  have c0 : 0 ≤ c := by omega
  have c1 : c < 256 := by omega
  clear hc
  go_enter Tryd.func37, Tryd.ntmps37
  go_wp2_with fail
  refine bodyPost_ret (v := .tuple #[hd M 1 0, .int .i64 0]) ?_ rfl ?_
  · rw [results_cell_tmp rfl]
    simp [Result.andThen, asAddr, loadVar, load_three w _ M 1 0]
  · refine ⟨?_, ((Fr.refl _ _).alloc _).alloc _⟩
    have a3 : begE M 24 = 0 := by unfold begE; rw [if_neg (by omega), if_neg (by omega)]
    rw [a3]
    rfl
set_option maxHeartbeats 1000000 in
theorem begin_25 (M : Nat) (c : Int) (hc : c = 32 * (M : Int) + ((25 : Nat) : Int)) (hM : M < 8) (w : World) : Calls Tryd.prog 37 #[.int .u8 c] w (BegTo M 25 w) := by
  have h1 : Go.bits .and .u8 c 31 = 25 := by rw [hc]; exact and31 M 25 hM (by omega)
  have h2 : c / 32 = (M : Int) := by omega
  have c0 : 0 ≤ c := by omega
  have c1 : c < 256 := by omega
  clear hc
  go_enter Tryd.func37, Tryd.ntmps37
  go_wp2_with fail
  refine bodyPost_ret (v := .tuple #[hd M 2 0, .int .i64 0]) ?_ rfl ?_
  · rw [results_cell_tmp rfl]
    simp [Result.andThen, asAddr, loadVar, load_three w _ M 2 0]
  · refine ⟨?_, ((Fr.refl _ _).alloc _).alloc _⟩
    have a3 : begE M 25 = 0 := by unfold begE; rw [if_neg (by omega), if_neg (by omega)]
    rw [a3]
    rfl
set_option maxHeartbeats 1000000 in
theorem begin_26 (M : Nat) (c : Int) (hc : c = 32 * (M : Int) + ((26 : Nat) : Int)) (hM : M < 8) (w : World) : Calls Tryd.prog 37 #[.int .u8 c] w (BegTo M 26 w) := by
  have h1 : Go.bits .and .u8 c 31 = 26 := by rw [hc]; exact and31 M 26 hM (by omega)
  have h2 : c / 32 = (M : Int) := by omega
  have c0 : 0 ≤ c := by omega
  have c1 : c < 256 := by omega
  clear hc
  go_enter Tryd.func37, Tryd.ntmps37
  go_wp2_with fail
  refine bodyPost_ret (v := .tuple #[hd M 4 0, .int .i64 0]) ?_ rfl ?_
  · rw [results_cell_tmp rfl]
    simp [Result.andThen, asAddr, loadVar, load_three w _ M 4 0]
  · refine ⟨?_, ((Fr.refl _ _).alloc _).alloc _⟩
    have a3 : begE M 26 = 0 := by unfold begE; rw [if_neg (by omega), if_neg (by omega)]
    rw [a3]
    rfl
set_option maxHeartbeats 1000000 in
theorem begin_27 (M : Nat) (c : Int) (hc : c = 32 * (M : Int) + ((27 : Nat) : Int)) (hM : M < 8) (w : World) : Calls Tryd.prog 37 #[.int .u8 c] w (BegTo M 27 w) := by
  have h1 : Go.bits .and .u8 c 31 = 27 := by rw [hc]; exact and31 M 27 hM (by omega)
  have h2 : c / 32 = (M : Int) := by omega
  have c0 : 0 ≤ c := by omega
  have c1 : c < 256 := by omega
  clear hc
  go_enter Tryd.func37, Tryd.ntmps37
  go_wp2_with fail
  refine bodyPost_ret (v := .tuple #[hd M 8 0, .int .i64 0]) ?_ rfl ?_
  · rw [results_cell_tmp rfl]
    simp [Result.andThen, asAddr, loadVar, load_three w _ M 8 0]
  · refine ⟨?_, ((Fr.refl _ _).alloc _).alloc _⟩
    have a3 : begE M 27 = 0 := by unfold begE; rw [if_neg (by omega), if_neg (by omega)]
    rw [a3]
    rfl
set_option maxHeartbeats 1000000 in
theorem begin_28 (M : Nat) (c : Int) (hc : c = 32 * (M : Int) + ((28 : Nat) : Int)) (hM : M < 8) (w : World) : Calls Tryd.prog 37 #[.int .u8 c] w (BegTo M 28 w) := by
  have h1 : Go.bits .and .u8 c 31 = 28 := by rw [hc]; exact and31 M 28 hM (by omega)
  have h2 : c / 32 = (M : Int) := by omega
  have c0 : 0 ≤ c := by omega
  have c1 : c < 256 := by omega
  clear hc
  go_enter Tryd.func37, Tryd.ntmps37
  go_wp2_with fail
  refine bodyPost_ret (v := .tuple #[hd M 0 28, .int .i64 2]) ?_ rfl ?_
  · rw [results_cell_tmp rfl]
    simp [Result.andThen, asAddr, loadVar, load_three w _ M 0 28]
  · refine ⟨?_, ((Fr.refl _ _).alloc _).alloc _⟩
    have a3 : begE M 28 = 2 := by unfold begE; rw [if_neg (by omega), if_pos (by omega)]
    rw [a3]
    rfl
set_option maxHeartbeats 1000000 in
theorem begin_29 (M : Nat) (c : Int) (hc : c = 32 * (M : Int) + ((29 : Nat) : Int)) (hM : M < 8) (w : World) : Calls Tryd.prog 37 #[.int .u8 c] w (BegTo M 29 w) := by
  have h1 : Go.bits .and .u8 c 31 = 29 := by rw [hc]; exact and31 M 29 hM (by omega)
  have h2 : c / 32 = (M : Int) := by omega
  have c0 : 0 ≤ c := by omega
  have c1 : c < 256 := by omega
  clear hc
  go_enter Tryd.func37, Tryd.ntmps37
  go_wp2_with fail
  refine bodyPost_ret (v := .tuple #[hd M 0 29, .int .i64 2]) ?_ rfl ?_
  · rw [results_cell_tmp rfl]
    simp [Result.andThen, asAddr, loadVar, load_three w _ M 0 29]
  · refine ⟨?_, ((Fr.refl _ _).alloc _).alloc _⟩
    have a3 : begE M 29 = 2 := by unfold begE; rw [if_neg (by omega), if_pos (by omega)]
    rw [a3]
    rfl
set_option maxHeartbeats 1000000 in
theorem begin_30 (M : Nat) (c : Int) (hc : c = 32 * (M : Int) + ((30 : Nat) : Int)) (hM : M < 8) (w : World) : Calls Tryd.prog 37 #[.int .u8 c] w (BegTo M 30 w) := by
  have h1 : Go.bits .and .u8 c 31 = 30 := by rw [hc]; exact and31 M 30 hM (by omega)
  have h2 : c / 32 = (M : Int) := by omega
  have c0 : 0 ≤ c := by omega
  have c1 : c < 256 := by omega
  clear hc
  go_enter Tryd.func37, Tryd.ntmps37
  go_wp2_with fail
  refine bodyPost_ret (v := .tuple #[hd M 0 30, .int .i64 2]) ?_ rfl ?_
  · rw [results_cell_tmp rfl]
    simp [Result.andThen, asAddr, loadVar, load_three w _ M 0 30]
  · refine ⟨?_, ((Fr.refl _ _).alloc _).alloc _⟩
    have a3 : begE M 30 = 2 := by unfold begE; rw [if_neg (by omega), if_pos (by omega)]
    rw [a3]
    rfl
set_option maxHeartbeats 1000000 in
theorem begin_31_d (M : Nat) (c : Int) (hc : c = 32 * (M : Int) + ((31 : Nat) : Int)) (hM : M < 8) (h5 : 2 ≤ M ∧ M ≤ 5) (w : World) : Calls Tryd.prog 37 #[.int .u8 c] w (BegTo M 31 w) := by
  have h1 : Go.bits .and .u8 c 31 = 31 := by rw [hc]; exact and31 M 31 hM (by omega)
  have h2 : c / 32 = (M : Int) := by omega
  obtain ⟨h5a, h5b⟩ := h5
  have d1 : decide (2 ≤ (M : Int)) = true := decide_eq_true (by omega)
  have d2 : decide ((M : Int) ≤ 5) = true := decide_eq_true (by omega)
  have c0 : 0 ≤ c := by omega
  have c1 : c < 256 := by omega
  clear hc
  go_enter Tryd.func37, Tryd.ntmps37
  go_wp2_with fail
  refine bodyPost_ret (v := .tuple #[hd M 0 31, .int .i64 5]) ?_ rfl ?_
  · rw [results_cell_tmp rfl]
    simp [Result.andThen, asAddr, loadVar, load_three w _ M 0 31]
  · refine ⟨?_, ((Fr.refl _ _).alloc _).alloc _⟩
    have a3 : begE M 31 = 5 := by unfold begE; rw [if_pos (by omega)]
    rw [a3]
    rfl
set_option maxHeartbeats 1000000 in
theorem begin_31_l (M : Nat) (c : Int) (hc : c = 32 * (M : Int) + ((31 : Nat) : Int)) (hM : M < 8) (h5 : M < 2) (w : World) : Calls Tryd.prog 37 #[.int .u8 c] w (BegTo M 31 w) := by
  have h1 : Go.bits .and .u8 c 31 = 31 := by rw [hc]; exact and31 M 31 hM (by omega)
  have h2 : c / 32 = (M : Int) := by omega
  have d1 : decide (2 ≤ (M : Int)) = false := decide_eq_false (by omega)
  have c0 : 0 ≤ c := by omega
  have c1 : c < 256 := by omega
  clear hc
  go_enter Tryd.func37, Tryd.ntmps37
  go_wp2_with fail
  refine bodyPost_ret (v := .tuple #[hd M 0 31, .int .i64 2]) ?_ rfl ?_
  · rw [results_cell_tmp rfl]
    simp [Result.andThen, asAddr, loadVar, load_three w _ M 0 31]
  · refine ⟨?_, ((Fr.refl _ _).alloc _).alloc _⟩
    have a3 : begE M 31 = 2 := by unfold begE; rw [if_neg (by omega), if_pos (by omega)]
    rw [a3]
    rfl
set_option maxHeartbeats 1000000 in
theorem begin_31_h (M : Nat) (c : Int) (hc : c = 32 * (M : Int) + ((31 : Nat) : Int)) (hM : M < 8) (h5 : 5 < M) (w : World) : Calls Tryd.prog 37 #[.int .u8 c] w (BegTo M 31 w) := by
  have h1 : Go.bits .and .u8 c 31 = 31 := by rw [hc]; exact and31 M 31 hM (by omega)
  have h2 : c / 32 = (M : Int) := by omega
  have d1 : decide (2 ≤ (M : Int)) = true := decide_eq_true (by omega)
  have d2 : decide ((M : Int) ≤ 5) = false := decide_eq_false (by omega)
  have c0 : 0 ≤ c := by omega
  have c1 : c < 256 := by omega
  clear hc
  go_enter Tryd.func37, Tryd.ntmps37
  go_wp2_with fail
  refine bodyPost_ret (v := .tuple #[hd M 0 31, .int .i64 2]) ?_ rfl ?_
  · rw [results_cell_tmp rfl]
    simp [Result.andThen, asAddr, loadVar, load_three w _ M 0 31]
  · refine ⟨?_, ((Fr.refl _ _).alloc _).alloc _⟩
    have a3 : begE M 31 = 2 := by unfold begE; rw [if_neg (by omega), if_pos (by omega)]
    rw [a3]
    rfl
theorem begin_calls (M I : Nat) (c : Int) (hc : c = 32 * (M : Int) + (I : Int)) (hM : M < 8) (hI : I < 32) (w : World) : Calls Tryd.prog 37 #[.int .u8 c] w (BegTo M I w) := by
  have h : I < 24 ∨ I = 24 ∨ I = 25 ∨ I = 26 ∨ I = 27 ∨ I = 28 ∨ I = 29 ∨ I = 30 ∨ I = 31 := by omega
  rcases h with h | rfl | rfl | rfl | rfl | rfl | rfl | rfl | rfl
  · exact begin_low M I c hc hM h w
  · exact begin_24 M c hc hM w
  · exact begin_25 M c hc hM w
  · exact begin_26 M c hc hM w
  · exact begin_27 M c hc hM w
  · exact begin_28 M c hc hM w
  · exact begin_29 M c hc hM w
  · exact begin_30 M c hc hM w
  · by_cases h1 : M < 2
    · exact begin_31_l M c hc hM h1 w
    · by_cases h2 : 5 < M
      · exact begin_31_h M c hc hM h2 w
      · exact begin_31_d M c hc hM (by omega) w
end Go.Proofs.YtgdhchknegjpfaaDoor.HeadA
