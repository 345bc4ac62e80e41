/- Walks of layer head: the document's shortest head. -/
import Derived.Test.YtgdhchknegjpfaaDoorHeadF
set_option linter.unusedVariables false
set_option linter.unusedSimpArgs false
namespace Go.Proofs.YtgdhchknegjpfaaDoor.HeadI
open Go.IntWalk Go.RowKit Go.Proofs.YtgdhchknegjpfaaDoor.Mem Go.Proofs.YtgdhchknegjpfaaDoor.Num Go.Proofs.YtgdhchknegjpfaaDoor.BitsA Go.Proofs.YtgdhchknegjpfaaDoor.BitsB Go.Proofs.YtgdhchknegjpfaaDoor.App Go.Proofs.YtgdhchknegjpfaaDoor.FloatP Go.Proofs.YtgdhchknegjpfaaDoor.FloatB Go.Proofs.YtgdhchknegjpfaaDoor.FloatG Go.Proofs.YtgdhchknegjpfaaDoor.FloatI Go.Proofs.YtgdhchknegjpfaaDoor.HeadP Go.Proofs.YtgdhchknegjpfaaDoor.HeadA Go.Proofs.YtgdhchknegjpfaaDoor.HeadB Go.Proofs.YtgdhchknegjpfaaDoor.HeadC Go.Proofs.YtgdhchknegjpfaaDoor.HeadD Go.Proofs.YtgdhchknegjpfaaDoor.HeadE Go.Proofs.YtgdhchknegjpfaaDoor.HeadF

theorem digs_get (x : Int) (n i : Nat) (h : i < n) : (digs x n)[i]? = some (x / 256 ^ i % 256) := by
  induction n generalizing x i with
  | zero => omega
  | succ n ih =>
    cases i with
    | zero => simp [digs]
    | succ i => rw [digs, List.getElem?_cons_succ, ih _ _ (by omega), Int.ediv_ediv_of_nonneg (by decide), Int.pow_succ']
theorem top_rev (q : Int) (n m i : Nat) (h : i + m + 1 = n) : (digs q n).reverse.take m ++ [q / 2 ^ (8 * i) % 256] = (digs q n).reverse.take (m + 1) := by
  have hl : m < (digs q n).reverse.length := by simp [digs_length]; omega
  rw [List.take_succ_eq_append_getElem hl]
  congr 2
  rw [List.getElem_reverse]
  have := digs_get q n i (by omega)
  have e : (digs q n).length - 1 - m = i := by rw [digs_length]; omega
  rw [show (256 : Int) ^ i = 2 ^ (8 * i) by rw [Int.pow_mul]; rfl] at this
  simp only [e]
  rw [List.getElem?_eq_getElem (by rw [digs_length]; omega)] at this
  exact (Option.some.inj this).symm
set_option maxHeartbeats 1000000 in
set_option maxRecDepth 4000 in
theorem bytes_calls (q : Int) (n : Nat) (w : World) (hn : n ≤ 8) (h0 : 0 ≤ q) (h1 : q < 18446744073709551616) : Calls Tryd.prog 43 #[.int .u64 q, .int .i64 n] w (RowTo w (digs q n).reverse) := by
  have hn1 : (n : Int) ≤ 8 := by omega
  have hn0 : (0 : Int) ≤ n := by omega
  go_enter Tryd.func43, Tryd.ntmps43
  go_wp2_with fail
  go_loopw [5, 6] (fun v i w' => ∃ (m : Nat) (M : List Int), m ≤ n ∧ i = .int .i64 ((n : Int) - 1 - (m : Int)) ∧ Hid (M = (digs q n).reverse.take m) ∧ M.length = m ∧ Own .u8 5 w' w.heap.size v M ∧ Fr (fun _ => False) w w') (fun _ i _ => (intOf i + 1).toNat)
  case atStart => exact ⟨0, [], by omega, by congr 1; omega, hid (by simp), rfl, Own.nil _ _ _ _, Fr.refl _ _⟩
  case round =>
    obtain ⟨m, M, hm, rfl, HM, hMl, ho, hf⟩ := hrel
    obtain ⟨A6, c6, rfl, _, _⟩ := ho.form
    have HO6 := hid ho
    have HF6 := hid hf
    have HML := hid hMl
    have hMle : M.length ≤ 8 := by omega
    clear ho hf hMl
    by_cases hm8 : m < n
    · obtain ⟨i, hi⟩ : ∃ i : Nat, n - 1 - m = i := ⟨_, rfl⟩
      rw [show ((n : Int) - 1 - (m : Int)) = (i : Int) by omega]
      have HI := hid (show i + m + 1 = n by omega)
      have hi7 : i ≤ 7 := by omega
      have hi7' : (i : Int) ≤ 7 := by omega
      clear hi
      go_wp2_with (refine wpList_app1 rfl (.tmp 13) (.tmp 19) 32 rfl 1 Tryd.underlying32 infoByte wr (q / 2 ^ (8 * i) % 256) 5 _ M rfl HO6.out rfl (by omega) HF6.out.size ?_; intro v7 w7 HO7 HK7)
      obtain ⟨A8, c8, rfl, _, _⟩ := HO7.out.form
      go_roundw
      case rel =>
        have hi := HI.out
        exact ⟨m + 1, _, by omega, by rw [show ((n : Int) - 1 - ((m + 1 : Nat) : Int)) = (i : Int) - 1 by omega], hid (by rw [HM.out, top_rev q n m i hi]), by have := HML.out; simp; omega, HO7.out, HK7.out _ _ HF6.out (Nat.le_refl _)⟩
      case measure => simp [intOf]
    · have hm' : m = n := by omega
      rw [show ((n : Int) - 1 - (m : Int)) = -1 by omega]
      have hM : M = (digs q n).reverse := by
        rw [HM.out, hm', List.take_of_length_le (by simp [digs_length])]
      subst hM
      go_wp2_with fail
      go_ret
      exact ⟨_, rfl, HO6.out, HF6.out⟩
theorem ref_small (M A : Nat) (hM : M < 8) (hA : A < 24) (w : World) : Calls Tryd.prog 20 #[.int .i64 M, .int .u64 A] w (RowTo w (putR M A)) := by
  have a1 : (A : Int) < 24 := by omega
  have m1 : (M : Int) < 8 := by omega
  have HP := hid (show putR M A = [(M : Int) * 32 + A] by unfold putR; rw [if_pos hA])
  clear hM hA
  go_enter Tryd.func20, Tryd.ntmps20
  go_wp2_with fail
  go_ret
  refine ⟨_, rfl, ?_, (Fr.refl _ _).alloc _⟩
  rw [HP.out, show (M : Int) * 32 + A = 32 * (M : Int) + A by omega]
  exact own_one w _
set_option maxHeartbeats 1000000 in
theorem ref_nil (A : Nat) (h1 : 24 ≤ A) (h2 : A < 32 ∨ 255 < A) (w : World) : Calls Tryd.prog 20 #[.int .i64 7, .int .u64 A] w (RowTo w (putR 7 A)) := by
  have q0 : decide ((A : Int) < 24) = false := decide_eq_false (by omega)
  have r0 : ¬ (A : Int) < 24 := by omega
  have HP := hid (show putR 7 A = [] by unfold putR; rw [if_neg (by omega), if_pos ⟨rfl, h2⟩])
  clear h1
  rcases h2 with h2 | h2
  · have q1 : decide ((A : Int) < 32) = true := decide_eq_true (by omega)
    have r1 : (A : Int) < 32 := by omega
    clear h2
    go_enter Tryd.func20, Tryd.ntmps20
    go_wp2_with fail
    go_ret
    refine ⟨_, rfl, ?_, Fr.refl _ _⟩
    rw [HP.out]
    exact Own.nil _ _ _ _
  · have q1 : decide ((A : Int) < 32) = false := decide_eq_false (by omega)
    have r1 : ¬ (A : Int) < 32 := by omega
    have q2 : decide ((A : Int) > 255) = true := decide_eq_true (by omega)
    have r2 : 255 < (A : Int) := by omega
    clear h2
    go_enter Tryd.func20, Tryd.ntmps20
    go_wp2_with fail
    go_ret
    refine ⟨_, rfl, ?_, Fr.refl _ _⟩
    rw [HP.out]
    exact Own.nil _ _ _ _
set_option maxHeartbeats 1000000 in
theorem ref_two (M A : Nat) (hM : M < 8) (h1 : 24 ≤ A) (h2 : A < 256) (hn : M = 7 → 32 ≤ A) (w : World) : Calls Tryd.prog 20 #[.int .i64 M, .int .u64 A] w (RowTo w (putR M A)) := by
  have q0 : decide ((A : Int) < 24) = false := decide_eq_false (by omega)
  have r0 : ¬ (A : Int) < 24 := by omega
  have r1 : (A : Int) < 256 := by omega
  have q1 : decide ((A : Int) < 256) = true := decide_eq_true r1
  have m1 : (M : Int) < 8 := by omega
  have HP := hid (show putR M A = [32 * (M : Int) + 24, A] by unfold putR; rw [if_neg (by omega), if_neg (by omega), if_pos h2, Int.mul_comm])
  by_cases h7 : M = 7
  · subst h7
    have h32 := hn rfl
    have q2 : decide ((A : Int) < 32) = false := decide_eq_false (by omega)
    have r2 : ¬ (A : Int) < 32 := by omega
    have q3 : decide ((A : Int) > 255) = false := decide_eq_false (by omega)
    have r3 : ¬ 255 < (A : Int) := by omega
    clear h1 h2 hn h32
    go_enter Tryd.func20, Tryd.ntmps20
    go_wp2_with fail
    go_ret
    refine ⟨_, rfl, ?_, (Fr.refl _ _).alloc _⟩
    rw [HP.out]
    exact own_two w _ _
  · have e7 : ((M : Int) == 7) = false := beq_eq_false_iff_ne.2 (by omega)
    clear h1 h2 hn h7
    go_enter Tryd.func20, Tryd.ntmps20
    go_wp2_with fail
    go_ret
    refine ⟨_, rfl, ?_, (Fr.refl _ _).alloc _⟩
    rw [HP.out]
    exact own_two w _ _
set_option maxHeartbeats 1000000 in
theorem ref_3 (M A : Nat) (hM : M < 8) (h1 : 256 ≤ A) (h2 : A < 65536) (hn : M ≠ 7) (w : World) : Calls Tryd.prog 20 #[.int .i64 M, .int .u64 A] w (RowTo w (putR M A)) := by
  have e7 : ((M : Int) == 7) = false := beq_eq_false_iff_ne.2 (by omega)
  have q0 : decide ((A : Int) < 24) = false := decide_eq_false (by omega)
  have r0 : ¬ (A : Int) < 24 := by omega
  have q1 : decide ((A : Int) < 256) = false := decide_eq_false (by omega)
  have r1 : ¬ (A : Int) < 256 := by omega
  have q2 : decide ((A : Int) < 65536) = true := decide_eq_true (by omega)
  have r2 : (A : Int) < 65536 := by omega
  have m1 : (M : Int) < 8 := by omega
  have HP := hid (show putR M A = [32 * (M : Int) + 25] ++ (digs A 2).reverse by unfold putR; rw [if_neg (by omega), if_neg (by omega), if_neg (by omega), if_pos (by omega), Int.mul_comm])
  have HB := hid (show 0 ≤ (A : Int) ∧ (A : Int) < 18446744073709551616 by omega)
  have HO := hid (own_one w (32 * (M : Int) + 25))
  clear hM h1 h2 hn
  go_enter Tryd.func20, Tryd.ntmps20
  go_wp2_with fail
  refine (bytes_calls (A : Int) 2 _ (by decide) HB.out.1 HB.out.2).mono ?_
  rintro e w4 ⟨v4, rfl, ho4, hf4⟩
  obtain ⟨A4, c4, rfl, _, _⟩ := ho4.form
  have HR := hid ho4.rd
  have HO4 := hid (HO.out.fr hf4 (fun _ _ h => h))
  have HF4 := hid (((Fr.refl (fun _ => False) w).alloc (.cells #[.int .u8 (32 * (M : Int) + 25)] 5)).then_ hf4 (fun _ _ h => h))
  clear ho4 hf4
  go_wp2_with (refine wpList_app rfl (.tmp 37) (.tmp 39) 32 rfl 1 Tryd.underlying32 infoByte _ [32 * (M : Int) + 25] rfl HO4.out A4 (digs A 2).reverse.length c4 rfl (digs A 2).reverse rfl HR.out.1 (by simp [digs_length]) HF4.out.size ?_; intro v5 w5 h5)
  go_ret
  refine ⟨v5, rfl, ?_, h5.out.fr0 HO4.out HF4.out (Nat.le_refl _)⟩
  rw [HP.out]
  exact h5.out.own
set_option maxHeartbeats 1000000 in
theorem ref_5 (M A : Nat) (hM : M < 8) (h1 : 65536 ≤ A) (h2 : A < 4294967296) (hn : M ≠ 7) (w : World) : Calls Tryd.prog 20 #[.int .i64 M, .int .u64 A] w (RowTo w (putR M A)) := by
  have e7 : ((M : Int) == 7) = false := beq_eq_false_iff_ne.2 (by omega)
  have q0 : decide ((A : Int) < 24) = false := decide_eq_false (by omega)
  have r0 : ¬ (A : Int) < 24 := by omega
  have q1 : decide ((A : Int) < 256) = false := decide_eq_false (by omega)
  have r1 : ¬ (A : Int) < 256 := by omega
  have q2 : decide ((A : Int) < 65536) = false := decide_eq_false (by omega)
  have r2 : ¬ (A : Int) < 65536 := by omega
  have q3 : decide ((A : Int) < 4294967296) = true := decide_eq_true (by omega)
  have r3 : (A : Int) < 4294967296 := by omega
  have m1 : (M : Int) < 8 := by omega
  have HP := hid (show putR M A = [32 * (M : Int) + 26] ++ (digs A 4).reverse by unfold putR; rw [if_neg (by omega), if_neg (by omega), if_neg (by omega), if_neg (by omega), if_pos (by omega), Int.mul_comm])
  have HB := hid (show 0 ≤ (A : Int) ∧ (A : Int) < 18446744073709551616 by omega)
  have HO := hid (own_one w (32 * (M : Int) + 26))
  clear hM h1 h2 hn
  go_enter Tryd.func20, Tryd.ntmps20
  go_wp2_with fail
  refine (bytes_calls (A : Int) 4 _ (by decide) HB.out.1 HB.out.2).mono ?_
  rintro e w4 ⟨v4, rfl, ho4, hf4⟩
  obtain ⟨A4, c4, rfl, _, _⟩ := ho4.form
  have HR := hid ho4.rd
  have HO4 := hid (HO.out.fr hf4 (fun _ _ h => h))
  have HF4 := hid (((Fr.refl (fun _ => False) w).alloc (.cells #[.int .u8 (32 * (M : Int) + 26)] 5)).then_ hf4 (fun _ _ h => h))
  clear ho4 hf4
  go_wp2_with (refine wpList_app rfl (.tmp 45) (.tmp 47) 32 rfl 1 Tryd.underlying32 infoByte _ [32 * (M : Int) + 26] rfl HO4.out A4 (digs A 4).reverse.length c4 rfl (digs A 4).reverse rfl HR.out.1 (by simp [digs_length]) HF4.out.size ?_; intro v5 w5 h5)
  go_ret
  refine ⟨v5, rfl, ?_, h5.out.fr0 HO4.out HF4.out (Nat.le_refl _)⟩
  rw [HP.out]
  exact h5.out.own
set_option maxHeartbeats 1000000 in
theorem ref_9 (M A : Nat) (hM : M < 8) (h1 : 4294967296 ≤ A) (h2 : A < 18446744073709551616) (hn : M ≠ 7) (w : World) : Calls Tryd.prog 20 #[.int .i64 M, .int .u64 A] w (RowTo w (putR M A)) := by
  have e7 : ((M : Int) == 7) = false := beq_eq_false_iff_ne.2 (by omega)
  have q0 : decide ((A : Int) < 24) = false := decide_eq_false (by omega)
  have r0 : ¬ (A : Int) < 24 := by omega
  have q1 : decide ((A : Int) < 256) = false := decide_eq_false (by omega)
  have r1 : ¬ (A : Int) < 256 := by omega
  have q2 : decide ((A : Int) < 65536) = false := decide_eq_false (by omega)
  have r2 : ¬ (A : Int) < 65536 := by omega
  have q3 : decide ((A : Int) < 4294967296) = false := decide_eq_false (by omega)
  have r3 : ¬ (A : Int) < 4294967296 := by omega
  have m1 : (M : Int) < 8 := by omega
  have HP := hid (show putR M A = [32 * (M : Int) + 27] ++ (digs A 8).reverse by unfold putR; rw [if_neg (by omega), if_neg (by omega), if_neg (by omega), if_neg (by omega), if_neg (by omega), Int.mul_comm])
  have HB := hid (show 0 ≤ (A : Int) ∧ (A : Int) < 18446744073709551616 by omega)
  have HO := hid (own_one w (32 * (M : Int) + 27))
  clear hM h1 h2 hn
  go_enter Tryd.func20, Tryd.ntmps20
  go_wp2_with fail
  refine (bytes_calls (A : Int) 8 _ (by decide) HB.out.1 HB.out.2).mono ?_
  rintro e w4 ⟨v4, rfl, ho4, hf4⟩
  obtain ⟨A4, c4, rfl, _, _⟩ := ho4.form
  have HR := hid ho4.rd
  have HO4 := hid (HO.out.fr hf4 (fun _ _ h => h))
  have HF4 := hid (((Fr.refl (fun _ => False) w).alloc (.cells #[.int .u8 (32 * (M : Int) + 27)] 5)).then_ hf4 (fun _ _ h => h))
  clear ho4 hf4
  go_wp2_with (refine wpList_app rfl (.tmp 51) (.tmp 53) 32 rfl 1 Tryd.underlying32 infoByte _ [32 * (M : Int) + 27] rfl HO4.out A4 (digs A 8).reverse.length c4 rfl (digs A 8).reverse rfl HR.out.1 (by simp [digs_length]) HF4.out.size ?_; intro v5 w5 h5)
  go_ret
  refine ⟨v5, rfl, ?_, h5.out.fr0 HO4.out HF4.out (Nat.le_refl _)⟩
  rw [HP.out]
  exact h5.out.own
theorem ref_calls (M A : Nat) (hM : M < 8) (hA : A < 18446744073709551616) (w : World) : Calls Tryd.prog 20 #[.int .i64 M, .int .u64 A] w (RowTo w (putR M A)) := by
  by_cases h0 : A < 24
  · exact ref_small M A hM h0 w
  · by_cases h7 : M = 7 ∧ (A < 32 ∨ 255 < A)
    · obtain ⟨rfl, h⟩ := h7
      exact ref_nil A (by omega) h w
    · by_cases h1 : A < 256
      · exact ref_two M A hM (by omega) h1 (by omega) w
      · by_cases h2 : A < 65536
        · exact ref_3 M A hM (by omega) h2 (by omega) w
        · by_cases h3 : A < 4294967296
          · exact ref_5 M A hM (by omega) h3 (by omega) w
          · exact ref_9 M A hM (by omega) hA (by omega) w
end Go.Proofs.YtgdhchknegjpfaaDoor.HeadI
