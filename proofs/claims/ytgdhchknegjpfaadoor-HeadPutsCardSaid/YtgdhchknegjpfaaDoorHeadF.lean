/- Walks of layer head: the shortest head. -/
import Derived.Test.YtgdhchknegjpfaaDoorHeadE
import Derived.Test.YtgdhchknegjpfaaDoorSame
set_option linter.unusedVariables false
set_option linter.unusedSimpArgs false
namespace Go.Proofs.YtgdhchknegjpfaaDoor.HeadF
open Go.IntWalk Go.RowKit Go.Proofs.YtgdhchknegjpfaaDoor.Mem Go.Proofs.YtgdhchknegjpfaaDoor.Num Go.Proofs.YtgdhchknegjpfaaDoor.BitsA Go.Proofs.YtgdhchknegjpfaaDoor.BitsB Go.Proofs.YtgdhchknegjpfaaDoor.App Go.Proofs.YtgdhchknegjpfaaDoor.FloatP Go.Proofs.YtgdhchknegjpfaaDoor.FloatB Go.Proofs.YtgdhchknegjpfaaDoor.FloatG Go.Proofs.YtgdhchknegjpfaaDoor.FloatI Go.Proofs.YtgdhchknegjpfaaDoor.HeadP Go.Proofs.YtgdhchknegjpfaaDoor.HeadA Go.Proofs.YtgdhchknegjpfaaDoor.HeadB Go.Proofs.YtgdhchknegjpfaaDoor.HeadC Go.Proofs.YtgdhchknegjpfaaDoor.HeadD Go.Proofs.YtgdhchknegjpfaaDoor.HeadE

theorem or8 (M a : Nat) (hM : M < 8) (ha : a < 32) : Go.bits .or .u8 ((M : Int) * 32) (a : Int) = (M : Int) * 32 + (a : Int) := by
  have h : ∀ M : Nat, M < 8 → ∀ a : Nat, a < 32 → Go.bits .or .u8 ((M : Int) * 32) (a : Int) = (M : Int) * 32 + (a : Int) := by decide +kernel
  exact h M hM a ha
/-- The shortest head of a major type and an argument. -/
def putR (M A : Nat) : List Int :=
  if A < 24 then [(M : Int) * 32 + A]
  else if M = 7 ∧ (A < 32 ∨ 255 < A) then []
  else if A < 256 then [(M : Int) * 32 + 24, A]
  else if A < 65536 then [(M : Int) * 32 + 25] ++ (digs A 2).reverse
  else if A < 4294967296 then [(M : Int) * 32 + 26] ++ (digs A 4).reverse
  else [(M : Int) * 32 + 27] ++ (digs A 8).reverse
theorem take_digs (x : Int) (n k : Nat) (h : k ≤ n) : (digs x n).take k = digs x k := by
  induction k generalizing x n with
  | zero => simp [digs]
  | succ k ih =>
    cases n with
    | zero => omega
    | succ n => rw [digs, digs, List.take_succ_cons, ih _ _ (by omega)]
theorem drop_digs (x : Int) (k : Nat) (h : k ≤ 8) : (digs x 8).reverse.drop (8 - k) = (digs x k).reverse := by
  rw [List.drop_reverse, digs_length, show 8 - (8 - k) = k by omega, take_digs x 8 k h]
/-- What Put hands back. -/
def RowTo (w : World) (xs : List Int) (e : Ending) (w' : World) : Prop := ∃ v, e = .returned v ∧ Own .u8 5 w' w.heap.size v xs ∧ Fr (fun _ => False) w w'
theorem rd_drop {k : IntKind} {w : World} {Ad : Option Addr} {xs : List Int} (h : RdI k w Ad xs) (n : Nat) : RdI k w (Ad.map fun x => x.add n) (xs.drop n) := by
  intro i hi
  rw [List.length_drop] at hi
  obtain ⟨ad, rfl, hb, hc⟩ := h (n + i) (by omega)
  refine ⟨ad.add n, rfl, by rw [block_of_add]; exact hb, ?_⟩
  rw [add_of_add, hc]
  simp [List.getD_eq_getElem?_getD]
theorem own_one (w : World) (x : Int) : Own .u8 5 (w.alloc (.cells #[.int .u8 x] 5)) w.heap.size (.slice (some ⟨w.heap.size, 0, none⟩) 1 1) [x] := Own.vec (show VecI .u8 5 _ _ [x] from Blk.new w _ _) (Nat.le_refl _) (by simp [maxLen])
theorem own_two (w : World) (x y : Int) : Own .u8 5 (w.alloc (.cells #[.int .u8 x, .int .u8 y] 5)) w.heap.size (.slice (some ⟨w.heap.size, 0, none⟩) 2 2) [x, y] := Own.vec (show VecI .u8 5 _ _ [x, y] from Blk.new w _ _) (Nat.le_refl _) (by simp [maxLen])
theorem put_small (m : Int) (M A : Nat) (hm : m % 8 = M) (hA : A < 24) (w : World) : Calls Tryd.prog 18 #[.int .i64 m, .int .u64 A] w (RowTo w (putR M A)) := by
  obtain ⟨t1, t2, t3⟩ := tmod_bd m 8 (by decide)
  have h1 : (Int.tmod m 8 + 8) % 8 = (M : Int) := by omega
  have hM : M < 8 := by omega
  have hO := or8 M A hM (by omega)
  have a1 : (A : Int) < 24 := by omega
  have m1 : (M : Int) < 8 := by omega
  have HP := hid (show putR M A = [(M : Int) * 32 + A] by unfold putR; rw [if_pos hA])
  clear hm t3 hA
  go_enter Tryd.func18, Tryd.ntmps18
  go_wp2_with fail
  go_ret
  refine ⟨_, rfl, ?_, (Fr.refl _ _).alloc _⟩
  rw [HP.out]
  exact own_one w _
theorem RdI.mk_drop {w : World} {d : Nat} {xs : List Int} (h : VecI .u8 5 w d xs) (n : Nat) : RdI .u8 w (some ⟨d, n, none⟩) (xs.drop n) := by
  have := rd_drop (VecI.rd h) n
  rw [Option.map_some, add_plain, Nat.zero_add] at this
  exact this
set_option maxHeartbeats 1000000 in
theorem put_nil (m : Int) (A : Nat) (hm : m % 8 = 7) (h1 : 24 ≤ A) (h2 : A < 32 ∨ 255 < A) (w : World) : Calls Tryd.prog 18 #[.int .i64 m, .int .u64 A] w (RowTo w (putR 7 A)) := by
  obtain ⟨t1, t2, t3⟩ := tmod_bd m 8 (by decide)
  have g1 : (Int.tmod m 8 + 8) % 8 = 7 := by omega
  have q0 : decide ((A : Int) < 24) = false := decide_eq_false (by omega)
  have r0 : ¬ (A : Int) < 24 := by omega
  have HP := hid (show putR 7 A = [] by unfold putR; rw [if_neg (by omega), if_pos ⟨rfl, h2⟩])
  clear hm t3 h1
  rcases h2 with h2 | h2
  · have q1 : decide ((A : Int) < 32) = true := decide_eq_true (by omega)
    have r1 : (A : Int) < 32 := by omega
    clear h2
    go_enter Tryd.func18, Tryd.ntmps18
    go_wp2_with fail
    go_ret
    refine ⟨_, rfl, ?_, Fr.refl _ _⟩
    rw [HP.out]
    exact Own.nil _ _ _ _
  · have q1 : decide ((A : Int) < 32) = false := decide_eq_false (by omega)
    have r1 : ¬ (A : Int) < 32 := by omega
    have q2 : decide ((A : Int) > 255) = true := decide_eq_true (by omega)
    have r2 : 255 < (A : Int) := by omega
    clear h2
    go_enter Tryd.func18, Tryd.ntmps18
    go_wp2_with fail
    go_ret
    refine ⟨_, rfl, ?_, Fr.refl _ _⟩
    rw [HP.out]
    exact Own.nil _ _ _ _
set_option maxHeartbeats 1000000 in
theorem put_two (m : Int) (M A : Nat) (hm : m % 8 = M) (h1 : 24 ≤ A) (h2 : A < 256) (hn : M = 7 → 32 ≤ A) (w : World) : Calls Tryd.prog 18 #[.int .i64 m, .int .u64 A] w (RowTo w (putR M A)) := by
  obtain ⟨t1, t2, t3⟩ := tmod_bd m 8 (by decide)
  have g1 : (Int.tmod m 8 + 8) % 8 = (M : Int) := by omega
  have hM : M < 8 := by omega
  have hO : Go.bits .or .u8 ((M : Int) * 32) 24 = (M : Int) * 32 + 24 := or8 M 24 hM (by decide)
  have q0 : decide ((A : Int) < 24) = false := decide_eq_false (by omega)
  have r0 : ¬ (A : Int) < 24 := by omega
  have r1 : (A : Int) < 256 := by omega
  have q1 : decide ((A : Int) < 256) = true := decide_eq_true r1
  have m1 : (M : Int) < 8 := by omega
  have HP := hid (show putR M A = [(M : Int) * 32 + 24, A] by unfold putR; rw [if_neg (by omega), if_neg (by omega), if_pos h2])
  by_cases h7 : M = 7
  · subst h7
    have h32 := hn rfl
    have q2 : decide ((A : Int) < 32) = false := decide_eq_false (by omega)
    have r2 : ¬ (A : Int) < 32 := by omega
    have q3 : decide ((A : Int) > 255) = false := decide_eq_false (by omega)
    have r3 : ¬ 255 < (A : Int) := by omega
    clear hm t3 h1 h2 hn h32
    go_enter Tryd.func18, Tryd.ntmps18
    go_wp2_with fail
    go_ret
    refine ⟨_, rfl, ?_, (Fr.refl _ _).alloc _⟩
    rw [HP.out]
    exact own_two w _ _
  · have e7 : ((M : Int) == 7) = false := beq_eq_false_iff_ne.2 (by omega)
    clear hm t3 h1 h2 hn h7
    go_enter Tryd.func18, Tryd.ntmps18
    go_wp2_with fail
    go_ret
    refine ⟨_, rfl, ?_, (Fr.refl _ _).alloc _⟩
    rw [HP.out]
    exact own_two w _ _
set_option maxHeartbeats 1000000 in
theorem put_3 (m : Int) (M A : Nat) (hm : m % 8 = M) (h1 : 256 ≤ A) (h2 : A < 65536) (hn : M ≠ 7) (w : World) : Calls Tryd.prog 18 #[.int .i64 m, .int .u64 A] w (RowTo w (putR M A)) := by
  obtain ⟨t1, t2, t3⟩ := tmod_bd m 8 (by decide)
  have g1 : (Int.tmod m 8 + 8) % 8 = (M : Int) := by omega
  have hM : M < 8 := by omega
  have hO : Go.bits .or .u8 ((M : Int) * 32) 25 = (M : Int) * 32 + 25 := or8 M 25 hM (by decide)
  have e7 : ((M : Int) == 7) = false := beq_eq_false_iff_ne.2 (by omega)
  have q0 : decide ((A : Int) < 24) = false := decide_eq_false (by omega)
  have r0 : ¬ (A : Int) < 24 := by omega
  have q1 : decide ((A : Int) < 256) = false := decide_eq_false (by omega)
  have r1 : ¬ (A : Int) < 256 := by omega
  have q2 : decide ((A : Int) < 65536) = true := decide_eq_true (by omega)
  have r2 : (A : Int) < 65536 := by omega
  have m1 : (M : Int) < 8 := by omega
  have HP := hid (show putR M A = [(M : Int) * 32 + 25] ++ (digs A 2).reverse by unfold putR; rw [if_neg (by omega), if_neg (by omega), if_neg (by omega), if_pos (by omega)])
  have HB := hid (show 0 ≤ (A : Int) ∧ (A : Int) < 18446744073709551616 by omega)
  have HO := hid (own_one w ((M : Int) * 32 + 25))
  clear hm t3 h1 h2 hn
  go_enter Tryd.func18, Tryd.ntmps18
  go_wp2_with fail
  refine (putBig64_calls (A : Int) _ HB.out.1 HB.out.2).mono ?_
  rintro e w4 ⟨d, rfl, hd, hv4, hf4⟩
  have HR := hid (RdI.mk_drop hv4 6)
  have HO4 := hid (HO.out.fr hf4 (fun _ _ h => h))
  have HF4 := hid (((Fr.refl (fun _ => False) w).alloc (.cells #[.int .u8 ((M : Int) * 32 + 25)] 5)).then_ hf4 (fun _ _ h => h))
  clear hv4 hf4
  go_wp2_with (refine wpList_app rfl (.tmp 45) (.tmp 48) 32 rfl 1 Tryd.underlying32 infoByte _ [(M : Int) * 32 + 25] rfl HO4.out (some ⟨d, 6, none⟩) 2 2 rfl (digs A 2).reverse (by simp [digs_length]) (by rw [← drop_digs A 2 (by decide)]; exact HR.out) (by simp) HF4.out.size ?_; intro v5 w5 h5)
  go_ret
  refine ⟨v5, rfl, ?_, h5.out.fr0 HO4.out HF4.out (Nat.le_refl _)⟩
  rw [HP.out]
  exact h5.out.own
set_option maxHeartbeats 1000000 in
theorem put_5 (m : Int) (M A : Nat) (hm : m % 8 = M) (h1 : 65536 ≤ A) (h2 : A < 4294967296) (hn : M ≠ 7) (w : World) : Calls Tryd.prog 18 #[.int .i64 m, .int .u64 A] w (RowTo w (putR M A)) := by
  obtain ⟨t1, t2, t3⟩ := tmod_bd m 8 (by decide)
  have g1 : (Int.tmod m 8 + 8) % 8 = (M : Int) := by omega
  have hM : M < 8 := by omega
  have hO : Go.bits .or .u8 ((M : Int) * 32) 26 = (M : Int) * 32 + 26 := or8 M 26 hM (by decide)
  have e7 : ((M : Int) == 7) = false := beq_eq_false_iff_ne.2 (by omega)
  have q0 : decide ((A : Int) < 24) = false := decide_eq_false (by omega)
  have r0 : ¬ (A : Int) < 24 := by omega
  have q1 : decide ((A : Int) < 256) = false := decide_eq_false (by omega)
  have r1 : ¬ (A : Int) < 256 := by omega
  have q2 : decide ((A : Int) < 65536) = false := decide_eq_false (by omega)
  have r2 : ¬ (A : Int) < 65536 := by omega
  have q3 : decide ((A : Int) < 4294967296) = true := decide_eq_true (by omega)
  have r3 : (A : Int) < 4294967296 := by omega
  have m1 : (M : Int) < 8 := by omega
  have HP := hid (show putR M A = [(M : Int) * 32 + 26] ++ (digs A 4).reverse by unfold putR; rw [if_neg (by omega), if_neg (by omega), if_neg (by omega), if_neg (by omega), if_pos (by omega)])
  have HB := hid (show 0 ≤ (A : Int) ∧ (A : Int) < 18446744073709551616 by omega)
  have HO := hid (own_one w ((M : Int) * 32 + 26))
  clear hm t3 h1 h2 hn
  go_enter Tryd.func18, Tryd.ntmps18
  go_wp2_with fail
  refine (putBig64_calls (A : Int) _ HB.out.1 HB.out.2).mono ?_
  rintro e w4 ⟨d, rfl, hd, hv4, hf4⟩
  have HR := hid (RdI.mk_drop hv4 4)
  have HO4 := hid (HO.out.fr hf4 (fun _ _ h => h))
  have HF4 := hid (((Fr.refl (fun _ => False) w).alloc (.cells #[.int .u8 ((M : Int) * 32 + 26)] 5)).then_ hf4 (fun _ _ h => h))
  clear hv4 hf4
  go_wp2_with (refine wpList_app rfl (.tmp 55) (.tmp 58) 32 rfl 1 Tryd.underlying32 infoByte _ [(M : Int) * 32 + 26] rfl HO4.out (some ⟨d, 4, none⟩) 4 4 rfl (digs A 4).reverse (by simp [digs_length]) (by rw [← drop_digs A 4 (by decide)]; exact HR.out) (by simp) HF4.out.size ?_; intro v5 w5 h5)
  go_ret
  refine ⟨v5, rfl, ?_, h5.out.fr0 HO4.out HF4.out (Nat.le_refl _)⟩
  rw [HP.out]
  exact h5.out.own
set_option maxHeartbeats 1000000 in
theorem put_9 (m : Int) (M A : Nat) (hm : m % 8 = M) (h1 : 4294967296 ≤ A) (h2 : A < 18446744073709551616) (hn : M ≠ 7) (w : World) : Calls Tryd.prog 18 #[.int .i64 m, .int .u64 A] w (RowTo w (putR M A)) := by
  obtain ⟨t1, t2, t3⟩ := tmod_bd m 8 (by decide)
  have g1 : (Int.tmod m 8 + 8) % 8 = (M : Int) := by omega
  have hM : M < 8 := by omega
  have hO : Go.bits .or .u8 ((M : Int) * 32) 27 = (M : Int) * 32 + 27 := or8 M 27 hM (by decide)
  have e7 : ((M : Int) == 7) = false := beq_eq_false_iff_ne.2 (by omega)
  have q0 : decide ((A : Int) < 24) = false := decide_eq_false (by omega)
  have r0 : ¬ (A : Int) < 24 := by omega
  have q1 : decide ((A : Int) < 256) = false := decide_eq_false (by omega)
  have r1 : ¬ (A : Int) < 256 := by omega
  have q2 : decide ((A : Int) < 65536) = false := decide_eq_false (by omega)
  have r2 : ¬ (A : Int) < 65536 := by omega
  have q3 : decide ((A : Int) < 4294967296) = false := decide_eq_false (by omega)
  have r3 : ¬ (A : Int) < 4294967296 := by omega
  have m1 : (M : Int) < 8 := by omega
  have HP := hid (show putR M A = [(M : Int) * 32 + 27] ++ (digs A 8).reverse by unfold putR; rw [if_neg (by omega), if_neg (by omega), if_neg (by omega), if_neg (by omega), if_neg (by omega)])
  have HB := hid (show 0 ≤ (A : Int) ∧ (A : Int) < 18446744073709551616 by omega)
  have HO := hid (own_one w ((M : Int) * 32 + 27))
  clear hm t3 h1 h2 hn
  go_enter Tryd.func18, Tryd.ntmps18
  go_wp2_with fail
  refine (putBig64_calls (A : Int) _ HB.out.1 HB.out.2).mono ?_
  rintro e w4 ⟨d, rfl, hd, hv4, hf4⟩
  have HR := hid (VecI.rd hv4)
  have HO4 := hid (HO.out.fr hf4 (fun _ _ h => h))
  have HF4 := hid (((Fr.refl (fun _ => False) w).alloc (.cells #[.int .u8 ((M : Int) * 32 + 27)] 5)).then_ hf4 (fun _ _ h => h))
  clear hv4 hf4
  go_wp2_with (refine wpList_app rfl (.tmp 62) (.tmp 64) 32 rfl 1 Tryd.underlying32 infoByte _ [(M : Int) * 32 + 27] rfl HO4.out (some ⟨d, 0, none⟩) 8 8 rfl (digs A 8).reverse (by simp [digs_length]) HR.out (by simp) HF4.out.size ?_; intro v5 w5 h5)
  go_ret
  refine ⟨v5, rfl, ?_, h5.out.fr0 HO4.out HF4.out (Nat.le_refl _)⟩
  rw [HP.out]
  exact h5.out.own
theorem put_calls (m : Int) (M A : Nat) (hm : m % 8 = M) (hA : A < 18446744073709551616) (w : World) : Calls Tryd.prog 18 #[.int .i64 m, .int .u64 A] w (RowTo w (putR M A)) := by
  by_cases h0 : A < 24
  · exact put_small m M A hm h0 w
  · by_cases h7 : M = 7 ∧ (A < 32 ∨ 255 < A)
    · obtain ⟨rfl, h⟩ := h7
      exact put_nil m A hm (by omega) h w
    · by_cases h1 : A < 256
      · exact put_two m M A hm (by omega) h1 (by omega) w
      · by_cases h2 : A < 65536
        · exact put_3 m M A hm (by omega) h2 (by omega) w
        · by_cases h3 : A < 4294967296
          · exact put_5 m M A hm (by omega) h3 (by omega) w
          · exact put_9 m M A hm (by omega) hA (by omega) w
end Go.Proofs.YtgdhchknegjpfaaDoor.HeadF
