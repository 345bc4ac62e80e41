/- Walks of the document's answer for layer utf: follow, sign, First. -/
import Derived.Test.YtkmgiodhaaajjaaDoorUtfB
set_option linter.unusedVariables false
set_option linter.unusedSimpArgs false
namespace Go.Proofs.YtkmgiodhaaajjaaDoor.UtfC
open Go.RowKit Go.Proofs.YtkmgiodhaaajjaaDoor.Mem Go.Proofs.YtkmgiodhaaajjaaDoor.UtfP Go.Proofs.YtkmgiodhaaajjaaDoor.UtfA Go.Proofs.YtkmgiodhaaajjaaDoor.UtfB

theorem byt_getD (s : ByteArray) (i : Nat) (h : i < s.size) : (byt s).getD i 0 = ((s[i]'h).toNat : Int) := by
  rw [List.getD_eq_getElem?_getD, byt_get s i h]; rfl

set_option maxHeartbeats 1000000 in
theorem follow_calls (s : ByteArray) (from_ n : Nat) (w : World) (hs : s.size ≤ 140737488355328) (hf : from_ ≤ 140737488355330) (hn : n ≤ 4) :
    Calls Tryd.prog 142 #[.string s, .int .i64 from_, .int .i64 n] w fun e w' => e = .returned (.int .i64 (followS (byt s) from_ n)) ∧ w = w' := by
  go_enter Tryd.func142, Tryd.ntmps142
  go_wp2
  go_loop [7] (fun i => ∃ k : Nat, k ≤ n ∧ i = .int .i64 k ∧ followS (byt s) from_ n = k + followS (byt s) (from_ + k) (n - k)) (fun i => n - (intOf i).toNat)
  case atStart => exact ⟨0, by omega, rfl, by simp⟩
  case round =>
    obtain ⟨k, hk, rfl, hq⟩ := hrel
    have HQ := hid hq
    clear hq
    by_cases hlt : k < n
    · obtain ⟨m, hm⟩ : ∃ m, n - k = m + 1 := ⟨n - k - 1, by omega⟩
      have hfol : followS (byt s) (from_ + k) (n - k) = if from_ + k < s.size ∧ 128 ≤ (byt s).getD (from_ + k) 0 ∧ (byt s).getD (from_ + k) 0 ≤ 191 then 1 + followS (byt s) (from_ + k + 1) (n - (k + 1)) else 0 := by
        rw [hm, followS, byt_length, show n - (k + 1) = m from by omega]
      have HFOL := hid hfol
      clear hfol hm
      by_cases hin : from_ + k < s.size
      · have hg := byt_getD s (from_ + k) hin
        have HGE := hid hg
        clear hg
        go_wp2
        · go_round
          case rel =>
            refine ⟨k + 1, by omega, by go_num, ?_⟩
            rw [HQ.out, HFOL.out, if_pos ⟨hin, by rw [HGE.out]; exact ⟨by assumption, by assumption⟩⟩, show from_ + (k + 1) = from_ + k + 1 from by omega]
            omega
          case measure => simp [intOf]; omega
        · go_ret
          refine ⟨ret_int ?_, rfl⟩
          rw [HQ.out, HFOL.out, if_neg (by rw [HGE.out]; omega)]
          rfl
        · go_ret
          refine ⟨ret_int ?_, rfl⟩
          rw [HQ.out, HFOL.out, if_neg (by rw [HGE.out]; omega)]
          rfl
      · go_wp2
        go_ret
        refine ⟨ret_int ?_, rfl⟩
        rw [HQ.out, HFOL.out, if_neg (by omega)]
        rfl
    · go_wp2
      go_ret
      refine ⟨ret_int ?_, rfl⟩
      rw [HQ.out, show n - k = 0 from by omega]
      simp [followS]

theorem ret_sign {a b : Int} {t : Nat × Nat} (h : a = t.1) (h' : b = t.2) : Ending.returned (.tuple #[.int .i64 a, .int .i64 b]) = Ending.returned (.tuple #[.int .i64 (t.1 : Nat), .int .i64 (t.2 : Nat)]) := by rw [h, h']

/-- The rest of sign, once the kind of the first byte is known. -/
theorem sign_tail (l : List Int) (at_ : Nat) (h : ¬ l.getD at_ 0 < 128) (n : Nat) (lo hi : Int) (hk : kindS (l.getD at_ 0) = (n, lo, hi)) (hn : n ≠ 0) :
    signS l at_ = if l.length ≤ at_ + 1 ∨ l.getD (at_ + 1) 0 < lo ∨ hi < l.getD (at_ + 1) 0 then (n, 1) else (n, 2 + followS l (at_ + 2) (n - 2)) := by
  unfold signS
  rw [if_neg h, hk, if_neg hn]

theorem followS_le (l : List Int) (a n : Nat) : followS l a n ≤ n := by
  induction n generalizing a with
  | zero => simp [followS]
  | succ n ih =>
    simp only [followS]
    split
    · have := ih (a + 1); omega
    · omega
theorem follow_any (s : ByteArray) (a n : Int) (w : World) (hs : s.size ≤ 140737488355328) (h0 : 0 ≤ a) (hf : a ≤ 140737488355330) (n0 : 0 ≤ n) (hn : n ≤ 4) :
    Calls Tryd.prog 142 #[.string s, .int .i64 a, .int .i64 n] w fun e w' => e = .returned (.int .i64 (followS (byt s) a.toNat n.toNat)) ∧ w = w' := by
  obtain ⟨a, rfl⟩ := Int.eq_ofNat_of_zero_le h0
  obtain ⟨n, rfl⟩ := Int.eq_ofNat_of_zero_le n0
  exact follow_calls s a n w hs (by omega) (by omega)

set_option maxRecDepth 100000 in
set_option maxHeartbeats 4000000 in
theorem sign_calls (s : ByteArray) (at_ : Nat) (w : World) (hs : s.size ≤ 140737488355328) (hin : at_ < s.size) :
    Calls Tryd.prog 130 #[.string s, .int .i64 at_] w fun e w' => e = .returned (.tuple #[.int .i64 ((signS (byt s) at_).1 : Nat), .int .i64 ((signS (byt s) at_).2 : Nat)]) ∧ w = w' := by
  have hg := byt_getD s at_ hin
  have HGE := hid hg
  clear hg
  have hz := s[at_].toNat_lt
  by_cases hin1 : at_ + 1 < s.size
  · have hg1 := byt_getD s (at_ + 1) hin1
    have HGE1 := hid hg1
    clear hg1
    go_enter Tryd.func130, Tryd.ntmps130
    go_wp2_with ((with_reducible refine (follow_any _ _ _ _ hs (by omega) (by omega) (by decide) (by decide)).mono ?_); rintro e w' ⟨rfl, rfl⟩)
    · go_ret2
      refine ⟨ret_sign ?_ ?_, rfl⟩
      all_goals
        unfold signS
        rw [if_pos (by rw [HGE.out]; assumption)]
        rfl
    all_goals
      go_ret2
      refine ⟨?_, rfl⟩
      try simp only [beq_iff_eq, beq_eq_false_iff_ne, ne_eq] at *
      obtain ⟨q, hq⟩ : ∃ q, kindS ((byt s).getD at_ 0) = q := ⟨_, rfl⟩
      have hq2 := hq
      unfold kindS at hq2
      rw [HGE.out] at hq2
      repeat (first | rw [if_pos (by omega)] at hq2 | rw [if_neg (by omega)] at hq2)
      subst hq2
      refine ret_sign ?_ ?_
      all_goals
        first
        | (rw [sign_tail (byt s) at_ (by rw [HGE.out]; omega) _ _ _ hq (by decide), byt_length, HGE1.out]; (first | rw [if_pos (by omega)] | rw [if_neg (by omega)]); (first | rfl | (simp; done) | (have z0 := followS_le (byt s) (at_ + 2) 0; have z1 := followS_le (byt s) (at_ + 2) 1; have z2 := followS_le (byt s) (at_ + 2) 2; unfold wrap64; simp only [Nat.reduceSub]; omega)))
        | (unfold signS; rw [hq, if_neg (by rw [HGE.out]; omega), if_pos rfl]; rfl)
  · go_enter Tryd.func130, Tryd.ntmps130
    go_wp2_with fail
    · go_ret2
      refine ⟨ret_sign ?_ ?_, rfl⟩
      all_goals
        unfold signS
        rw [if_pos (by rw [HGE.out]; assumption)]
        rfl
    all_goals
      go_ret2
      refine ⟨?_, rfl⟩
      try simp only [beq_iff_eq, beq_eq_false_iff_ne, ne_eq] at *
      obtain ⟨q, hq⟩ : ∃ q, kindS ((byt s).getD at_ 0) = q := ⟨_, rfl⟩
      have hq2 := hq
      unfold kindS at hq2
      rw [HGE.out] at hq2
      repeat (first | rw [if_pos (by omega)] at hq2 | rw [if_neg (by omega)] at hq2)
      subst hq2
      refine ret_sign ?_ ?_
      all_goals
        first
        | (rw [sign_tail (byt s) at_ (by rw [HGE.out]; omega) _ _ _ hq (by decide), byt_length, if_pos (.inl (by omega))]; (first | rfl | (simp; done) | (simp; omega)))
        | (unfold signS; rw [hq, if_neg (by rw [HGE.out]; omega), if_pos rfl]; rfl)

end Go.Proofs.YtkmgiodhaaajjaaDoor.UtfC
