/- Layer head: what is put is read again. No program is walked here. -/
import Derived.Test.YtgdhchknegjpfaaDoorHeadK
import Derived.Test.YtgdhchknegjpfaaDoorBitsV
set_option linter.unusedVariables false
set_option linter.unusedSimpArgs false
namespace Go.Proofs.YtgdhchknegjpfaaDoor.HeadL
open Go.IntWalk Go.RowKit Go.Proofs.YtgdhchknegjpfaaDoor.Mem Go.Proofs.YtgdhchknegjpfaaDoor.Num Go.Proofs.YtgdhchknegjpfaaDoor.BitsA Go.Proofs.YtgdhchknegjpfaaDoor.BitsB Go.Proofs.YtgdhchknegjpfaaDoor.App Go.Proofs.YtgdhchknegjpfaaDoor.FloatP Go.Proofs.YtgdhchknegjpfaaDoor.FloatB Go.Proofs.YtgdhchknegjpfaaDoor.FloatG Go.Proofs.YtgdhchknegjpfaaDoor.FloatI Go.Proofs.YtgdhchknegjpfaaDoor.HeadP Go.Proofs.YtgdhchknegjpfaaDoor.HeadA Go.Proofs.YtgdhchknegjpfaaDoor.HeadB Go.Proofs.YtgdhchknegjpfaaDoor.HeadC Go.Proofs.YtgdhchknegjpfaaDoor.HeadD Go.Proofs.YtgdhchknegjpfaaDoor.HeadE Go.Proofs.YtgdhchknegjpfaaDoor.HeadF Go.Proofs.YtgdhchknegjpfaaDoor.HeadI Go.Proofs.YtgdhchknegjpfaaDoor.HeadJ Go.Proofs.YtgdhchknegjpfaaDoor.HeadK Go.Proofs.YtgdhchknegjpfaaDoor.BitsV

theorem win_mid (c : Int) (ds rest : List Int) (W : Nat) (h : ds.length = W) : win (c :: (ds ++ rest)) 1 W = ds := by
  refine ext_getD (by rw [win_length, h]) ?_
  intro j hj
  rw [win_length] at hj
  unfold win
  rw [List.getD_eq_getElem?_getD (l := List.map _ _), List.getElem?_map, List.getElem?_range hj]
  simp only [Option.map_some, Option.getD_some]
  rw [Nat.add_comm 1 j, List.getD_cons_succ]
  simp only [List.getD_eq_getElem?_getD]
  rw [List.getElem?_append_left (by omega)]
theorem wide_good (M I W A : Nat) (rest : List Int) (hI1 : 24 ≤ I) (hI2 : I ≤ 27) (hW : begW I = W) (hA : (A : Int) < 256 ^ W) (hM : M < 8) (hL : longB M W A = false) (hbad : ¬ (M = 7 ∧ W = 1 ∧ A < 32)) :
    firstH (((M : Int) * 32 + I) :: ((digs A W).reverse ++ rest)) = ⟨M, W, A, 0, ((1 + W : Nat) : Int), 0⟩ := by
  have c1 : ((M : Int) * 32 + I).toNat / 32 = M := by omega
  have c2 : ((M : Int) * 32 + I).toNat % 32 = I := by omega
  have hr := readR_wide ((M : Int) * 32 + I) ((digs A W).reverse ++ rest) (by omega) (by omega)
  rw [c1, c2, hW] at hr
  have hw8 : W ≤ 8 := by have := begW_cases hI1 hI2; omega
  have harg : arg (((M : Int) * 32 + I) :: ((digs A W).reverse ++ rest)) W = A := by
    unfold arg
    rw [win_mid _ _ _ _ (by simp [digs_length]), val_digs W hw8 A (by omega), Int.emod_eq_of_lt (by omega) hA]
    rfl
  have := WideIs.good ⟨hr⟩ (by simp [digs_length]; omega) (by rw [harg]; exact hbad) (by rw [harg]; exact hL)
  rw [harg] at this
  exact this
theorem first_put (M A : Nat) (hM : M < 8) (hA : A < 18446744073709551616) (rest : List Int) (hne : putR M A ≠ []) : ∃ W, firstH (putR M A ++ rest) = ⟨M, W, A, 0, ((putR M A).length : Int), 0⟩ := by
  unfold putR at hne ⊢
  by_cases h0 : A < 24
  · rw [if_pos h0]
    have := firstH_low ((M : Int) * 32 + A) rest (by omega)
    rw [show ((M : Int) * 32 + A).toNat / 32 = M by omega, show ((M : Int) * 32 + A).toNat % 32 = A by omega] at this
    exact ⟨0, this⟩
  · rw [if_neg h0] at hne ⊢
    by_cases h7 : M = 7 ∧ (A < 32 ∨ 255 < A)
    · rw [if_pos h7] at hne; exact absurd rfl hne
    · rw [if_neg h7]
      by_cases h1 : A < 256
      · rw [if_pos h1]
        have hd : [(A : Int)] = (digs A 1).reverse := by
          show [(A : Int)] = [(A : Int) % 256]
          rw [show (A : Int) % 256 = A by omega]
        have := wide_good M 24 1 A rest (by decide) (by decide) rfl (by omega) hM (by
          unfold longB
          rw [if_neg (by decide)]
          split
          · rfl
          · rw [if_pos rfl]; exact decide_eq_false (by omega)) (by omega)
        rw [← hd] at this
        exact ⟨1, this⟩
      · rw [if_neg h1]
        have h7' : ¬ M = 7 := by omega
        by_cases h2 : A < 65536
        · rw [if_pos h2]
          have := wide_good M 25 2 A rest (by decide) (by decide) rfl (by omega) hM (by
            unfold longB
            rw [if_neg (by decide), if_neg h7', if_neg (by decide)]; exact decide_eq_false (by omega)) (by omega)
          exact ⟨2, by rw [List.append_assoc]; exact this.trans (by simp [digs_length])⟩
        · rw [if_neg h2]
          by_cases h3 : A < 4294967296
          · rw [if_pos h3]
            have := wide_good M 26 4 A rest (by decide) (by decide) rfl (by omega) hM (by
              unfold longB
              rw [if_neg (by decide), if_neg h7', if_neg (by decide)]; exact decide_eq_false (by omega)) (by omega)
            exact ⟨4, by rw [List.append_assoc]; exact this.trans (by simp [digs_length])⟩
          · rw [if_neg h3]
            have := wide_good M 27 8 A rest (by decide) (by decide) rfl (by omega) hM (by
              unfold longB
              rw [if_neg (by decide), if_neg h7', if_neg (by decide)]; exact decide_eq_false (by omega)) (by omega)
            exact ⟨8, by rw [List.append_assoc]; exact this.trans (by simp [digs_length])⟩
theorem first_putf (x : Nat) (hx : x < 2 ^ 64) : ∃ W A, firstH (putFR x) = ⟨7, W, A, 0, ((putFR x).length : Int), 0⟩ := by
  have hb := back_wide x hx
  have hw := shortest_w x
  unfold putFR
  generalize shortestF x = r at hb hw ⊢
  obtain ⟨y, v⟩ := r
  simp only at hb hw ⊢
  have hA : (y : Int) < 256 ^ v := by
    have h := hb.1
    rcases hw with rfl | rfl | rfl
    · have : y < 65536 := h
      show (y : Int) < 65536
      omega
    · have : y < 4294967296 := h
      show (y : Int) < 4294967296
      omega
    · have : y < 18446744073709551616 := h
      show (y : Int) < 18446744073709551616
      omega
  have hL : longB 7 v y = false := by
    unfold longB
    rw [if_neg (by omega), if_pos rfl, hb.2]
    simp
  rcases hw with rfl | rfl | rfl
  · have := wide_good 7 25 2 y [] (by decide) (by decide) rfl hA (by decide) hL (by omega)
    rw [List.append_nil] at this
    exact ⟨2, y, this.trans (by simp [digs_length])⟩
  · have := wide_good 7 26 4 y [] (by decide) (by decide) rfl hA (by decide) hL (by omega)
    rw [List.append_nil] at this
    exact ⟨4, y, this.trans (by simp [digs_length])⟩
  · have := wide_good 7 27 8 y [] (by decide) (by decide) rfl hA (by decide) hL (by omega)
    rw [List.append_nil] at this
    exact ⟨8, y, this.trans (by simp [digs_length])⟩
theorem bytes_rev {xs : List Int} (h : Bytes xs) : Bytes xs.reverse := fun c hc => h c (List.mem_reverse.1 hc)
theorem bytes_cons {c : Int} {xs : List Int} (h1 : 0 ≤ c) (h2 : c < 256) (h : Bytes xs) : Bytes (c :: xs) := by
  intro d hd
  rcases List.mem_cons.1 hd with rfl | hd
  · omega
  · exact h d hd
theorem bytes_nil : Bytes [] := fun c hc => by cases hc
theorem bytes_put (M A : Nat) (hM : M < 8) : Bytes (putR M A) := by
  unfold putR
  split
  · exact bytes_cons (by omega) (by omega) bytes_nil
  · split
    · exact bytes_nil
    · split
      · exact bytes_cons (by omega) (by omega) (bytes_cons (by omega) (by omega) bytes_nil)
      · split
        · exact bytes_cons (by omega) (by omega) (bytes_rev (bytes_digs _ _))
        · split
          · exact bytes_cons (by omega) (by omega) (bytes_rev (bytes_digs _ _))
          · exact bytes_cons (by omega) (by omega) (bytes_rev (bytes_digs _ _))
theorem bytes_putf (x : Nat) : Bytes (putFR x) := by
  unfold putFR
  refine bytes_cons (by omega) ?_ (bytes_rev (bytes_digs _ _))
  split
  · decide
  · split <;> decide
theorem len_put (M A : Nat) : (putR M A).length ≤ 9 := by
  unfold putR
  repeat' split
  all_goals simp [digs_length]
theorem len_putf (x : Nat) : (putFR x).length ≤ 9 := by
  have := shortest_w x
  unfold putFR
  simp [digs_length]
  omega
end Go.Proofs.YtgdhchknegjpfaaDoor.HeadL
