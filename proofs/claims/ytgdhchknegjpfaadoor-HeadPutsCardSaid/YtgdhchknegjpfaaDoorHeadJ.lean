/- Walks of layer head: the shortest head of a float. -/
import Derived.Test.YtgdhchknegjpfaaDoorHeadI
set_option linter.unusedVariables false
set_option linter.unusedSimpArgs false
namespace Go.Proofs.YtgdhchknegjpfaaDoor.HeadJ
open Go.IntWalk Go.RowKit Go.Proofs.YtgdhchknegjpfaaDoor.Mem Go.Proofs.YtgdhchknegjpfaaDoor.Num Go.Proofs.YtgdhchknegjpfaaDoor.BitsA Go.Proofs.YtgdhchknegjpfaaDoor.BitsB Go.Proofs.YtgdhchknegjpfaaDoor.App Go.Proofs.YtgdhchknegjpfaaDoor.FloatP Go.Proofs.YtgdhchknegjpfaaDoor.FloatB Go.Proofs.YtgdhchknegjpfaaDoor.FloatG Go.Proofs.YtgdhchknegjpfaaDoor.FloatI Go.Proofs.YtgdhchknegjpfaaDoor.HeadP Go.Proofs.YtgdhchknegjpfaaDoor.HeadA Go.Proofs.YtgdhchknegjpfaaDoor.HeadB Go.Proofs.YtgdhchknegjpfaaDoor.HeadC Go.Proofs.YtgdhchknegjpfaaDoor.HeadD Go.Proofs.YtgdhchknegjpfaaDoor.HeadE Go.Proofs.YtgdhchknegjpfaaDoor.HeadF Go.Proofs.YtgdhchknegjpfaaDoor.HeadI

theorem shortest_w (x : Nat) : (shortestF x).2 = 2 ∨ (shortestF x).2 = 4 ∨ (shortestF x).2 = 8 := by
  unfold shortestF
  split
  · exact Or.inl rfl
  · split
    · exact Or.inl rfl
    · split
      · exact Or.inr (Or.inl rfl)
      · exact Or.inr (Or.inr rfl)
theorem back_wide (x : Nat) (hx : x < 2 ^ 64) : (shortestF x).1 < 2 ^ (8 * (shortestF x).2) ∧ shortR (shortestF x).1 (shortestF x).2 = true := by
  by_cases hn : nanB x = true
  · have h1 : shortestF x = (32256, 2) := by unfold shortestF; rw [if_pos hn]
    rw [h1]
    exact ⟨by decide, by decide⟩
  · have hb := back x hx (by simpa using hn)
    have h2 := shortest_w x
    have hw : wideR (shortestF x).1 (shortestF x).2 = (x, true) := by
      generalize shortestF x = r at hb h2 ⊢
      obtain ⟨y, v⟩ := r
      simp only at hb h2 ⊢
      unfold wide at hb
      unfold wideR
      obtain rfl | rfl | rfl := h2
      · rw [if_pos rfl] at hb
        rw [if_pos (by decide), if_pos (by simpa using hb.2), hb.1]
      · rw [if_neg (by decide), if_pos rfl] at hb
        rw [if_neg (by decide), if_pos (by decide), if_pos (by simpa using hb.2), hb.1]
      · rw [if_neg (by decide), if_neg (by decide)] at hb
        rw [if_neg (by decide), if_neg (by decide), if_pos (by decide), hb.1]
    refine ⟨hb.2, ?_⟩
    unfold shortR
    rw [hw]
    simp
/-- The shortest head of a float. -/
def putFR (x : Nat) : List Int := ((if (shortestF x).2 = 2 then 249 else if (shortestF x).2 = 4 then 250 else 251 : Nat) : Int) :: (digs ((shortestF x).1 : Nat) (shortestF x).2).reverse
theorem lt64 {y v : Nat} (h : y < 2 ^ (8 * v)) (hv : v = 2 ∨ v = 4 ∨ v = 8) : y < 18446744073709551616 := by
  refine Nat.lt_of_lt_of_le h ?_
  obtain rfl | rfl | rfl := hv <;> decide
set_option maxHeartbeats 1000000 in
theorem refputf_calls (x : Nat) (hx : x < 2 ^ 64) (w : World) : Calls Tryd.prog 21 #[.int .u64 x] w (RowTo w (putFR x)) := by
  have hw := shortest_w x
  have hlt := lt64 (back_wide x hx).1 hw
  have HX := hid hx
  obtain ⟨r, hr⟩ : ∃ r, shortestF x = r := ⟨_, rfl⟩
  have HR := hid hr
  have hp : putFR x = ((if r.2 = 2 then 249 else if r.2 = 4 then 250 else 251 : Nat) : Int) :: (digs (r.1 : Nat) r.2).reverse := by unfold putFR; rw [hr]
  rw [hr] at hw hlt
  obtain ⟨y, v⟩ := r
  simp only at hw hlt hp
  have HB := hid (show 0 ≤ (y : Int) ∧ (y : Int) < 18446744073709551616 by omega)
  have HP := hid hp
  clear hx hr hp hlt
  go_enter Tryd.func21, Tryd.ntmps21
  go_wp2_with fail
  refine (rshortest_calls w x HX.out).mono ?_
  rintro e w1 ⟨rfl, hf⟩
  rw [HR.out]
  have HF := hid hf
  clear hf
  rcases hw with rfl | rfl | rfl
  · have HO := hid (own_one w1 249)
    have hp := HP.out
    go_wp2_with fail
    refine (bytes_calls (y : Int) 2 _ (by decide) HB.out.1 HB.out.2).mono ?_
    rintro e w4 ⟨v4, rfl, ho4, hf4⟩
    obtain ⟨A4, c4, rfl, _, _⟩ := ho4.form
    have HR4 := hid ho4.rd
    have HO4 := hid (HO.out.fr hf4 (fun _ _ h => h))
    have HF4 := hid (((Fr.refl (fun _ => False) w1).alloc (.cells #[.int .u8 249] 5)).then_ hf4 (fun _ _ h => h))
    clear ho4 hf4
    go_wp2_with (refine wpList_app rfl (.tmp 12) (.tmp 14) 32 rfl 1 Tryd.underlying32 infoByte _ [249] rfl HO4.out A4 (digs y 2).reverse.length c4 rfl (digs y 2).reverse rfl HR4.out.1 (by simp [digs_length]) HF4.out.size ?_; intro v5 w5 h5)
    go_ret
    refine ⟨v5, rfl, ?_, HF.out.then_ (h5.out.fr0 HO4.out HF4.out (Nat.le_refl _)) (fun _ _ h => h)⟩
    rw [hp]
    exact h5.out.own.mono HF.out.size
  · have HO := hid (own_one w1 250)
    have hp := HP.out
    go_wp2_with fail
    refine (bytes_calls (y : Int) 4 _ (by decide) HB.out.1 HB.out.2).mono ?_
    rintro e w4 ⟨v4, rfl, ho4, hf4⟩
    obtain ⟨A4, c4, rfl, _, _⟩ := ho4.form
    have HR4 := hid ho4.rd
    have HO4 := hid (HO.out.fr hf4 (fun _ _ h => h))
    have HF4 := hid (((Fr.refl (fun _ => False) w1).alloc (.cells #[.int .u8 250] 5)).then_ hf4 (fun _ _ h => h))
    clear ho4 hf4
    go_wp2_with (refine wpList_app rfl (.tmp 18) (.tmp 20) 32 rfl 1 Tryd.underlying32 infoByte _ [250] rfl HO4.out A4 (digs y 4).reverse.length c4 rfl (digs y 4).reverse rfl HR4.out.1 (by simp [digs_length]) HF4.out.size ?_; intro v5 w5 h5)
    go_ret
    refine ⟨v5, rfl, ?_, HF.out.then_ (h5.out.fr0 HO4.out HF4.out (Nat.le_refl _)) (fun _ _ h => h)⟩
    rw [hp]
    exact h5.out.own.mono HF.out.size
  · have HO := hid (own_one w1 251)
    have hp := HP.out
    go_wp2_with fail
    refine (bytes_calls (y : Int) 8 _ (by decide) HB.out.1 HB.out.2).mono ?_
    rintro e w4 ⟨v4, rfl, ho4, hf4⟩
    obtain ⟨A4, c4, rfl, _, _⟩ := ho4.form
    have HR4 := hid ho4.rd
    have HO4 := hid (HO.out.fr hf4 (fun _ _ h => h))
    have HF4 := hid (((Fr.refl (fun _ => False) w1).alloc (.cells #[.int .u8 251] 5)).then_ hf4 (fun _ _ h => h))
    clear ho4 hf4
    go_wp2_with (refine wpList_app rfl (.tmp 22) (.tmp 24) 32 rfl 1 Tryd.underlying32 infoByte _ [251] rfl HO4.out A4 (digs y 8).reverse.length c4 rfl (digs y 8).reverse rfl HR4.out.1 (by simp [digs_length]) HF4.out.size ?_; intro v5 w5 h5)
    go_ret
    refine ⟨v5, rfl, ?_, HF.out.then_ (h5.out.fr0 HO4.out HF4.out (Nat.le_refl _)) (fun _ _ h => h)⟩
    rw [hp]
    exact h5.out.own.mono HF.out.size
end Go.Proofs.YtgdhchknegjpfaaDoor.HeadJ
