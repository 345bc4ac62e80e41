/- Layer head: the first head of any bytes is the document's. -/
import Derived.Test.YtgdhchknegjpfaaDoorHeadF
import Derived.Test.YtgdhchknegjpfaaDoorHeadG
import Derived.Test.YtgdhchknegjpfaaDoorHeadN
import Derived.Test.YtgdhchknegjpfaaDoorBitsV
set_option linter.unusedVariables false
set_option linter.unusedSimpArgs false
namespace Go.Proofs.YtgdhchknegjpfaaDoor.HeadH
open Go.IntWalk Go.RowKit Go.Proofs.YtgdhchknegjpfaaDoor.Mem Go.Proofs.YtgdhchknegjpfaaDoor.Num Go.Proofs.YtgdhchknegjpfaaDoor.BitsA Go.Proofs.YtgdhchknegjpfaaDoor.BitsB Go.Proofs.YtgdhchknegjpfaaDoor.App Go.Proofs.YtgdhchknegjpfaaDoor.FloatP Go.Proofs.YtgdhchknegjpfaaDoor.FloatB Go.Proofs.YtgdhchknegjpfaaDoor.FloatG Go.Proofs.YtgdhchknegjpfaaDoor.FloatI Go.Proofs.YtgdhchknegjpfaaDoor.HeadP Go.Proofs.YtgdhchknegjpfaaDoor.HeadA Go.Proofs.YtgdhchknegjpfaaDoor.HeadB Go.Proofs.YtgdhchknegjpfaaDoor.HeadC Go.Proofs.YtgdhchknegjpfaaDoor.HeadD Go.Proofs.YtgdhchknegjpfaaDoor.HeadE Go.Proofs.YtgdhchknegjpfaaDoor.HeadF Go.Proofs.YtgdhchknegjpfaaDoor.HeadG Go.Proofs.YtgdhchknegjpfaaDoor.Same Go.Proofs.YtgdhchknegjpfaaDoor.BitsV

theorem take_win (xs : List Int) (W : Nat) (h : 1 + W ≤ xs.length) : xs.take (1 + W) = xs.getD 0 0 :: win xs 1 W := by
  refine ext_getD (by rw [List.length_take, List.length_cons, win_length]; omega) ?_
  intro j hj
  rw [List.length_take] at hj
  have e1 : (xs.take (1 + W)).getD j 0 = xs.getD j 0 := by
    simp only [List.getD_eq_getElem?_getD, List.getElem?_take]
    rw [if_pos (by omega)]
  rw [e1]
  cases j with
  | zero => rfl
  | succ j =>
    rw [List.getD_cons_succ]
    unfold win
    rw [List.getD_eq_getElem?_getD (l := List.map _ _), List.getElem?_map, List.getElem?_range (by omega)]
    simp only [Option.map_some, Option.getD_some]
    rw [Nat.add_comm 1 j]
theorem bytes_win {xs : List Int} (h : Bytes xs) (a n : Nat) : Bytes (win xs a n) := by
  intro c hc
  unfold win at hc
  obtain ⟨i, _, rfl⟩ := List.mem_map.1 hc
  have := h.get (a + i)
  omega
/-- Put of what was read. -/
theorem put_read (xs : List Int) (hb : Bytes xs) (hf : (readR xs).f = 0) (hn : ¬ ((readR xs).M = 7 ∧ 1 < (readR xs).W)) : putR (readR xs).M (readR xs).A = xs.take (readR xs).many ∧ (readR xs).many ≤ xs.length ∧ (readR xs).M < 8 ∧ (readR xs).A < 2 ^ 64 := by
  rcases Nat.eq_zero_or_pos xs.length with h0 | h0
  · have hx : xs = [] := List.eq_nil_of_length_eq_zero h0
    subst hx
    exact absurd hf (by decide)
  · have hc := hb.get 0
    have HB : Byt0 xs (xs.getD 0 0) ((xs.getD 0 0).toNat / 32) ((xs.getD 0 0).toNat % 32) := ⟨rfl, by omega, by omega, by omega, h0⟩
    obtain ⟨c, hce⟩ : ∃ c, xs.getD 0 0 = c := ⟨_, rfl⟩
    obtain ⟨M, hM⟩ : ∃ M, (xs.getD 0 0).toNat / 32 = M := ⟨_, rfl⟩
    obtain ⟨I, hI⟩ : ∃ I, (xs.getD 0 0).toNat % 32 = I := ⟨_, rfl⟩
    rw [hM, hI, hce] at HB
    have hM8 := HB.M8
    have hI32 := HB.I32
    have hcI := HB.e
    clear hM hI
    by_cases h28 : 28 ≤ I
    · exfalso
      rw [HB.err h28] at hf
      have hf : begE M I = 0 := hf
      unfold begE at hf
      rw [if_pos h28] at hf
      split at hf <;> exact absurd hf (by decide)
    · by_cases h24 : I < 24
      · rw [HB.low h24]
        refine ⟨?_, h0, hM8, show I < 2 ^ 64 by omega⟩
        show putR M I = xs.take 1
        have := take_win xs 0 (by omega)
        rw [show 1 = 1 + 0 from rfl, this, hce]
        unfold putR
        rw [if_pos h24]
        show [(M : Int) * 32 + I] = [c]
        rw [hcI, Int.mul_comm]
      · have hr := HB.wide (by omega) (by omega)
        rw [hr] at hf hn ⊢
        have hWc := begW_cases (show 24 ≤ I by omega) (show I ≤ 27 by omega)
        obtain ⟨W, hW⟩ : ∃ W, begW I = W := ⟨_, rfl⟩
        have hIW : (W = 1 → I = 24) ∧ (W = 2 → I = 25) ∧ (W = 4 → I = 26) ∧ (W = 8 → I = 27) := by
          have : I = 24 ∨ I = 25 ∨ I = 26 ∨ I = 27 := by omega
          rcases this with rfl | rfl | rfl | rfl <;> simp [begW] at hW <;> omega
        rw [hW] at hf hn hWc ⊢
        unfold readW at hf hn ⊢
        by_cases hl : xs.length ≤ W
        · rw [if_pos hl] at hf; exact absurd hf (show ¬ (9 : Nat) = 0 by decide)
        · rw [if_neg hl] at hf hn ⊢
          by_cases hbad : M = 7 ∧ W = 1 ∧ arg xs W < 32
          · rw [if_pos hbad] at hf; exact absurd hf (show ¬ (2 : Nat) = 0 by decide)
          · rw [if_neg hbad] at hf hn ⊢
            by_cases hlong : longB M W (arg xs W) = true
            · rw [if_pos hlong] at hf; exact absurd hf (show ¬ (5 : Nat) = 0 by decide)
            · rw [if_neg hlong] at hf hn ⊢
              simp only at hn ⊢
              refine ⟨?_, by omega, hM8, arg_lt xs W⟩
              rw [take_win xs W (by omega), hce]
              have hwl := win_length xs 1 W
              have hval := arg_val xs W
              have hbw := bytes_win hb 1 W
              have hlt : val (win xs 1 W) < 256 ^ W := val_lt _ hbw W (by rw [hwl]; exact Nat.le_refl _)
              have hdig : (digs (arg xs W) W).reverse = win xs 1 W := by
                have := digs_val (win xs 1 W) hbw (by rw [hwl]; omega)
                rw [hwl] at this
                rw [hval]
                exact this
              obtain ⟨A, hA⟩ : ∃ A, arg xs W = A := ⟨_, rfl⟩
              rw [hA] at hval hlong hbad hdig ⊢
              unfold longB at hlong
              rw [← hval] at hlt
              rw [← hdig]
              rcases hWc with rfl | rfl | rfl | rfl
              · obtain rfl := hIW.1 rfl
                rw [if_neg (by decide)] at hlong
                have h24 : 24 ≤ A := by
                  by_cases h7 : M = 7
                  · have : ¬ A < 32 := fun h => hbad ⟨h7, rfl, h⟩
                    omega
                  · rw [if_neg h7, if_pos rfl] at hlong
                    simpa using hlong
                unfold putR
                rw [if_neg (by omega), if_neg (by
                  rintro ⟨h7, h | h⟩
                  · exact hbad ⟨h7, rfl, h⟩
                  · omega), if_pos (by omega)]
                show [(M : Int) * 32 + 24, (A : Int)] = c :: [(A : Int) % 256]
                rw [hcI, show (A : Int) % 256 = A by omega, Int.mul_comm]
                rfl
              · obtain rfl := hIW.2.1 rfl
                have h7 : M ≠ 7 := fun h => hn ⟨h, by decide⟩
                rw [if_neg (by decide), if_neg h7, if_neg (by decide)] at hlong
                have hA2 : ¬ A / 2 ^ (4 * 2) = 0 := by simpa using hlong
                unfold putR
                rw [if_neg (by omega), if_neg (by omega), if_neg (by omega), if_pos (by omega), hcI, Int.mul_comm]
                rfl
              · obtain rfl := hIW.2.2.1 rfl
                have h7 : M ≠ 7 := fun h => hn ⟨h, by decide⟩
                rw [if_neg (by decide), if_neg h7, if_neg (by decide)] at hlong
                have hA2 : ¬ A / 2 ^ (4 * 4) = 0 := by simpa using hlong
                unfold putR
                rw [if_neg (by omega), if_neg (by omega), if_neg (by omega), if_neg (by omega), if_pos (by omega), hcI, Int.mul_comm]
                rfl
              · obtain rfl := hIW.2.2.2 rfl
                have h7 : M ≠ 7 := fun h => hn ⟨h, by decide⟩
                rw [if_neg (by decide), if_neg h7, if_neg (by decide)] at hlong
                have hA2 : ¬ A / 2 ^ (4 * 8) = 0 := by simpa using hlong
                unfold putR
                rw [if_neg (by omega), if_neg (by omega), if_neg (by omega), if_neg (by omega), if_neg (by omega), hcI, Int.mul_comm]
                rfl
theorem firstH_bad {xs : List Int} (h : (readR xs).f ≠ 0) : firstH xs = ⟨0, 0, 0, 0, (readR xs).at_, (readR xs).f⟩ := by unfold firstH; rw [if_neg h]
theorem firstH_good {xs : List Int} (h : (readR xs).f = 0) : firstH xs = ⟨(readR xs).M, (readR xs).W, (readR xs).A, 0, (readR xs).many, 0⟩ := by unfold firstH; rw [if_pos h]
theorem rd_take {k : IntKind} {w : World} {Ad : Option Addr} {xs : List Int} (h : RdI k w Ad xs) (n : Nat) : RdI k w Ad (xs.take n) := by
  intro i hi
  rw [List.length_take] at hi
  obtain ⟨ad, rfl, hb, hc⟩ := h i (by omega)
  refine ⟨ad, rfl, hb, ?_⟩
  rw [hc]
  simp only [List.getD_eq_getElem?_getD, List.getElem?_take]
  rw [if_pos (by omega)]
theorem put_is (M A : Nat) (ys : List Int) (w : World) (hp : putR M A = ys) (hM : M < 8) (hA : A < 2 ^ 64) : Calls Tryd.prog 18 #[.int .i64 M, .int .u64 A] w (RowTo w ys) := by
  subst hp
  exact put_calls (M : Int) M A (by omega) hA w
theorem put_at (k : Int) (M A : Nat) (ys : List Int) (w : World) (hp : putR M A = ys) (hk : k = (M : Int)) (hM : M < 8) (hA : A < 2 ^ 64) : Calls Tryd.prog 18 #[.int .i64 k, .int .u64 A] w (RowTo w ys) := by
  subst hp
  subst hk
  exact put_calls (M : Int) M A (by omega) hA w
theorem same_is (A B : Option Addr) (n m c d : Nat) (xs : List Int) (w : World) (hn : xs.length = n) (hm : xs.length = m) (hx : RdI .u8 w A xs) (hy : RdI .u8 w B xs) (bx : Bytes xs) :
    Calls Tryd.prog 17 #[.slice A n c, .slice B m d] w fun e w' => e = .returned (.bool true) ∧ w = w' := same_eq A B n m c d xs xs w rfl hn hm hx hy bx
set_option maxHeartbeats 2000000 in
theorem first_law_calls (A : Option Addr) (n cap : Nat) (xs : List Int) (w : World) (hd : Dbl w) (hn : xs.length = n) (hr : RdI .u8 w A xs) (hb : Bytes xs) (hl : n ≤ 140737488351232) (hcap : n ≤ cap) :
    Calls Tryd.prog 4 #[.slice A n cap] w fun e w' => e = .returned (.bool true) ∧ Fr (fun _ => False) w w' := by
  have HD := hid hd
  have HN := hid hn
  have HR := hid hr
  have HB := hid hb
  clear hd hn hr hb
  go_enter Tryd.func4, Tryd.ntmps4
  go_wp2_with fail
  refine (HeadN.awake_calls w HD.out).mono ?_
  rintro e w1 ⟨rfl, hf⟩
  have HF := hid hf
  clear hf
  by_cases h100 : 100 < n
  · go_wp2_with fail
    go_ret
    exact ⟨rfl, HF.out⟩
  · go_wp2_with fail
    refine (first_calls A n cap xs w1 (HD.out.fr0 HF.out) HN.out (HR.out.fr0 HF.out) HB.out (by omega)).mono ?_
    rintro e w2 ⟨rfl, hf⟩
    have HF2 := hid (HF.out.then_ hf (fun _ _ h => h))
    clear hf
    obtain ⟨r, hr⟩ : ∃ r, readR xs = r := ⟨_, rfl⟩
    obtain ⟨q, hq⟩ : ∃ q, firstH xs = q := ⟨_, rfl⟩
    have HRE := hid hr
    have HQE := hid hq
    rw [hq]
    clear hr hq
    go_wp2_with fail
    have HH := hid (Blk.new w2 29 #[.int .i64 q.M, .int .i64 q.W, .int .u64 q.A])
    have HF3 := hid (HF2.out.alloc (.cells #[.int .i64 q.M, .int .i64 q.W, .int .u64 q.A] 29))
    refine (read_calls A n cap xs _ (HD.out.fr0 HF3.out) HN.out (HR.out.fr0 HF3.out) HB.out (by omega)).mono ?_
    rintro e w4 ⟨rfl, hf⟩
    have HF4 := hid (HF3.out.then_ hf (fun _ _ h => h))
    have HH4 := hid (Blk.fr HH.out hf id)
    rw [HRE.out]
    clear hf HH
    obtain ⟨c0, c1, c2, _⟩ := cells3 HH4.out
    unfold rdV
    by_cases hf0 : r.f = 0
    · have hq := firstH_good (xs := xs) (by rw [HRE.out]; exact hf0)
      rw [HQE.out, HRE.out] at hq
      subst hq
      have HF0 := hid hf0
      have hfI : ((r.f : Nat) : Int) = 0 := by omega
      rw [hfI]
      clear hf0 hfI
      by_cases h7 : r.M = 7 ∧ 1 < r.W
      · obtain ⟨h7a, h7b⟩ := h7
        have e7 : ((r.M : Int) == 7) = true := beq_iff_eq.2 (by omega)
        have e1 : decide ((r.W : Int) > 1) = true := decide_eq_true (by omega)
        have e2 : decide (1 < (r.W : Int)) = true := decide_eq_true (by omega)
        clear h7a h7b
        go_wp2_with fail
        go_quiet (fail)
        go_wp2_with fail
        go_ret
        exact ⟨rfl, HF4.out.drewN _⟩
      · obtain ⟨hp, hm, hM8, hA64⟩ := put_read xs HB.out (by rw [HRE.out]; exact HF0.out) (by rw [HRE.out]; exact h7)
        rw [HRE.out] at hp hm hM8 hA64
        obtain ⟨ys, hys⟩ : ∃ ys, xs.take r.many = ys := ⟨_, rfl⟩
        have HYS := hid hys
        rw [hys] at hp
        have HP := hid hp
        have hm1 : (r.many : Int) ≤ (cap : Int) := by rw [HN.out] at hm; omega
        have hm2 : (0 : Int) ≤ (r.many : Int) := by omega
        have hmn : r.many ≤ n := by rw [HN.out] at hm; exact hm
        have HTL := hid (show ys.length = r.many by rw [← hys, List.length_take]; omega)
        have HTB := hid (show Bytes ys by rw [← hys]; exact fun c hc => HB.out c (List.mem_of_mem_take hc))
        have HA64 := hid hA64
        have HM8 := hid hM8
        clear hp hm hA64 hM8 hys
        by_cases hM : r.M = 7
        · have e7 : ((r.M : Int) == 7) = true := beq_iff_eq.2 (by omega)
          have e1 : decide ((r.W : Int) > 1) = false := decide_eq_false (by omega)
          have e2 : decide (1 < (r.W : Int)) = false := decide_eq_false (by omega)
          clear hM h7
          go_wp2_with fail
          go_region_held3 (fun w' => True) (trivial) (first
            | ((go_at_call 18; (with_reducible refine (put_is r.M r.A ys w4.drew HP.out HM8.out HA64.out).mono ?_); rintro e w6 ⟨v6, rfl, ho, hf⟩; obtain ⟨A6, c6, rfl, _, _⟩ := ho.form; have HO6 := hid ho; have HF6 := hid (HF4.out.drew.then_ hf (fun _ _ h => h)); have HRT := hid (show RdI .u8 w6 A ys by rw [← HYS.out]; exact rd_take (HR.out.fr0 HF6.out) r.many); clear ho hf))
            | ((go_at_call 17; (with_reducible refine (same_is A6 A ys.length r.many c6 cap ys w6 rfl HTL.out HO6.out.rd.1 HRT.out HTB.out).mono ?_); rintro e w7 ⟨rfl, rfl⟩)))
          all_goals
            go_wp2_with fail
            go_ret
            exact ⟨rfl, HF6.out⟩
        · obtain ⟨m, hm⟩ : ∃ m, r.M = m := ⟨_, rfl⟩
          rw [hm] at HP HM8 hM c0 ⊢
          have hm7 : m = 0 ∨ m = 1 ∨ m = 2 ∨ m = 3 ∨ m = 4 ∨ m = 5 ∨ m = 6 := by have := HM8.out; omega
          clear hM h7 hm
          rcases hm7 with rfl | rfl | rfl | rfl | rfl | rfl | rfl
          all_goals
            go_wp2_with fail
            first
            | (go_region_held (fun w' => True) (trivial) (first
              | ((go_at_call 18; (with_reducible refine (put_at _ _ r.A ys w4.drew HP.out (by decide) HM8.out HA64.out).mono ?_); rintro e w6 ⟨v6, rfl, ho, hf⟩; obtain ⟨A6, c6, rfl, _, _⟩ := ho.form; have HO6 := hid ho; have HF6 := hid (HF4.out.drew.then_ hf (fun _ _ h => h)); have HRT := hid (show RdI .u8 w6 A ys by rw [← HYS.out]; exact rd_take (HR.out.fr0 HF6.out) r.many); clear ho hf))
              | ((go_at_call 17; (with_reducible refine (same_is A6 A ys.length r.many c6 cap ys w6 rfl HTL.out HO6.out.rd.1 HRT.out HTB.out).mono ?_); rintro e w7 ⟨rfl, rfl⟩))))
            | fail "held"
            all_goals
              go_wp2_with fail
              go_ret
              exact ⟨rfl, HF6.out⟩
    · have hq := firstH_bad (xs := xs) (by rw [HRE.out]; exact hf0)
      rw [HQE.out, HRE.out] at hq
      subst hq
      have e0 : (((r.f : Nat) : Int) != 0) = true := by rw [bne_iff_ne]; omega
      have e1 : (((r.f : Nat) : Int) == 0) = false := by rw [beq_eq_false_iff_ne]; omega
      clear hf0
      go_wp2_with fail
      go_ret
      exact ⟨rfl, HF4.out⟩
theorem first_law (A : Option Addr) (c : Nat) (xs : List Int) (W : World) (hc : xs.length ≤ c) (hl : xs.length * 1 ≤ 140737488351232) (hr : RdI .u8 W A xs) (hb : ∀ n ∈ xs, (Lit.int .u8 n).wf = true) (hL : laidMetH Tryd.prog Rows.headFirstRow.laid W) :
    Calls Tryd.prog 4 #[.slice A xs.length c] W fun e W' => e = .returned (.bool true) ∧ Below W.heap.size W W' := by
  refine (first_law_calls A _ c xs W (Dbl.dbl hL) rfl hr (fun n hn => ?_) (by omega) hc).mono ?_
  · have := hb n hn
    simp [Lit.wf, IntKind.min, IntKind.max, IntKind.bits, IntKind.signed] at this
    omega
  · rintro e w' ⟨he, hf⟩
    exact ⟨he, hf.toBelow (fun _ _ h => h)⟩
end Go.Proofs.YtgdhchknegjpfaaDoor.HeadH
