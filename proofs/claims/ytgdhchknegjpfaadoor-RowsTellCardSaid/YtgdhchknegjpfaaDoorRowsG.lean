/- Layer rows: the example, and the law of names. -/
import Derived.Test.YtgdhchknegjpfaaDoorRowsF
import Derived.Test.YtgdhchknegjpfaaDoorRowsB
set_option linter.unusedVariables false
set_option linter.unusedSimpArgs false
namespace Go.Proofs.YtgdhchknegjpfaaDoor.RowsG
open Go.IntWalk Go.RowKit Go.Proofs.YtgdhchknegjpfaaDoor.Mem Go.Proofs.YtgdhchknegjpfaaDoor.Txt Go.Proofs.YtgdhchknegjpfaaDoor.Itoa Go.Proofs.YtgdhchknegjpfaaDoor.BitsA Go.Proofs.YtgdhchknegjpfaaDoor.HexA Go.Proofs.YtgdhchknegjpfaaDoor.RowsA Go.Proofs.YtgdhchknegjpfaaDoor.RowsB Go.Proofs.YtgdhchknegjpfaaDoor.RowsC Go.Proofs.YtgdhchknegjpfaaDoor.RowsE Go.Proofs.YtgdhchknegjpfaaDoor.RowsF

theorem itoa_digit (n : Nat) (h : n < 10) : Lib.itoa (n : Int) = [UInt8.ofNat (48 + n)] := by
  unfold Lib.itoa
  rw [if_neg (by omega), Dec.dec_eq, if_pos (by omega)]
  simp
theorem row_ex : rowL 6 5 [1, 0] 9 [] [] = [114, 101, 106, 101, 99, 116, 32, 117, 116, 102, 56, 32, 97, 116, 32, 53, 32, 105, 110, 32, 47, 49, 47, 48, 32, 57] := by
  have h5 := itoa_digit 5 (by decide)
  have h1 := itoa_digit 1 (by decide)
  have h0 := itoa_digit 0 (by decide)
  have h9 : Lib.decDigits 9 = [57] := by rw [Dec.dec_eq]; rfl
  have hw : wayL [1, 0] = [47, 49, 47, 48] := by
    rw [wayL, if_neg (by simp)]
    have e : steps [1, 0] = (47 :: Lib.itoa 1) ++ (47 :: Lib.itoa 0) ++ [] := by simp [steps]
    rw [e, show Lib.itoa 1 = [49] from h1, show Lib.itoa 0 = [48] from h0]
    rfl
  rw [rowL, preL, if_neg (by decide), hw, h9, show Lib.itoa 5 = [53] from h5]
  rfl
set_option maxRecDepth 20000 in
set_option maxHeartbeats 2000000 in
theorem awake_calls (w : World) (hT : Tab w) (hN : NamesAt w) :
    Calls Tryd.prog 29 #[] w fun e w' => e = .returned (.bool true) ∧ Fr (fun _ => False) w w' := by
  have HT := hid hT
  have HN := hid hN
  have HV := hid (show VecI .i64 3 (w.alloc (.cells #[.int .i64 1, .int .i64 0] 3)) w.heap.size [1, 0] from Blk.new w _ _)
  have HF0 := hid ((Fr.refl (fun _ => False) w).alloc (.cells #[.int .i64 1, .int .i64 0] 3))
  have HX := hid row_ex
  clear hT hN
  go_enter Tryd.func29, Tryd.ntmps29
  go_wp2_with fail
  have hr := row_calls 6 5 (some ⟨w.heap.size, 0, none⟩) none none 2 2 0 0 0 0 9 [1, 0] [] [] (w.alloc (.cells #[.int .i64 1, .int .i64 0] 3)) (HT.out.fr0 HF0.out) (HN.out.fr0 HF0.out) (by decide) (by decide) (by decide) (by decide) (by decide) rfl HV.out.rd (by intro c hc; simp at hc; omega) (by decide) rfl (fun i hi => by simp at hi) (fun c hc => by simp at hc) (by decide) rfl (fun i hi => by simp at hi) (fun c hc => by simp at hc) (by decide)
  rw [HX.out] at hr
  refine hr.mono ?_
  rintro e w1 ⟨rfl, hf⟩
  have HF := hid (HF0.out.then_ hf (fun _ _ h => h))
  clear hf hr
  go_wp2_with fail
  go_ret
  exact ⟨ret_bool (by rw [txt_toList]; rfl), HF.out⟩
theorem names_same (a b : Int) : ((txt (nameL a)).toList == (txt (nameL b)).toList) = (a == b) := by
  rw [txt_toList, txt_toList]
  by_cases h : a = b
  · subst h; simp
  · rw [beq_eq_false_iff_ne.2 h, beq_eq_false_iff_ne]
    exact fun e => h (name_inj e)
theorem name_high {a : Int} (h : ¬ (0 ≤ a ∧ a ≤ 9)) (k : Nat) (hk : k < 10) : txt (nameL a) ≠ txt (names.getD k []) := by
  intro e
  have e := txt_inj e
  rw [nameL, if_neg h] at e
  exact names_err k hk _ e.symm
/-- The second reading: the name of a. -/
def Low (a : Int) : Prop := 0 ≤ a ∧ a ≤ 9
theorem renamed (a : Int) (w : World) (hN : NamesAt w) :
    Calls Tryd.prog 36 #[.string (txt (nameL a))] w fun r w' => r = .returned (.tuple #[.int .i64 (if 0 ≤ a ∧ a ≤ 9 then a else 0), .bool (decide (0 ≤ a ∧ a ≤ 9))]) ∧ w = w' := by
  by_cases h : 0 ≤ a ∧ a ≤ 9
  · obtain ⟨n, rfl⟩ : ∃ n : Nat, a = n := ⟨a.toNat, by omega⟩
    rw [if_pos h, decide_eq_true h]
    exact named_hit n (by omega) _ (by rw [name_low n (by omega)]) w hN
  · rw [if_neg h, decide_eq_false h]
    exact named_miss _ (fun k hk => name_high h k hk) w hN
set_option maxRecDepth 20000 in
set_option maxHeartbeats 4000000 in
theorem names_calls (s : ByteArray) (a b : Int) (w : World) (hT : Tab w) (hN : NamesAt w) (ha0 : -9223372036854775808 ≤ a) (ha1 : a ≤ 9223372036854775807) (hb0 : -9223372036854775808 ≤ b) (hb1 : b ≤ 9223372036854775807) (hs : s.size ≤ 140737488351232) :
    Calls Tryd.prog 9 #[.string s, .int .i64 a, .int .i64 b] w fun e w' => e = .returned (.bool true) ∧ Fr (fun _ => False) w w' := by
  have HT := hid hT
  have HN := hid hN
  clear hT hN
  by_cases hbig : 100 < s.size
  · go_enter Tryd.func9, Tryd.ntmps9
    go_wp2_with fail
    refine (awake_calls w HT.out HN.out).mono ?_
    rintro e w1 ⟨rfl, hf⟩
    have HF := hid hf
    clear hf
    go_wp2_with fail
    go_ret
    exact ⟨rfl, HF.out⟩
  · have hm2 : s.size ≤ 100 := by omega
    obtain ⟨e, ok, HS, HE0, HE1⟩ : ∃ (e : Int) (ok : Bool), Hid (∀ w, NamesAt w → Calls Tryd.prog 36 #[.string s] w fun r w' => r = .returned (.tuple #[.int .i64 e, .bool ok]) ∧ w = w') ∧ Hid (0 ≤ e ∧ e ≤ 9) ∧ Hid ((ok = true ∧ txt (nameL e) = s) ∨ (ok = false ∧ e = 0)) := by
      by_cases h : ∃ k, k < 10 ∧ s = txt (names.getD k [])
      · obtain ⟨k, hk, hsk⟩ := h
        exact ⟨k, true, hid (fun w hN => named_hit k hk s hsk w hN), hid (by omega), hid (.inl ⟨rfl, by rw [name_low k hk, hsk]⟩)⟩
      · exact ⟨0, false, hid (fun w hN => named_miss s (fun k hk e => h ⟨k, hk, e⟩) w hN), hid (by omega), hid (.inr ⟨rfl, rfl⟩)⟩
    obtain ⟨x, hx⟩ : ∃ x, (if 0 ≤ a ∧ a ≤ 9 then a else 0) = x := ⟨_, rfl⟩
    obtain ⟨low, hlow⟩ : ∃ low, decide (0 ≤ a ∧ a ≤ 9) = low := ⟨_, rfl⟩
    have HX := hid hx
    have HLOW := hid hlow
    have HQ := hid (names_same a b)
    clear hx hlow
    go_enter Tryd.func9, Tryd.ntmps9
    go_wp2_with fail
    refine (awake_calls w HT.out HN.out).mono ?_
    rintro r w1 ⟨rfl, hf⟩
    have HF1 := hid hf
    clear hf
    go_wp2_with fail
    refine (HS.out w1 (HN.out.fr0 HF1.out)).mono ?_
    rintro r w2 ⟨rfl, rfl⟩
    go_wp2_with fail
    refine (name_calls a w1 ha0 ha1 (HT.out.fr0 HF1.out) (HN.out.fr0 HF1.out)).mono ?_
    rintro r w2 ⟨rfl, hf⟩
    have HF2 := hid (HF1.out.then_ hf (fun _ _ h => h))
    clear hf
    go_wp2_with fail
    refine (renamed a w2 (HN.out.fr0 HF2.out)).mono ?_
    rintro r w3 ⟨rfl, rfl⟩
    rw [HX.out, HLOW.out]
    by_cases hlo : 0 ≤ a ∧ a ≤ 9
    · have hl : low = true := by rw [← HLOW.out]; exact decide_eq_true hlo
      have hxa : x = a := by rw [← HX.out, if_pos hlo]
      have g1 := hlo.1
      have g2 := hlo.2
      subst hl
      rw [hxa]
      clear HX hxa
      clear hlo
      rcases HE1.out with ⟨hok, hsx⟩ | ⟨hok, he0⟩
      · subst hok
        have HSX := hid hsx
        clear hsx
        go_wp2_with fail
        refine (name_calls e _ (by have := HE0.out; omega) (by have := HE0.out; omega) (HT.out.fr0 HF2.out) (HN.out.fr0 HF2.out)).mono ?_
        rintro r w4 ⟨rfl, hf⟩
        have HFL := hid (HF2.out.then_ hf (fun _ _ h => h))
        clear hf
        rw [HSX.out]
        go_wp2_with fail
        refine (name_calls a _ ha0 ha1 (HT.out.fr0 HFL.out) (HN.out.fr0 HFL.out)).mono ?_
        rintro r w5 ⟨rfl, hf⟩
        have HF5 := hid (HFL.out.then_ hf (fun _ _ h => h))
        clear hf
        go_wp2_with fail
        refine (name_calls b w5 hb0 hb1 (HT.out.fr0 HF5.out) (HN.out.fr0 HF5.out)).mono ?_
        rintro r w6 ⟨rfl, hf⟩
        have HF6 := hid (HF5.out.then_ hf (fun _ _ h => h))
        clear hf
        go_wp2_with fail
        go_ret
        exact ⟨ret_bool (by rw [HQ.out]; simp), HF6.out⟩
      · subst hok
        subst he0
        have HFL := HF2
        go_wp2_with fail
        refine (name_calls a _ ha0 ha1 (HT.out.fr0 HFL.out) (HN.out.fr0 HFL.out)).mono ?_
        rintro r w5 ⟨rfl, hf⟩
        have HF5 := hid (HFL.out.then_ hf (fun _ _ h => h))
        clear hf
        go_wp2_with fail
        refine (name_calls b w5 hb0 hb1 (HT.out.fr0 HF5.out) (HN.out.fr0 HF5.out)).mono ?_
        rintro r w6 ⟨rfl, hf⟩
        have HF6 := hid (HF5.out.then_ hf (fun _ _ h => h))
        clear hf
        go_wp2_with fail
        go_ret
        exact ⟨ret_bool (by rw [HQ.out]; simp), HF6.out⟩
    · have hl : low = false := by rw [← HLOW.out]; exact decide_eq_false hlo
      have hx0 : x = 0 := by rw [← HX.out, if_neg hlo]
      subst hl
      rw [hx0]
      clear HX hx0
      rcases (show a < 0 ∨ (0 ≤ a ∧ 9 < a) by omega) with g1 | ⟨g1, g2⟩
      · clear hlo
        rcases HE1.out with ⟨hok, hsx⟩ | ⟨hok, he0⟩
        · subst hok
          have HSX := hid hsx
          clear hsx
          go_wp2_with fail
          refine (name_calls e _ (by have := HE0.out; omega) (by have := HE0.out; omega) (HT.out.fr0 HF2.out) (HN.out.fr0 HF2.out)).mono ?_
          rintro r w4 ⟨rfl, hf⟩
          have HFL := hid (HF2.out.then_ hf (fun _ _ h => h))
          clear hf
          rw [HSX.out]
          go_wp2_with fail
          refine (name_calls a _ ha0 ha1 (HT.out.fr0 HFL.out) (HN.out.fr0 HFL.out)).mono ?_
          rintro r w5 ⟨rfl, hf⟩
          have HF5 := hid (HFL.out.then_ hf (fun _ _ h => h))
          clear hf
          go_wp2_with fail
          refine (name_calls b w5 hb0 hb1 (HT.out.fr0 HF5.out) (HN.out.fr0 HF5.out)).mono ?_
          rintro r w6 ⟨rfl, hf⟩
          have HF6 := hid (HF5.out.then_ hf (fun _ _ h => h))
          clear hf
          go_wp2_with fail
          go_ret
          exact ⟨ret_bool (by rw [HQ.out]; simp), HF6.out⟩
        · subst hok
          subst he0
          have HFL := HF2
          go_wp2_with fail
          refine (name_calls a _ ha0 ha1 (HT.out.fr0 HFL.out) (HN.out.fr0 HFL.out)).mono ?_
          rintro r w5 ⟨rfl, hf⟩
          have HF5 := hid (HFL.out.then_ hf (fun _ _ h => h))
          clear hf
          go_wp2_with fail
          refine (name_calls b w5 hb0 hb1 (HT.out.fr0 HF5.out) (HN.out.fr0 HF5.out)).mono ?_
          rintro r w6 ⟨rfl, hf⟩
          have HF6 := hid (HF5.out.then_ hf (fun _ _ h => h))
          clear hf
          go_wp2_with fail
          go_ret
          exact ⟨ret_bool (by rw [HQ.out]; simp), HF6.out⟩
      · clear hlo
        have g3 : ¬ a ≤ 9 := by omega
        rcases HE1.out with ⟨hok, hsx⟩ | ⟨hok, he0⟩
        · subst hok
          have HSX := hid hsx
          clear hsx
          go_wp2_with fail
          refine (name_calls e _ (by have := HE0.out; omega) (by have := HE0.out; omega) (HT.out.fr0 HF2.out) (HN.out.fr0 HF2.out)).mono ?_
          rintro r w4 ⟨rfl, hf⟩
          have HFL := hid (HF2.out.then_ hf (fun _ _ h => h))
          clear hf
          rw [HSX.out]
          go_wp2_with fail
          refine (name_calls a _ ha0 ha1 (HT.out.fr0 HFL.out) (HN.out.fr0 HFL.out)).mono ?_
          rintro r w5 ⟨rfl, hf⟩
          have HF5 := hid (HFL.out.then_ hf (fun _ _ h => h))
          clear hf
          go_wp2_with fail
          refine (name_calls b w5 hb0 hb1 (HT.out.fr0 HF5.out) (HN.out.fr0 HF5.out)).mono ?_
          rintro r w6 ⟨rfl, hf⟩
          have HF6 := hid (HF5.out.then_ hf (fun _ _ h => h))
          clear hf
          go_wp2_with fail
          go_ret
          exact ⟨ret_bool (by rw [HQ.out]; simp), HF6.out⟩
        · subst hok
          subst he0
          have HFL := HF2
          go_wp2_with fail
          refine (name_calls a _ ha0 ha1 (HT.out.fr0 HFL.out) (HN.out.fr0 HFL.out)).mono ?_
          rintro r w5 ⟨rfl, hf⟩
          have HF5 := hid (HFL.out.then_ hf (fun _ _ h => h))
          clear hf
          go_wp2_with fail
          refine (name_calls b w5 hb0 hb1 (HT.out.fr0 HF5.out) (HN.out.fr0 HF5.out)).mono ?_
          rintro r w6 ⟨rfl, hf⟩
          have HF6 := hid (HF5.out.then_ hf (fun _ _ h => h))
          clear hf
          go_wp2_with fail
          go_ret
          exact ⟨ret_bool (by rw [HQ.out]; simp), HF6.out⟩
end Go.Proofs.YtgdhchknegjpfaaDoor.RowsG
