/- Layer hex: both laws, walked. -/
import Derived.Test.YtgdhchknegjpfaaDoorHexF
set_option linter.unusedVariables false
set_option linter.unusedSimpArgs false
namespace Go.Proofs.YtgdhchknegjpfaaDoor.HexG
open Go.IntWalk Go.RowKit Go.Proofs.YtgdhchknegjpfaaDoor.Mem Go.Proofs.YtgdhchknegjpfaaDoor.Num Go.Proofs.YtgdhchknegjpfaaDoor.BitsA Go.Proofs.YtgdhchknegjpfaaDoor.Txt Go.Proofs.YtgdhchknegjpfaaDoor.HexA Go.Proofs.YtgdhchknegjpfaaDoor.HexC Go.Proofs.YtgdhchknegjpfaaDoor.HexD Go.Proofs.YtgdhchknegjpfaaDoor.HexF Go.Proofs.YtgdhchknegjpfaaDoor.App Go.Proofs.YtgdhchknegjpfaaDoor.Itoa Go.Proofs.YtgdhchknegjpfaaDoor.Same

theorem take_length : ∀ (l : List Int) (xs : List Int), takeP l = some xs → xs.length * 2 = l.length
  | [], xs, h => by
    have : xs = [] := by simpa [takeP] using h.symm
    subst this; rfl
  | [_], xs, h => by simp [takeP] at h
  | a :: b :: l, xs, h => by
    rw [takeP] at h
    split at h
    · cases h
    · obtain ⟨ys, hy, rfl⟩ := Option.map_eq_some_iff.1 h
      have := take_length l ys hy
      simp; omega
set_option maxRecDepth 20000 in
set_option maxHeartbeats 2000000 in
theorem puts_calls (A : Option Addr) (n c : Nat) (m : Int) (xs : List Int) (w : World) (hT : Tab w) (hn : xs.length = n) (hc : n ≤ c) (hm : n ≤ maxLen) (hr : RdI .u8 w A xs) (hb : Bytes xs) :
    Calls Tryd.prog 6 #[.slice A n c, .int .i64 m] w fun e w' => e = .returned (.bool true) ∧ Fr (fun _ => False) w w' := by
  unfold maxLen at hm
  have HT := hid hT
  have HN := hid hn
  have HR := hid hr
  have HB := hid hb
  clear hT hn hr hb
  by_cases hbig : 1000 < n
  · go_enter Tryd.func6, Tryd.ntmps6
    go_wp2_with fail
    refine (awake_calls w HT.out).mono ?_
    rintro e w1 ⟨rfl, hf⟩
    have HF := hid hf
    clear hf
    go_wp2_with fail
    go_ret
    exact ⟨rfl, HF.out⟩
  · have hm2 : n ≤ 1000 := by omega
    go_enter Tryd.func6, Tryd.ntmps6
    go_wp2_with fail
    refine (awake_calls w HT.out).mono ?_
    rintro e w1 ⟨rfl, hf⟩
    have HF1 := hid hf
    clear hf
    go_wp2_with fail
    refine (HexB.put_calls A n c xs w1 HN.out (HR.out.fr0 HF1.out) HB.out (by omega)).mono ?_
    rintro e w2 ⟨rfl, hf⟩
    have HF2 := hid (HF1.out.then_ hf (fun _ _ h => h))
    clear hf
    go_wp2_with fail
    refine (HexE.take_calls (txt (hexL xs)) w2 (by rw [txt_size, hexL_length, HN.out]; omega)).mono ?_
    rintro e w3 ⟨v, rfl, ho, hf⟩
    rw [byt_txt, show List.map (fun b : UInt8 => (b.toNat : Int)) (hexL xs) = nums (hexL xs) from rfl, takeP_nums xs HB.out] at ho ⊢
    obtain ⟨A3, c3, rfl, hc3, _⟩ := ho.form
    simp only [Option.getD_some, Option.isSome_some] at ho ⊢
    have HO := hid ho
    have HF3 := hid (HF2.out.then_ hf (fun _ _ h => h))
    rw [HN.out] at HO ⊢
    clear ho hf hc3
    go_wp2_with fail
    refine (HexB.put_calls A n c xs w3 HN.out (HR.out.fr0 HF3.out) HB.out (by omega)).mono ?_
    rintro e w4 ⟨rfl, hf⟩
    have HF4 := hid (HF3.out.then_ hf (fun _ _ h => h))
    have HO4 := hid (HO.out.fr hf (fun _ _ h => h))
    clear hf
    go_wp2_with fail
    refine (refput_calls A n c xs w4 HN.out (HR.out.fr0 HF4.out) HB.out (by omega)).mono ?_
    rintro e w5 ⟨rfl, hf⟩
    have HF5 := hid (HF4.out.then_ hf (fun _ _ h => h))
    have HO5 := hid (HO4.out.fr hf (fun _ _ h => h))
    clear hf
    go_wp2_with fail
    refine (show_calls A n c m xs w5 (HT.out.fr0 HF5.out) HN.out hc (HR.out.fr0 HF5.out) HB.out (by omega)).mono ?_
    rintro e w6 ⟨rfl, hf⟩
    have HF6 := hid (HF5.out.then_ hf (fun _ _ h => h))
    have HO6 := hid (HO5.out.fr hf (fun _ _ h => h))
    clear hf
    go_wp2_with fail
    refine (refshow_calls A n c m xs w6 HN.out hc (HR.out.fr0 HF6.out) HB.out (by omega)).mono ?_
    rintro e w7 ⟨rfl, hf⟩
    have HF7 := hid (HF6.out.then_ hf (fun _ _ h => h))
    have HO7 := hid (HO6.out.fr hf (fun _ _ h => h))
    clear hf
    go_wp2_with fail
    refine (same_calls A3 A n n c3 c xs xs w7 HN.out HN.out HO7.out.rd.1 (HR.out.fr0 HF7.out) HB.out HB.out).mono ?_
    rintro e w8 ⟨rfl, rfl⟩
    go_wp2_with fail
    go_ret
    exact ⟨ret_bool (by simp), HF7.out⟩
theorem takeP_bytes : ∀ (l : List Int) (xs : List Int), takeP l = some xs → Bytes xs
  | [], xs, h => by
    have : xs = [] := by simpa [takeP] using h.symm
    subst this; exact fun c hc => by simp at hc
  | [_], xs, h => by simp [takeP] at h
  | a :: b :: l, xs, h => by
    rw [takeP] at h
    split at h
    · cases h
    · obtain ⟨ys, hy, rfl⟩ := Option.map_eq_some_iff.1 h
      have ba := hv_bd a
      have bb := hv_bd b
      intro c hc
      rcases List.mem_cons.1 hc with rfl | hc
      · omega
      · exact takeP_bytes l ys hy c hc
set_option maxRecDepth 20000 in
set_option maxHeartbeats 2000000 in
theorem takes_calls (s : ByteArray) (w : World) (hT : Tab w) (hs : s.size ≤ maxLen) :
    Calls Tryd.prog 7 #[.string s] w fun e w' => e = .returned (.bool true) ∧ Fr (fun _ => False) w w' := by
  unfold maxLen at hs
  have HT := hid hT
  clear hT
  by_cases hbig : 1000 < s.size
  · go_enter Tryd.func7, Tryd.ntmps7
    go_wp2_with fail
    refine (awake_calls w HT.out).mono ?_
    rintro e w1 ⟨rfl, hf⟩
    have HF := hid hf
    clear hf
    go_wp2_with fail
    go_ret
    exact ⟨rfl, HF.out⟩
  · have hm2 : s.size ≤ 1000 := by omega
    obtain ⟨o, ho⟩ : ∃ o, takeP (byt s) = o := ⟨_, rfl⟩
    have HX := hid ho
    go_enter Tryd.func7, Tryd.ntmps7
    go_wp2_with fail
    refine (awake_calls w HT.out).mono ?_
    rintro e w1 ⟨rfl, hf⟩
    have HF1 := hid hf
    clear hf
    go_wp2_with fail
    refine (HexE.take_calls s w1 (by omega)).mono ?_
    rintro e w2 ⟨v, rfl, hov, hf⟩
    rw [ho] at hov ⊢
    have HF2 := hid (HF1.out.then_ hf (fun _ _ h => h))
    obtain ⟨A2, c2, rfl, _, _⟩ := hov.form
    have HO2 := hid hov
    clear hf hov ho
    cases o with
    | none =>
      simp only [Option.getD_none, Option.isSome_none, List.length_nil] at HO2 ⊢
      go_wp2_with fail
      refine (reftake_calls s w2 (by omega)).mono ?_
      rintro e w3 ⟨v3, rfl, hov, hf⟩
      rw [HX.out] at hov ⊢
      obtain ⟨A3, c3, rfl, _, _⟩ := hov.form
      simp only [Option.getD_none, Option.isSome_none, List.length_nil] at hov ⊢
      have HF3 := hid (HF2.out.then_ hf (fun _ _ h => h))
      have HO3 := hid (HO2.out.fr hf (fun _ _ h => h))
      have HO4 := hid hov
      clear hf hov
      go_wp2_with fail
      refine (same_eq A2 A3 0 0 c2 c3 [] [] w3 rfl rfl rfl HO3.out.rd.1 HO4.out.rd.1 (fun c hc => by simp at hc)).mono ?_
      rintro e w5 ⟨rfl, rfl⟩
      go_wp2_with fail
      go_ret
      exact ⟨rfl, HF3.out⟩
    | some xs =>
      have HB := hid (takeP_bytes _ _ HX.out)
      have HL := hid (take_length _ _ HX.out)
      have hxl : xs.length ≤ 1000 := by have := HL.out; rw [byt_length] at this; omega
      have HS := hid (show txt (hexL xs) = s by
        have h := HX.out
        rw [show byt s = nums s.data.toList from rfl] at h
        rw [(takeP_back _ _ h).1, txt_of])
      simp only [Option.getD_some, Option.isSome_some] at HO2 ⊢
      obtain ⟨L, hL⟩ : ∃ L, xs.length = L := ⟨_, rfl⟩
      have HLL := hid hL
      rw [hL] at HO2 hxl ⊢
      clear hL
      go_wp2_with fail
      refine (reftake_calls s w2 (by omega)).mono ?_
      rintro e w3 ⟨v3, rfl, hov, hf⟩
      rw [HX.out] at hov ⊢
      obtain ⟨A3, c3, rfl, _, _⟩ := hov.form
      simp only [Option.getD_some, Option.isSome_some] at hov ⊢
      rw [HLL.out] at hov ⊢
      have HF3 := hid (HF2.out.then_ hf (fun _ _ h => h))
      have HO3 := hid (HO2.out.fr hf (fun _ _ h => h))
      have HO4 := hid hov
      clear hf hov
      go_wp2_with fail
      refine (same_eq A2 A3 L L c2 c3 xs xs w3 rfl HLL.out HLL.out HO3.out.rd.1 HO4.out.rd.1 HB.out).mono ?_
      rintro e w5 ⟨rfl, rfl⟩
      go_wp2_with fail
      refine (HexB.put_calls A2 L c2 xs w3 HLL.out HO3.out.rd.1 HB.out (by omega)).mono ?_
      rintro e w6 ⟨rfl, hf⟩
      have HF6 := hid (HF3.out.then_ hf (fun _ _ h => h))
      rw [HS.out]
      clear hf
      go_wp2_with fail
      go_ret
      exact ⟨ret_bool (by simp), HF6.out⟩
end Go.Proofs.YtgdhchknegjpfaaDoor.HexG
