/- UtfJoins: the law's walk. -/
import Derived.Test.YtcbogkpgkdijaaaUtfD
namespace Go.Proofs.Ytcbogkpgkdijaaa.UtfJoins
open Go.RowKit Go.Proofs.Ytcbogkpgkdijaaa.Mem Go.Proofs.Ytcbogkpgkdijaaa.UtfP Go.Proofs.Ytcbogkpgkdijaaa.UtfA Go.Proofs.Ytcbogkpgkdijaaa.UtfB Go.Proofs.Ytcbogkpgkdijaaa.UtfC Go.Proofs.Ytcbogkpgkdijaaa.UtfD

theorem byt_append (a b : ByteArray) : byt (a ++ b) = byt a ++ byt b := by simp [byt, ByteArray.data_append]

theorem valid_append {a : ByteArray} (b : ByteArray) (h : validS a = true) : validS (a ++ b) = validS b := by
  unfold validS at *
  rw [byt_append, run_append]
  exact done_clean (clean_of_done h) zero_clean _
theorem first_neg {a : ByteArray} (h : validS a = true) : firstS a < 0 := by
  have hb := (clean_of_done h).2
  have h1 := mt (fb_prefix St.zero rfl (byt a) 0 (byt a).length (Nat.le_refl _)).2 (by rw [List.take_length, hb]; simp)
  have h2 := fb_range St.zero (byt a) 0
  unfold firstS
  omega
theorem first_append {a : ByteArray} (b : ByteArray) (h : ¬ firstS a < 0) : firstS (a ++ b) = firstS a ∧ validS (a ++ b) = false ∧ validS a = false := by
  unfold firstS at *
  have hne : fb St.zero (byt a) 0 ≠ -1 := by omega
  have e : fb St.zero (byt a ++ byt b) 0 = fb St.zero (byt a) 0 := by rw [fb_append, if_neg hne]
  have r := (fb_range St.zero (byt a) 0).resolve_left hne
  have hb : (run St.zero (byt a)).bad = true := by
    have := (fb_prefix St.zero rfl (byt a) 0 (byt a).length (Nat.le_refl _)).2 ⟨by omega, by omega⟩
    rwa [List.take_length] at this
  refine ⟨by rw [byt_append, e], ?_, done_bad hb⟩
  unfold validS
  rw [byt_append, run_append, run_bad hb]
  exact done_bad hb

theorem valid_is (s : ByteArray) (v : Bool) (w0 w : World) (hs : s.size ≤ 140737488355328) (h : Hid (validS s = v)) (H : Hid (Fr (fun _ => False) w0 w)) :
    Calls Try.prog 37 #[.string s] w fun e w' => e = .returned (.bool v) ∧ Hid (Fr (fun _ => False) w0 w') :=
  (valid_calls s w hs).mono fun _ _ ⟨he, hf⟩ => ⟨by rw [he, h.out], hid (H.out.then_ hf (fun _ _ h => h))⟩
theorem first_is (s : ByteArray) (v : Int) (w0 w : World) (hs : s.size ≤ 140737488355328) (h : Hid (firstS s = v)) (H : Hid (Fr (fun _ => False) w0 w)) :
    Calls Try.prog 36 #[.string s] w fun e w' => e = .returned (.int .i64 v) ∧ Hid (Fr (fun _ => False) w0 w') :=
  (first_calls s w hs).mono fun _ _ ⟨he, hf⟩ => ⟨by rw [he, h.out], hid (H.out.then_ hf (fun _ _ h => h))⟩

set_option maxRecDepth 100000 in
set_option maxHeartbeats 4000000 in
theorem law (a b : ByteArray) (w : World) (ha : a.size ≤ 140737488351232) (hb : b.size ≤ 140737488351232) :
    Calls Try.prog 8 #[.string a, .string b] w fun e w' => e = .returned (.bool true) ∧ Below w.heap.size w w' := by
  suffices h : Calls Try.prog 8 #[.string a, .string b] w fun e w' => e = .returned (.bool true) ∧ Hid (Fr (fun _ => False) w w') from
    h.mono fun _ _ ⟨he, h⟩ => ⟨he, h.out.toBelow (fun _ _ h => h)⟩
  by_cases hl : 500 < a.size ∨ 500 < b.size
  · by_cases hla : 500 < a.size
    · clear hl
      go_enter Try.func8, Try.ntmps8
      go_wp2_with ((with_reducible refine (awake_calls _).mono ?_); rintro e w1 ⟨rfl, h1⟩; have HF := hid h1; clear h1)
      go_ret
      exact ⟨rfl, HF⟩
    · have hlb : 500 < b.size := by omega
      clear hl
      go_enter Try.func8, Try.ntmps8
      go_wp2_with ((with_reducible refine (awake_calls _).mono ?_); rintro e w1 ⟨rfl, h1⟩; have HF := hid h1; clear h1)
      go_ret
      exact ⟨rfl, HF⟩
  · have hla : ¬ 500 < a.size := by omega
    have hlb : ¬ 500 < b.size := by omega
    have hab : (a ++ b).size ≤ 140737488355328 := by rw [ByteArray.size_append]; omega
    have HLAB := hid hab
    clear hl hab
    have hla' : a.size ≤ 140737488355328 := by omega
    have hlb' : b.size ≤ 140737488355328 := by omega
    by_cases hv : validS a = true
    · have hf := first_neg hv
      have hva := valid_append b hv
      obtain ⟨vb, hvb⟩ : ∃ v, validS b = v := ⟨_, rfl⟩
      rw [hvb] at hva
      obtain ⟨fa, hfa⟩ : ∃ v, firstS a = v := ⟨_, rfl⟩
      rw [hfa] at hf
      have HA := hid hv
      have HB := hid hvb
      have HAB := hid hva
      have HFA := hid hfa
      clear hv hva hvb hfa
      cases vb
      all_goals
        go_enter Try.func8, Try.ntmps8
        go_wp2_with (first
          | ((with_reducible refine (awake_calls _).mono ?_); rintro e w1 ⟨rfl, h1⟩; have HF := hid h1; clear h1)
          | ((with_reducible refine (valid_is a _ _ _ hla' HA HF).mono ?_); rintro e w2 ⟨rfl, h1⟩; clear HF; have HF := h1; clear h1)
          | ((with_reducible refine (valid_is b _ _ _ hlb' HB HF).mono ?_); rintro e w2 ⟨rfl, h1⟩; clear HF; have HF := h1; clear h1)
          | ((with_reducible refine (valid_is (a ++ b) _ _ _ HLAB.out HAB HF).mono ?_); rintro e w2 ⟨rfl, h1⟩; clear HF; have HF := h1; clear h1)
          | ((with_reducible refine (first_is a _ _ _ hla' HFA HF).mono ?_); rintro e w2 ⟨rfl, h1⟩; clear HF; have HF := h1; clear h1)
          | ((with_reducible refine (reset_nil _).mono ?_); rintro e w2 ⟨rfl, rfl⟩)
          | ((with_reducible refine (step_nil _ _).mono ?_); rintro e w2 ⟨rfl, rfl⟩)
          | ((with_reducible refine (done_nil _).mono ?_); rintro e w2 ⟨rfl, rfl⟩))
        go_ret
        exact ⟨rfl, HF⟩
    · have hv : validS a = false := by simpa using hv
      obtain ⟨fa, hfa⟩ : ∃ v, firstS a = v := ⟨_, rfl⟩
      by_cases hf : fa < 0
      · have HA := hid hv
        have HFA := hid hfa
        clear hv hfa
        go_enter Try.func8, Try.ntmps8
        go_wp2_with (first
          | ((with_reducible refine (awake_calls _).mono ?_); rintro e w1 ⟨rfl, h1⟩; have HF := hid h1; clear h1)
          | ((with_reducible refine (valid_is a _ _ _ hla' HA HF).mono ?_); rintro e w2 ⟨rfl, h1⟩; clear HF; have HF := h1; clear h1)
          | ((with_reducible refine (first_is a _ _ _ hla' HFA HF).mono ?_); rintro e w2 ⟨rfl, h1⟩; clear HF; have HF := h1; clear h1)
          | ((with_reducible refine (reset_nil _).mono ?_); rintro e w2 ⟨rfl, rfl⟩)
          | ((with_reducible refine (step_nil _ _).mono ?_); rintro e w2 ⟨rfl, rfl⟩)
          | ((with_reducible refine (done_nil _).mono ?_); rintro e w2 ⟨rfl, rfl⟩))
        go_ret
        exact ⟨rfl, HF⟩
      · obtain ⟨h1, h2, _⟩ := first_append b (a := a) (by rw [hfa]; exact hf)
        rw [hfa] at h1
        have HA := hid hv
        have HAB := hid h2
        have HFA := hid hfa
        have HFAB := hid h1
        clear hv hfa h1 h2
        go_enter Try.func8, Try.ntmps8
        go_wp2_with (first
          | ((with_reducible refine (awake_calls _).mono ?_); rintro e w1 ⟨rfl, h1⟩; have HF := hid h1; clear h1)
          | ((with_reducible refine (valid_is a _ _ _ hla' HA HF).mono ?_); rintro e w2 ⟨rfl, h1⟩; clear HF; have HF := h1; clear h1)
          | ((with_reducible refine (first_is (a ++ b) _ _ _ HLAB.out HFAB HF).mono ?_); rintro e w2 ⟨rfl, h1⟩; clear HF; have HF := h1; clear h1)
          | ((with_reducible refine (valid_is (a ++ b) _ _ _ HLAB.out HAB HF).mono ?_); rintro e w2 ⟨rfl, h1⟩; clear HF; have HF := h1; clear h1)
          | ((with_reducible refine (first_is a _ _ _ hla' HFA HF).mono ?_); rintro e w2 ⟨rfl, h1⟩; clear HF; have HF := h1; clear h1)
          | ((with_reducible refine (reset_nil _).mono ?_); rintro e w2 ⟨rfl, rfl⟩)
          | ((with_reducible refine (step_nil _ _).mono ?_); rintro e w2 ⟨rfl, rfl⟩)
          | ((with_reducible refine (done_nil _).mono ?_); rintro e w2 ⟨rfl, rfl⟩))
        go_ret
        exact ⟨rfl, HF⟩

end Go.Proofs.Ytcbogkpgkdijaaa.UtfJoins
