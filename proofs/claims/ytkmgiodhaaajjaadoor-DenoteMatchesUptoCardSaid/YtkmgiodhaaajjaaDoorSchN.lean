/- Layer schema: the document's word: has a node just the fields of its kind? -/
import Derived.Test.YtkmgiodhaaajjaaDoorSchGJ
import Derived.Test.YtkmgiodhaaajjaaDoorSchL
import Derived.Test.YtkmgiodhaaajjaaDoorItemW
set_option linter.unusedVariables false
set_option linter.unusedSimpArgs false
namespace Go.Proofs.YtkmgiodhaaajjaaDoor.SchN
open Go.IntWalk Go.RowKit Go.Proofs.YtkmgiodhaaajjaaDoor.Mem Go.Proofs.YtkmgiodhaaajjaaDoor.App Go.Proofs.YtkmgiodhaaajjaaDoor.FloatB Go.Proofs.YtkmgiodhaaajjaaDoor.ItemP Go.Proofs.YtkmgiodhaaajjaaDoor.ItemM Go.Proofs.YtkmgiodhaaajjaaDoor.ItemW Go.Proofs.YtkmgiodhaaajjaaDoor.SchP Go.Proofs.YtkmgiodhaaajjaaDoor.SchM Go.Proofs.YtkmgiodhaaajjaaDoor.SchA Go.Proofs.YtkmgiodhaaajjaaDoor.SchC Go.Proofs.YtkmgiodhaaajjaaDoor.SchF Go.Proofs.YtkmgiodhaaajjaaDoor.SchG Go.Proofs.YtkmgiodhaaajjaaDoor.SchK

theorem fr_2 (w : World) (a b : Obj) : Fr (fun _ => False) w ((w.alloc a).alloc b) := ((Fr.refl _ w).alloc _).alloc _
theorem form_kinds (x : It) (h : x.form = true) : x.k = 0 ∨ x.k = 1 ∨ x.k = 2 ∨ x.k = 3 ∨ x.k = 4 ∨ x.k = 5 ∨ x.k = 6 ∨ x.k = 7 ∨ x.k = 8 := by
  obtain ⟨k, n, s, l⟩ := x
  show k = 0 ∨ k = 1 ∨ k = 2 ∨ k = 3 ∨ k = 4 ∨ k = 5 ∨ k = 6 ∨ k = 7 ∨ k = 8
  unfold It.form at h
  by_cases h0 : k = 0 ∨ k = 1 ∨ k = 7 ∨ k = 8
  · omega
  by_cases h2 : k = 2 ∨ k = 3
  · omega
  by_cases h4 : k = 4
  · omega
  by_cases h5 : k = 5
  · omega
  by_cases h6 : k = 6
  · omega
  simp [h0, h2, h4, h5, h6] at h
theorem check_kinds (x : It) (h : x.check = 0) : x.k = 0 ∨ x.k = 1 ∨ x.k = 2 ∨ x.k = 3 ∨ x.k = 4 ∨ x.k = 5 ∨ x.k = 6 ∨ x.k = 7 ∨ x.k = 8 := by
  apply form_kinds
  by_cases hd : 64 < x.depth
  · rw [It.check, if_pos hd] at h
    omega
  · rw [It.check, if_neg hd] at h
    obtain ⟨r, hr⟩ : ∃ r, x.all 1 = (x, 1) :: r := by
      obtain ⟨k, n, s, l⟩ := x
      exact ⟨_, by rw [It.all]⟩
    rw [hr, firstW] at h
    by_cases hw : x.wrong = 0
    · cases hf : x.form
      · rw [It.wrong, if_pos hf] at hw
        omega
      · rfl
    · rw [if_pos hw] at h
      exact absurd h hw

set_option maxRecDepth 100000 in
set_option maxHeartbeats 4000000 in
theorem form_k8 (k lo hi : Int) (v : It) (l : List Int) (f : List Fld) (hk : k = 8) (h : Nat) (Av Al Af : Option Addr) (cv cl cf : Nat) (w : World) (H : NdR w h ⟨k, lo, hi, v, l, f⟩ Av cv Al cl Af cf) :
    Calls Tryd.prog 105 #[.agg (ndC ⟨k, lo, hi, v, l, f⟩ Av cv Al cl Af cf)] w fun e w' => e = .returned (.bool (⟨k, lo, hi, v, l, f⟩ : Nod).formB) ∧ Fr (fun _ => False) w w' := by
  have HR := hid H
  have HDN := hid (ndC_eq ⟨k, lo, hi, v, l, f⟩ Av cv Al cl Af cf)
  rw [ndC_eq]
  simp only at HDN ⊢
  obtain ⟨x3, hx3⟩ : ∃ x, v.k = x := ⟨_, rfl⟩
  obtain ⟨x4, hx4⟩ : ∃ x, v.n = x := ⟨_, rfl⟩
  obtain ⟨x5, hx5⟩ : ∃ x, v.s = x := ⟨_, rfl⟩
  obtain ⟨x6, hx6⟩ : ∃ x, v.l.length = x := ⟨_, rfl⟩
  obtain ⟨x7, hx7⟩ : ∃ x, l.length = x := ⟨_, rfl⟩
  obtain ⟨x8, hx8⟩ : ∃ x, f.length = x := ⟨_, rfl⟩
  have HX3 := hid hx3
  have HX4 := hid hx4
  have HX5 := hid hx5
  have HX6 := hid hx6
  have HX7 := hid hx7
  have HX8 := hid hx8
  rw [hx3, hx4, hx5, hx6, hx7, hx8] at HDN ⊢
  clear hx3 hx4 hx5 hx6 hx7 hx8 H
  obtain ⟨b0, hb0⟩ : ∃ b, ((x7 : Int) == 0) = b := ⟨_, rfl⟩
  have HB0 := hid (show decide (l.length = 0) = b0 by rw [HX7.out, ← hb0, Bool.eq_iff_iff]; simp)
  have HBARE := hid (show (⟨k, lo, hi, v, l, f⟩ : Nod).bare = ⟨8, 0, 0, noIt, [], f⟩ by subst hk; simp [Nod.bare])
  have HOK := hid (show (⟨k, lo, hi, v, l, f⟩ : Nod).ok = b0 by subst hk; rw [← HB0.out]; simp [Nod.ok])
  subst hk
  have HDM := hid (show ndC ⟨8, 0, 0, noIt, [], f⟩ none 0 none 0 Af cf = #[.int .i64 8, .int .i64 0, .int .i64 0, .int .i64 0, .int .u64 0, .string { data := #[] }, .slice none 0 0, .slice none 0 0, .slice Af x8 cf] by
    rw [ndC_eq]
    simp only [HX3.out, HX4.out, HX5.out, HX6.out, HX7.out, HX8.out, noIt, It.k, It.n, It.s, It.l, List.length_nil]
    rfl)
  cases b0 with
  | false =>
    go_enter Tryd.func105, Tryd.ntmps105
    go_wp2_with fail
    go_ret
    refine ⟨ret_bool ?_, by first | exact fr_2 _ _ _ | exact (fr_2 _ _ _).drew⟩
    rw [Nod.formB, HOK.out]
    rfl
  | true =>
    go_enter Tryd.func105, Tryd.ntmps105
    go_wp2_with fail
    rw [← HDM.out, ← HDN.out]
    refine (rsame_calls ⟨8, 0, 0, noIt, [], f⟩ ⟨8, lo, hi, v, l, f⟩ h h none none Af Av Al Af 0 0 cf cv cl cf _ (by first | exact (NdR.sub HR.out ⟨8, 0, 0, noIt, [], f⟩ rfl (.inr rfl) (.inr rfl) (.inr ⟨rfl, rfl, rfl⟩) (.inr ⟨rfl, rfl, rfl⟩) (.inl ⟨rfl, rfl, rfl⟩)).fr0 (fr_2 _ _ _) | exact (NdR.sub HR.out ⟨8, 0, 0, noIt, [], f⟩ rfl (.inr rfl) (.inr rfl) (.inr ⟨rfl, rfl, rfl⟩) (.inr ⟨rfl, rfl, rfl⟩) (.inl ⟨rfl, rfl, rfl⟩)).fr0 (fr_2 _ _ _).drew) (by first | exact HR.out.fr0 (fr_2 _ _ _) | exact HR.out.fr0 (fr_2 _ _ _).drew)).mono ?_
    rintro e w9 ⟨rfl, hf⟩
    have HF9 := hid (show Fr (fun _ => False) w w9 by first | exact (fr_2 _ _ _).then_ hf (fun _ _ h => h) | exact (fr_2 _ _ _).drew.then_ hf (fun _ _ h => h))
    obtain ⟨bq, hbq⟩ : ∃ b, decide ((⟨8, 0, 0, noIt, [], f⟩ : Nod) = ⟨8, lo, hi, v, l, f⟩) = b := ⟨_, rfl⟩
    have HBQ := hid hbq
    rw [hbq]
    clear hf hbq
    go_wp2_with fail
    go_ret
    refine ⟨ret_bool ?_, HF9.out⟩
    rw [Nod.formB, HBARE.out, HOK.out, HBQ.out]
    rfl

set_option maxRecDepth 100000 in
set_option maxHeartbeats 4000000 in
theorem form_k7 (k lo hi : Int) (v : It) (l : List Int) (f : List Fld) (hk : k = 7) (h : Nat) (Av Al Af : Option Addr) (cv cl cf : Nat) (w : World) (H : NdR w h ⟨k, lo, hi, v, l, f⟩ Av cv Al cl Af cf) :
    Calls Tryd.prog 105 #[.agg (ndC ⟨k, lo, hi, v, l, f⟩ Av cv Al cl Af cf)] w fun e w' => e = .returned (.bool (⟨k, lo, hi, v, l, f⟩ : Nod).formB) ∧ Fr (fun _ => False) w w' := by
  have HR := hid H
  have HDN := hid (ndC_eq ⟨k, lo, hi, v, l, f⟩ Av cv Al cl Af cf)
  rw [ndC_eq]
  simp only at HDN ⊢
  obtain ⟨x3, hx3⟩ : ∃ x, v.k = x := ⟨_, rfl⟩
  obtain ⟨x4, hx4⟩ : ∃ x, v.n = x := ⟨_, rfl⟩
  obtain ⟨x5, hx5⟩ : ∃ x, v.s = x := ⟨_, rfl⟩
  obtain ⟨x6, hx6⟩ : ∃ x, v.l.length = x := ⟨_, rfl⟩
  obtain ⟨x7, hx7⟩ : ∃ x, l.length = x := ⟨_, rfl⟩
  obtain ⟨x8, hx8⟩ : ∃ x, f.length = x := ⟨_, rfl⟩
  have HX3 := hid hx3
  have HX4 := hid hx4
  have HX5 := hid hx5
  have HX6 := hid hx6
  have HX7 := hid hx7
  have HX8 := hid hx8
  rw [hx3, hx4, hx5, hx6, hx7, hx8] at HDN ⊢
  clear hx3 hx4 hx5 hx6 hx7 hx8 H
  obtain ⟨b0, hb0⟩ : ∃ b, ((x7 : Int) == 0) = b := ⟨_, rfl⟩
  have HB0 := hid (show decide (l.length = 0) = b0 by rw [HX7.out, ← hb0, Bool.eq_iff_iff]; simp)
  have HBARE := hid (show (⟨k, lo, hi, v, l, f⟩ : Nod).bare = ⟨7, 0, 0, noIt, l, []⟩ by subst hk; simp [Nod.bare])
  have HOK := hid (show (⟨k, lo, hi, v, l, f⟩ : Nod).ok = true by subst hk; simp [Nod.ok])
  subst hk
  have HDM := hid (show ndC ⟨7, 0, 0, noIt, l, []⟩ none 0 Al cl none 0 = #[.int .i64 7, .int .i64 0, .int .i64 0, .int .i64 0, .int .u64 0, .string { data := #[] }, .slice none 0 0, .slice Al x7 cl, .slice none 0 0] by
    rw [ndC_eq]
    simp only [HX3.out, HX4.out, HX5.out, HX6.out, HX7.out, HX8.out, noIt, It.k, It.n, It.s, It.l, List.length_nil]
    rfl)
  go_enter Tryd.func105, Tryd.ntmps105
  go_wp2_with fail
  rw [← HDM.out, ← HDN.out]
  refine (rsame_calls ⟨7, 0, 0, noIt, l, []⟩ ⟨7, lo, hi, v, l, f⟩ h h none Al none Av Al Af 0 cl 0 cv cl cf _ (by first | exact (NdR.sub HR.out ⟨7, 0, 0, noIt, l, []⟩ rfl (.inr rfl) (.inr rfl) (.inr ⟨rfl, rfl, rfl⟩) (.inl ⟨rfl, rfl, rfl⟩) (.inr ⟨rfl, rfl, rfl⟩)).fr0 (fr_2 _ _ _) | exact (NdR.sub HR.out ⟨7, 0, 0, noIt, l, []⟩ rfl (.inr rfl) (.inr rfl) (.inr ⟨rfl, rfl, rfl⟩) (.inl ⟨rfl, rfl, rfl⟩) (.inr ⟨rfl, rfl, rfl⟩)).fr0 (fr_2 _ _ _).drew) (by first | exact HR.out.fr0 (fr_2 _ _ _) | exact HR.out.fr0 (fr_2 _ _ _).drew)).mono ?_
  rintro e w9 ⟨rfl, hf⟩
  have HF9 := hid (show Fr (fun _ => False) w w9 by first | exact (fr_2 _ _ _).then_ hf (fun _ _ h => h) | exact (fr_2 _ _ _).drew.then_ hf (fun _ _ h => h))
  obtain ⟨bq, hbq⟩ : ∃ b, decide ((⟨7, 0, 0, noIt, l, []⟩ : Nod) = ⟨7, lo, hi, v, l, f⟩) = b := ⟨_, rfl⟩
  have HBQ := hid hbq
  rw [hbq]
  clear hf hbq
  go_wp2_with fail
  go_ret
  refine ⟨ret_bool ?_, HF9.out⟩
  rw [Nod.formB, HBARE.out, HOK.out, HBQ.out]
  rfl

set_option maxRecDepth 100000 in
set_option maxHeartbeats 4000000 in
theorem form_k10 (k lo hi : Int) (v : It) (l : List Int) (f : List Fld) (hk : k = 10) (h : Nat) (Av Al Af : Option Addr) (cv cl cf : Nat) (w : World) (H : NdR w h ⟨k, lo, hi, v, l, f⟩ Av cv Al cl Af cf) :
    Calls Tryd.prog 105 #[.agg (ndC ⟨k, lo, hi, v, l, f⟩ Av cv Al cl Af cf)] w fun e w' => e = .returned (.bool (⟨k, lo, hi, v, l, f⟩ : Nod).formB) ∧ Fr (fun _ => False) w w' := by
  have HR := hid H
  have HDN := hid (ndC_eq ⟨k, lo, hi, v, l, f⟩ Av cv Al cl Af cf)
  rw [ndC_eq]
  simp only at HDN ⊢
  obtain ⟨x3, hx3⟩ : ∃ x, v.k = x := ⟨_, rfl⟩
  obtain ⟨x4, hx4⟩ : ∃ x, v.n = x := ⟨_, rfl⟩
  obtain ⟨x5, hx5⟩ : ∃ x, v.s = x := ⟨_, rfl⟩
  obtain ⟨x6, hx6⟩ : ∃ x, v.l.length = x := ⟨_, rfl⟩
  obtain ⟨x7, hx7⟩ : ∃ x, l.length = x := ⟨_, rfl⟩
  obtain ⟨x8, hx8⟩ : ∃ x, f.length = x := ⟨_, rfl⟩
  have HX3 := hid hx3
  have HX4 := hid hx4
  have HX5 := hid hx5
  have HX6 := hid hx6
  have HX7 := hid hx7
  have HX8 := hid hx8
  rw [hx3, hx4, hx5, hx6, hx7, hx8] at HDN ⊢
  clear hx3 hx4 hx5 hx6 hx7 hx8 H
  obtain ⟨b0, hb0⟩ : ∃ b, ((x7 : Int) == 0) = b := ⟨_, rfl⟩
  have HB0 := hid (show decide (l.length = 0) = b0 by rw [HX7.out, ← hb0, Bool.eq_iff_iff]; simp)
  obtain ⟨b1, hb1⟩ : ∃ b, decide (1 ≤ x7) = b := ⟨_, rfl⟩
  have HB1' := hid (show decide (0 < l.length) = b1 by rw [HX7.out, ← hb1]; rfl)
  have hb2 : decide ((1 : Int) ≤ (x7 : Int)) = b1 := by rw [← hb1, Bool.eq_iff_iff]; simp <;> omega
  have hb3 : decide (0 < x7) = b1 := by rw [← hb1]; rfl
  have HBARE := hid (show (⟨k, lo, hi, v, l, f⟩ : Nod).bare = ⟨10, 0, 0, noIt, l, []⟩ by subst hk; simp [Nod.bare])
  have HOK := hid (show (⟨k, lo, hi, v, l, f⟩ : Nod).ok = b1 by subst hk; rw [← HB1'.out]; simp [Nod.ok])
  subst hk
  have HDM := hid (show ndC ⟨10, 0, 0, noIt, l, []⟩ none 0 Al cl none 0 = #[.int .i64 10, .int .i64 0, .int .i64 0, .int .i64 0, .int .u64 0, .string { data := #[] }, .slice none 0 0, .slice Al x7 cl, .slice none 0 0] by
    rw [ndC_eq]
    simp only [HX3.out, HX4.out, HX5.out, HX6.out, HX7.out, HX8.out, noIt, It.k, It.n, It.s, It.l, List.length_nil]
    rfl)
  cases b1 with
  | false =>
    go_enter Tryd.func105, Tryd.ntmps105
    go_wp2_with fail
    go_ret
    refine ⟨ret_bool ?_, by first | exact fr_2 _ _ _ | exact (fr_2 _ _ _).drew⟩
    rw [Nod.formB, HOK.out]
    rfl
  | true =>
    go_enter Tryd.func105, Tryd.ntmps105
    go_wp2_with fail
    rw [← HDM.out, ← HDN.out]
    refine (rsame_calls ⟨10, 0, 0, noIt, l, []⟩ ⟨10, lo, hi, v, l, f⟩ h h none Al none Av Al Af 0 cl 0 cv cl cf _ (by first | exact (NdR.sub HR.out ⟨10, 0, 0, noIt, l, []⟩ rfl (.inr rfl) (.inr rfl) (.inr ⟨rfl, rfl, rfl⟩) (.inl ⟨rfl, rfl, rfl⟩) (.inr ⟨rfl, rfl, rfl⟩)).fr0 (fr_2 _ _ _) | exact (NdR.sub HR.out ⟨10, 0, 0, noIt, l, []⟩ rfl (.inr rfl) (.inr rfl) (.inr ⟨rfl, rfl, rfl⟩) (.inl ⟨rfl, rfl, rfl⟩) (.inr ⟨rfl, rfl, rfl⟩)).fr0 (fr_2 _ _ _).drew) (by first | exact HR.out.fr0 (fr_2 _ _ _) | exact HR.out.fr0 (fr_2 _ _ _).drew)).mono ?_
    rintro e w9 ⟨rfl, hf⟩
    have HF9 := hid (show Fr (fun _ => False) w w9 by first | exact (fr_2 _ _ _).then_ hf (fun _ _ h => h) | exact (fr_2 _ _ _).drew.then_ hf (fun _ _ h => h))
    obtain ⟨bq, hbq⟩ : ∃ b, decide ((⟨10, 0, 0, noIt, l, []⟩ : Nod) = ⟨10, lo, hi, v, l, f⟩) = b := ⟨_, rfl⟩
    have HBQ := hid hbq
    rw [hbq]
    clear hf hbq
    go_wp2_with fail
    go_ret
    refine ⟨ret_bool ?_, HF9.out⟩
    rw [Nod.formB, HBARE.out, HOK.out, HBQ.out]
    rfl

set_option maxRecDepth 100000 in
set_option maxHeartbeats 4000000 in
theorem form_k9 (k lo hi : Int) (v : It) (l : List Int) (f : List Fld) (hk : k = 9) (h : Nat) (Av Al Af : Option Addr) (cv cl cf : Nat) (w : World) (H : NdR w h ⟨k, lo, hi, v, l, f⟩ Av cv Al cl Af cf) :
    Calls Tryd.prog 105 #[.agg (ndC ⟨k, lo, hi, v, l, f⟩ Av cv Al cl Af cf)] w fun e w' => e = .returned (.bool (⟨k, lo, hi, v, l, f⟩ : Nod).formB) ∧ Fr (fun _ => False) w w' := by
  have HR := hid H
  have HDN := hid (ndC_eq ⟨k, lo, hi, v, l, f⟩ Av cv Al cl Af cf)
  rw [ndC_eq]
  simp only at HDN ⊢
  obtain ⟨x3, hx3⟩ : ∃ x, v.k = x := ⟨_, rfl⟩
  obtain ⟨x4, hx4⟩ : ∃ x, v.n = x := ⟨_, rfl⟩
  obtain ⟨x5, hx5⟩ : ∃ x, v.s = x := ⟨_, rfl⟩
  obtain ⟨x6, hx6⟩ : ∃ x, v.l.length = x := ⟨_, rfl⟩
  obtain ⟨x7, hx7⟩ : ∃ x, l.length = x := ⟨_, rfl⟩
  obtain ⟨x8, hx8⟩ : ∃ x, f.length = x := ⟨_, rfl⟩
  have HX3 := hid hx3
  have HX4 := hid hx4
  have HX5 := hid hx5
  have HX6 := hid hx6
  have HX7 := hid hx7
  have HX8 := hid hx8
  rw [hx3, hx4, hx5, hx6, hx7, hx8] at HDN ⊢
  clear hx3 hx4 hx5 hx6 hx7 hx8 H
  obtain ⟨b0, hb0⟩ : ∃ b, ((x7 : Int) == 0) = b := ⟨_, rfl⟩
  have HB0 := hid (show decide (l.length = 0) = b0 by rw [HX7.out, ← hb0, Bool.eq_iff_iff]; simp)
  obtain ⟨b1, hb1⟩ : ∃ b, ((x7 : Int) == 1) = b := ⟨_, rfl⟩
  have HB1' := hid (show decide (l.length = 1) = b1 by rw [HX7.out, ← hb1, Bool.eq_iff_iff]; simp <;> omega)
  have HBARE := hid (show (⟨k, lo, hi, v, l, f⟩ : Nod).bare = ⟨9, lo, 0, noIt, l, []⟩ by subst hk; simp [Nod.bare])
  have HOK := hid (show (⟨k, lo, hi, v, l, f⟩ : Nod).ok = b1 by subst hk; rw [← HB1'.out]; simp [Nod.ok])
  subst hk
  have HDM := hid (show ndC ⟨9, lo, 0, noIt, l, []⟩ none 0 Al cl none 0 = #[.int .i64 9, .int .i64 lo, .int .i64 0, .int .i64 0, .int .u64 0, .string { data := #[] }, .slice none 0 0, .slice Al x7 cl, .slice none 0 0] by
    rw [ndC_eq]
    simp only [HX3.out, HX4.out, HX5.out, HX6.out, HX7.out, HX8.out, noIt, It.k, It.n, It.s, It.l, List.length_nil]
    rfl)
  cases b1 with
  | false =>
    go_enter Tryd.func105, Tryd.ntmps105
    go_wp2_with fail
    go_ret
    refine ⟨ret_bool ?_, by first | exact fr_2 _ _ _ | exact (fr_2 _ _ _).drew⟩
    rw [Nod.formB, HOK.out]
    rfl
  | true =>
    go_enter Tryd.func105, Tryd.ntmps105
    go_wp2_with fail
    rw [← HDM.out, ← HDN.out]
    refine (rsame_calls ⟨9, lo, 0, noIt, l, []⟩ ⟨9, lo, hi, v, l, f⟩ h h none Al none Av Al Af 0 cl 0 cv cl cf _ (by first | exact (NdR.sub HR.out ⟨9, lo, 0, noIt, l, []⟩ rfl (.inl rfl) (.inr rfl) (.inr ⟨rfl, rfl, rfl⟩) (.inl ⟨rfl, rfl, rfl⟩) (.inr ⟨rfl, rfl, rfl⟩)).fr0 (fr_2 _ _ _) | exact (NdR.sub HR.out ⟨9, lo, 0, noIt, l, []⟩ rfl (.inl rfl) (.inr rfl) (.inr ⟨rfl, rfl, rfl⟩) (.inl ⟨rfl, rfl, rfl⟩) (.inr ⟨rfl, rfl, rfl⟩)).fr0 (fr_2 _ _ _).drew) (by first | exact HR.out.fr0 (fr_2 _ _ _) | exact HR.out.fr0 (fr_2 _ _ _).drew)).mono ?_
    rintro e w9 ⟨rfl, hf⟩
    have HF9 := hid (show Fr (fun _ => False) w w9 by first | exact (fr_2 _ _ _).then_ hf (fun _ _ h => h) | exact (fr_2 _ _ _).drew.then_ hf (fun _ _ h => h))
    obtain ⟨bq, hbq⟩ : ∃ b, decide ((⟨9, lo, 0, noIt, l, []⟩ : Nod) = ⟨9, lo, hi, v, l, f⟩) = b := ⟨_, rfl⟩
    have HBQ := hid hbq
    rw [hbq]
    clear hf hbq
    go_wp2_with fail
    go_ret
    refine ⟨ret_bool ?_, HF9.out⟩
    rw [Nod.formB, HBARE.out, HOK.out, HBQ.out]
    rfl

set_option maxRecDepth 100000 in
set_option maxHeartbeats 4000000 in
theorem form_k6 (k lo hi : Int) (v : It) (l : List Int) (f : List Fld) (hk : k = 6) (h : Nat) (Av Al Af : Option Addr) (cv cl cf : Nat) (w : World) (H : NdR w h ⟨k, lo, hi, v, l, f⟩ Av cv Al cl Af cf) :
    Calls Tryd.prog 105 #[.agg (ndC ⟨k, lo, hi, v, l, f⟩ Av cv Al cl Af cf)] w fun e w' => e = .returned (.bool (⟨k, lo, hi, v, l, f⟩ : Nod).formB) ∧ Fr (fun _ => False) w w' := by
  have HR := hid H
  have HDN := hid (ndC_eq ⟨k, lo, hi, v, l, f⟩ Av cv Al cl Af cf)
  rw [ndC_eq]
  simp only at HDN ⊢
  obtain ⟨x3, hx3⟩ : ∃ x, v.k = x := ⟨_, rfl⟩
  obtain ⟨x4, hx4⟩ : ∃ x, v.n = x := ⟨_, rfl⟩
  obtain ⟨x5, hx5⟩ : ∃ x, v.s = x := ⟨_, rfl⟩
  obtain ⟨x6, hx6⟩ : ∃ x, v.l.length = x := ⟨_, rfl⟩
  obtain ⟨x7, hx7⟩ : ∃ x, l.length = x := ⟨_, rfl⟩
  obtain ⟨x8, hx8⟩ : ∃ x, f.length = x := ⟨_, rfl⟩
  have HX3 := hid hx3
  have HX4 := hid hx4
  have HX5 := hid hx5
  have HX6 := hid hx6
  have HX7 := hid hx7
  have HX8 := hid hx8
  rw [hx3, hx4, hx5, hx6, hx7, hx8] at HDN ⊢
  clear hx3 hx4 hx5 hx6 hx7 hx8 H
  obtain ⟨b0, hb0⟩ : ∃ b, ((x7 : Int) == 0) = b := ⟨_, rfl⟩
  have HB0 := hid (show decide (l.length = 0) = b0 by rw [HX7.out, ← hb0, Bool.eq_iff_iff]; simp)
  obtain ⟨b1, hb1⟩ : ∃ b, ((x7 : Int) == 1) = b := ⟨_, rfl⟩
  have HB1' := hid (show decide (l.length = 1) = b1 by rw [HX7.out, ← hb1, Bool.eq_iff_iff]; simp <;> omega)
  have HBARE := hid (show (⟨k, lo, hi, v, l, f⟩ : Nod).bare = ⟨6, lo, hi, noIt, l, []⟩ by subst hk; simp [Nod.bare])
  have HOK := hid (show (⟨k, lo, hi, v, l, f⟩ : Nod).ok = b1 by subst hk; rw [← HB1'.out]; simp [Nod.ok])
  subst hk
  have HDM := hid (show ndC ⟨6, lo, hi, noIt, l, []⟩ none 0 Al cl none 0 = #[.int .i64 6, .int .i64 lo, .int .i64 hi, .int .i64 0, .int .u64 0, .string { data := #[] }, .slice none 0 0, .slice Al x7 cl, .slice none 0 0] by
    rw [ndC_eq]
    simp only [HX3.out, HX4.out, HX5.out, HX6.out, HX7.out, HX8.out, noIt, It.k, It.n, It.s, It.l, List.length_nil]
    rfl)
  cases b1 with
  | false =>
    go_enter Tryd.func105, Tryd.ntmps105
    go_wp2_with fail
    go_region
    all_goals
      go_wp2_with fail
      go_ret
      refine ⟨ret_bool ?_, by first | exact fr_2 _ _ _ | exact (fr_2 _ _ _).drew⟩
      rw [Nod.formB, HOK.out]
      rfl
  | true =>
    go_enter Tryd.func105, Tryd.ntmps105
    go_wp2_with fail
    go_region
    all_goals
      go_wp2_with fail
      rw [← HDM.out, ← HDN.out]
      refine (rsame_calls ⟨6, lo, hi, noIt, l, []⟩ ⟨6, lo, hi, v, l, f⟩ h h none Al none Av Al Af 0 cl 0 cv cl cf _ (by first | exact (NdR.sub HR.out ⟨6, lo, hi, noIt, l, []⟩ rfl (.inl rfl) (.inl rfl) (.inr ⟨rfl, rfl, rfl⟩) (.inl ⟨rfl, rfl, rfl⟩) (.inr ⟨rfl, rfl, rfl⟩)).fr0 (fr_2 _ _ _) | exact (NdR.sub HR.out ⟨6, lo, hi, noIt, l, []⟩ rfl (.inl rfl) (.inl rfl) (.inr ⟨rfl, rfl, rfl⟩) (.inl ⟨rfl, rfl, rfl⟩) (.inr ⟨rfl, rfl, rfl⟩)).fr0 (fr_2 _ _ _).drew) (by first | exact HR.out.fr0 (fr_2 _ _ _) | exact HR.out.fr0 (fr_2 _ _ _).drew)).mono ?_
      rintro e w9 ⟨rfl, hf⟩
      have HF9 := hid (show Fr (fun _ => False) w w9 by first | exact (fr_2 _ _ _).then_ hf (fun _ _ h => h) | exact (fr_2 _ _ _).drew.then_ hf (fun _ _ h => h))
      obtain ⟨bq, hbq⟩ : ∃ b, decide ((⟨6, lo, hi, noIt, l, []⟩ : Nod) = ⟨6, lo, hi, v, l, f⟩) = b := ⟨_, rfl⟩
      have HBQ := hid hbq
      rw [hbq]
      clear hf hbq
      go_wp2_with fail
      go_ret
      refine ⟨ret_bool ?_, HF9.out⟩
      rw [Nod.formB, HBARE.out, HOK.out, HBQ.out]
      rfl

set_option maxRecDepth 100000 in
set_option maxHeartbeats 4000000 in
theorem form_k1 (k lo hi : Int) (v : It) (l : List Int) (f : List Fld) (hk : k = 1) (h : Nat) (Av Al Af : Option Addr) (cv cl cf : Nat) (w : World) (H : NdR w h ⟨k, lo, hi, v, l, f⟩ Av cv Al cl Af cf) :
    Calls Tryd.prog 105 #[.agg (ndC ⟨k, lo, hi, v, l, f⟩ Av cv Al cl Af cf)] w fun e w' => e = .returned (.bool (⟨k, lo, hi, v, l, f⟩ : Nod).formB) ∧ Fr (fun _ => False) w w' := by
  have HR := hid H
  have HDN := hid (ndC_eq ⟨k, lo, hi, v, l, f⟩ Av cv Al cl Af cf)
  rw [ndC_eq]
  simp only at HDN ⊢
  obtain ⟨x3, hx3⟩ : ∃ x, v.k = x := ⟨_, rfl⟩
  obtain ⟨x4, hx4⟩ : ∃ x, v.n = x := ⟨_, rfl⟩
  obtain ⟨x5, hx5⟩ : ∃ x, v.s = x := ⟨_, rfl⟩
  obtain ⟨x6, hx6⟩ : ∃ x, v.l.length = x := ⟨_, rfl⟩
  obtain ⟨x7, hx7⟩ : ∃ x, l.length = x := ⟨_, rfl⟩
  obtain ⟨x8, hx8⟩ : ∃ x, f.length = x := ⟨_, rfl⟩
  have HX3 := hid hx3
  have HX4 := hid hx4
  have HX5 := hid hx5
  have HX6 := hid hx6
  have HX7 := hid hx7
  have HX8 := hid hx8
  rw [hx3, hx4, hx5, hx6, hx7, hx8] at HDN ⊢
  clear hx3 hx4 hx5 hx6 hx7 hx8 H
  obtain ⟨b0, hb0⟩ : ∃ b, ((x7 : Int) == 0) = b := ⟨_, rfl⟩
  have HB0 := hid (show decide (l.length = 0) = b0 by rw [HX7.out, ← hb0, Bool.eq_iff_iff]; simp)
  have HBARE := hid (show (⟨k, lo, hi, v, l, f⟩ : Nod).bare = ⟨1, lo, hi, noIt, [], []⟩ by subst hk; simp [Nod.bare])
  have HOK := hid (show (⟨k, lo, hi, v, l, f⟩ : Nod).ok = b0 by subst hk; rw [← HB0.out]; simp [Nod.ok])
  subst hk
  have HDM := hid (show ndC ⟨1, lo, hi, noIt, [], []⟩ none 0 none 0 none 0 = #[.int .i64 1, .int .i64 lo, .int .i64 hi, .int .i64 0, .int .u64 0, .string { data := #[] }, .slice none 0 0, .slice none 0 0, .slice none 0 0] by
    rw [ndC_eq]
    simp only [HX3.out, HX4.out, HX5.out, HX6.out, HX7.out, HX8.out, noIt, It.k, It.n, It.s, It.l, List.length_nil]
    rfl)
  cases b0 with
  | false =>
    go_enter Tryd.func105, Tryd.ntmps105
    go_wp2_with fail
    go_region
    all_goals
      go_wp2_with fail
      go_ret
      refine ⟨ret_bool ?_, by first | exact fr_2 _ _ _ | exact (fr_2 _ _ _).drew⟩
      rw [Nod.formB, HOK.out]
      rfl
  | true =>
    go_enter Tryd.func105, Tryd.ntmps105
    go_wp2_with fail
    go_region
    all_goals
      go_wp2_with fail
      rw [← HDM.out, ← HDN.out]
      refine (rsame_calls ⟨1, lo, hi, noIt, [], []⟩ ⟨1, lo, hi, v, l, f⟩ h h none none none Av Al Af 0 0 0 cv cl cf _ (by first | exact (NdR.sub HR.out ⟨1, lo, hi, noIt, [], []⟩ rfl (.inl rfl) (.inl rfl) (.inr ⟨rfl, rfl, rfl⟩) (.inr ⟨rfl, rfl, rfl⟩) (.inr ⟨rfl, rfl, rfl⟩)).fr0 (fr_2 _ _ _) | exact (NdR.sub HR.out ⟨1, lo, hi, noIt, [], []⟩ rfl (.inl rfl) (.inl rfl) (.inr ⟨rfl, rfl, rfl⟩) (.inr ⟨rfl, rfl, rfl⟩) (.inr ⟨rfl, rfl, rfl⟩)).fr0 (fr_2 _ _ _).drew) (by first | exact HR.out.fr0 (fr_2 _ _ _) | exact HR.out.fr0 (fr_2 _ _ _).drew)).mono ?_
      rintro e w9 ⟨rfl, hf⟩
      have HF9 := hid (show Fr (fun _ => False) w w9 by first | exact (fr_2 _ _ _).then_ hf (fun _ _ h => h) | exact (fr_2 _ _ _).drew.then_ hf (fun _ _ h => h))
      obtain ⟨bq, hbq⟩ : ∃ b, decide ((⟨1, lo, hi, noIt, [], []⟩ : Nod) = ⟨1, lo, hi, v, l, f⟩) = b := ⟨_, rfl⟩
      have HBQ := hid hbq
      rw [hbq]
      clear hf hbq
      go_wp2_with fail
      go_ret
      refine ⟨ret_bool ?_, HF9.out⟩
      rw [Nod.formB, HBARE.out, HOK.out, HBQ.out]
      rfl

set_option maxRecDepth 100000 in
set_option maxHeartbeats 4000000 in
theorem form_k2 (k lo hi : Int) (v : It) (l : List Int) (f : List Fld) (hk : k = 2) (h : Nat) (Av Al Af : Option Addr) (cv cl cf : Nat) (w : World) (H : NdR w h ⟨k, lo, hi, v, l, f⟩ Av cv Al cl Af cf) :
    Calls Tryd.prog 105 #[.agg (ndC ⟨k, lo, hi, v, l, f⟩ Av cv Al cl Af cf)] w fun e w' => e = .returned (.bool (⟨k, lo, hi, v, l, f⟩ : Nod).formB) ∧ Fr (fun _ => False) w w' := by
  have HR := hid H
  have HDN := hid (ndC_eq ⟨k, lo, hi, v, l, f⟩ Av cv Al cl Af cf)
  rw [ndC_eq]
  simp only at HDN ⊢
  obtain ⟨x3, hx3⟩ : ∃ x, v.k = x := ⟨_, rfl⟩
  obtain ⟨x4, hx4⟩ : ∃ x, v.n = x := ⟨_, rfl⟩
  obtain ⟨x5, hx5⟩ : ∃ x, v.s = x := ⟨_, rfl⟩
  obtain ⟨x6, hx6⟩ : ∃ x, v.l.length = x := ⟨_, rfl⟩
  obtain ⟨x7, hx7⟩ : ∃ x, l.length = x := ⟨_, rfl⟩
  obtain ⟨x8, hx8⟩ : ∃ x, f.length = x := ⟨_, rfl⟩
  have HX3 := hid hx3
  have HX4 := hid hx4
  have HX5 := hid hx5
  have HX6 := hid hx6
  have HX7 := hid hx7
  have HX8 := hid hx8
  rw [hx3, hx4, hx5, hx6, hx7, hx8] at HDN ⊢
  clear hx3 hx4 hx5 hx6 hx7 hx8 H
  obtain ⟨b0, hb0⟩ : ∃ b, ((x7 : Int) == 0) = b := ⟨_, rfl⟩
  have HB0 := hid (show decide (l.length = 0) = b0 by rw [HX7.out, ← hb0, Bool.eq_iff_iff]; simp)
  have HBARE := hid (show (⟨k, lo, hi, v, l, f⟩ : Nod).bare = ⟨2, lo, hi, noIt, [], []⟩ by subst hk; simp [Nod.bare])
  have HOK := hid (show (⟨k, lo, hi, v, l, f⟩ : Nod).ok = b0 by subst hk; rw [← HB0.out]; simp [Nod.ok])
  subst hk
  have HDM := hid (show ndC ⟨2, lo, hi, noIt, [], []⟩ none 0 none 0 none 0 = #[.int .i64 2, .int .i64 lo, .int .i64 hi, .int .i64 0, .int .u64 0, .string { data := #[] }, .slice none 0 0, .slice none 0 0, .slice none 0 0] by
    rw [ndC_eq]
    simp only [HX3.out, HX4.out, HX5.out, HX6.out, HX7.out, HX8.out, noIt, It.k, It.n, It.s, It.l, List.length_nil]
    rfl)
  cases b0 with
  | false =>
    go_enter Tryd.func105, Tryd.ntmps105
    go_wp2_with fail
    go_region
    all_goals
      go_wp2_with fail
      go_ret
      refine ⟨ret_bool ?_, by first | exact fr_2 _ _ _ | exact (fr_2 _ _ _).drew⟩
      rw [Nod.formB, HOK.out]
      rfl
  | true =>
    go_enter Tryd.func105, Tryd.ntmps105
    go_wp2_with fail
    go_region
    all_goals
      go_wp2_with fail
      rw [← HDM.out, ← HDN.out]
      refine (rsame_calls ⟨2, lo, hi, noIt, [], []⟩ ⟨2, lo, hi, v, l, f⟩ h h none none none Av Al Af 0 0 0 cv cl cf _ (by first | exact (NdR.sub HR.out ⟨2, lo, hi, noIt, [], []⟩ rfl (.inl rfl) (.inl rfl) (.inr ⟨rfl, rfl, rfl⟩) (.inr ⟨rfl, rfl, rfl⟩) (.inr ⟨rfl, rfl, rfl⟩)).fr0 (fr_2 _ _ _) | exact (NdR.sub HR.out ⟨2, lo, hi, noIt, [], []⟩ rfl (.inl rfl) (.inl rfl) (.inr ⟨rfl, rfl, rfl⟩) (.inr ⟨rfl, rfl, rfl⟩) (.inr ⟨rfl, rfl, rfl⟩)).fr0 (fr_2 _ _ _).drew) (by first | exact HR.out.fr0 (fr_2 _ _ _) | exact HR.out.fr0 (fr_2 _ _ _).drew)).mono ?_
      rintro e w9 ⟨rfl, hf⟩
      have HF9 := hid (show Fr (fun _ => False) w w9 by first | exact (fr_2 _ _ _).then_ hf (fun _ _ h => h) | exact (fr_2 _ _ _).drew.then_ hf (fun _ _ h => h))
      obtain ⟨bq, hbq⟩ : ∃ b, decide ((⟨2, lo, hi, noIt, [], []⟩ : Nod) = ⟨2, lo, hi, v, l, f⟩) = b := ⟨_, rfl⟩
      have HBQ := hid hbq
      rw [hbq]
      clear hf hbq
      go_wp2_with fail
      go_ret
      refine ⟨ret_bool ?_, HF9.out⟩
      rw [Nod.formB, HBARE.out, HOK.out, HBQ.out]
      rfl

set_option maxRecDepth 100000 in
set_option maxHeartbeats 4000000 in
theorem form_k3 (k lo hi : Int) (v : It) (l : List Int) (f : List Fld) (hk : k = 3) (h : Nat) (Av Al Af : Option Addr) (cv cl cf : Nat) (w : World) (H : NdR w h ⟨k, lo, hi, v, l, f⟩ Av cv Al cl Af cf) :
    Calls Tryd.prog 105 #[.agg (ndC ⟨k, lo, hi, v, l, f⟩ Av cv Al cl Af cf)] w fun e w' => e = .returned (.bool (⟨k, lo, hi, v, l, f⟩ : Nod).formB) ∧ Fr (fun _ => False) w w' := by
  have HR := hid H
  have HDN := hid (ndC_eq ⟨k, lo, hi, v, l, f⟩ Av cv Al cl Af cf)
  rw [ndC_eq]
  simp only at HDN ⊢
  obtain ⟨x3, hx3⟩ : ∃ x, v.k = x := ⟨_, rfl⟩
  obtain ⟨x4, hx4⟩ : ∃ x, v.n = x := ⟨_, rfl⟩
  obtain ⟨x5, hx5⟩ : ∃ x, v.s = x := ⟨_, rfl⟩
  obtain ⟨x6, hx6⟩ : ∃ x, v.l.length = x := ⟨_, rfl⟩
  obtain ⟨x7, hx7⟩ : ∃ x, l.length = x := ⟨_, rfl⟩
  obtain ⟨x8, hx8⟩ : ∃ x, f.length = x := ⟨_, rfl⟩
  have HX3 := hid hx3
  have HX4 := hid hx4
  have HX5 := hid hx5
  have HX6 := hid hx6
  have HX7 := hid hx7
  have HX8 := hid hx8
  rw [hx3, hx4, hx5, hx6, hx7, hx8] at HDN ⊢
  clear hx3 hx4 hx5 hx6 hx7 hx8 H
  obtain ⟨b0, hb0⟩ : ∃ b, ((x7 : Int) == 0) = b := ⟨_, rfl⟩
  have HB0 := hid (show decide (l.length = 0) = b0 by rw [HX7.out, ← hb0, Bool.eq_iff_iff]; simp)
  have HBARE := hid (show (⟨k, lo, hi, v, l, f⟩ : Nod).bare = ⟨3, lo, hi, noIt, [], []⟩ by subst hk; simp [Nod.bare])
  have HOK := hid (show (⟨k, lo, hi, v, l, f⟩ : Nod).ok = b0 by subst hk; rw [← HB0.out]; simp [Nod.ok])
  subst hk
  have HDM := hid (show ndC ⟨3, lo, hi, noIt, [], []⟩ none 0 none 0 none 0 = #[.int .i64 3, .int .i64 lo, .int .i64 hi, .int .i64 0, .int .u64 0, .string { data := #[] }, .slice none 0 0, .slice none 0 0, .slice none 0 0] by
    rw [ndC_eq]
    simp only [HX3.out, HX4.out, HX5.out, HX6.out, HX7.out, HX8.out, noIt, It.k, It.n, It.s, It.l, List.length_nil]
    rfl)
  cases b0 with
  | false =>
    go_enter Tryd.func105, Tryd.ntmps105
    go_wp2_with fail
    go_region
    all_goals
      go_wp2_with fail
      go_ret
      refine ⟨ret_bool ?_, by first | exact fr_2 _ _ _ | exact (fr_2 _ _ _).drew⟩
      rw [Nod.formB, HOK.out]
      rfl
  | true =>
    go_enter Tryd.func105, Tryd.ntmps105
    go_wp2_with fail
    go_region
    all_goals
      go_wp2_with fail
      rw [← HDM.out, ← HDN.out]
      refine (rsame_calls ⟨3, lo, hi, noIt, [], []⟩ ⟨3, lo, hi, v, l, f⟩ h h none none none Av Al Af 0 0 0 cv cl cf _ (by first | exact (NdR.sub HR.out ⟨3, lo, hi, noIt, [], []⟩ rfl (.inl rfl) (.inl rfl) (.inr ⟨rfl, rfl, rfl⟩) (.inr ⟨rfl, rfl, rfl⟩) (.inr ⟨rfl, rfl, rfl⟩)).fr0 (fr_2 _ _ _) | exact (NdR.sub HR.out ⟨3, lo, hi, noIt, [], []⟩ rfl (.inl rfl) (.inl rfl) (.inr ⟨rfl, rfl, rfl⟩) (.inr ⟨rfl, rfl, rfl⟩) (.inr ⟨rfl, rfl, rfl⟩)).fr0 (fr_2 _ _ _).drew) (by first | exact HR.out.fr0 (fr_2 _ _ _) | exact HR.out.fr0 (fr_2 _ _ _).drew)).mono ?_
      rintro e w9 ⟨rfl, hf⟩
      have HF9 := hid (show Fr (fun _ => False) w w9 by first | exact (fr_2 _ _ _).then_ hf (fun _ _ h => h) | exact (fr_2 _ _ _).drew.then_ hf (fun _ _ h => h))
      obtain ⟨bq, hbq⟩ : ∃ b, decide ((⟨3, lo, hi, noIt, [], []⟩ : Nod) = ⟨3, lo, hi, v, l, f⟩) = b := ⟨_, rfl⟩
      have HBQ := hid hbq
      rw [hbq]
      clear hf hbq
      go_wp2_with fail
      go_ret
      refine ⟨ret_bool ?_, HF9.out⟩
      rw [Nod.formB, HBARE.out, HOK.out, HBQ.out]
      rfl

set_option maxRecDepth 100000 in
set_option maxHeartbeats 4000000 in
theorem form_other (k lo hi : Int) (v : It) (l : List Int) (f : List Fld) (hk : k ≠ 4 ∧ k ≠ 8 ∧ k ≠ 7 ∧ k ≠ 10 ∧ k ≠ 9 ∧ k ≠ 6 ∧ k ≠ 1 ∧ k ≠ 2 ∧ k ≠ 3) (h : Nat) (Av Al Af : Option Addr) (cv cl cf : Nat) (w : World) (H : NdR w h ⟨k, lo, hi, v, l, f⟩ Av cv Al cl Af cf) :
    Calls Tryd.prog 105 #[.agg (ndC ⟨k, lo, hi, v, l, f⟩ Av cv Al cl Af cf)] w fun e w' => e = .returned (.bool (⟨k, lo, hi, v, l, f⟩ : Nod).formB) ∧ Fr (fun _ => False) w w' := by
  have HR := hid H
  have HDN := hid (ndC_eq ⟨k, lo, hi, v, l, f⟩ Av cv Al cl Af cf)
  rw [ndC_eq]
  simp only at HDN ⊢
  obtain ⟨x3, hx3⟩ : ∃ x, v.k = x := ⟨_, rfl⟩
  obtain ⟨x4, hx4⟩ : ∃ x, v.n = x := ⟨_, rfl⟩
  obtain ⟨x5, hx5⟩ : ∃ x, v.s = x := ⟨_, rfl⟩
  obtain ⟨x6, hx6⟩ : ∃ x, v.l.length = x := ⟨_, rfl⟩
  obtain ⟨x7, hx7⟩ : ∃ x, l.length = x := ⟨_, rfl⟩
  obtain ⟨x8, hx8⟩ : ∃ x, f.length = x := ⟨_, rfl⟩
  have HX3 := hid hx3
  have HX4 := hid hx4
  have HX5 := hid hx5
  have HX6 := hid hx6
  have HX7 := hid hx7
  have HX8 := hid hx8
  rw [hx3, hx4, hx5, hx6, hx7, hx8] at HDN ⊢
  clear hx3 hx4 hx5 hx6 hx7 hx8 H
  obtain ⟨b0, hb0⟩ : ∃ b, ((x7 : Int) == 0) = b := ⟨_, rfl⟩
  have HB0 := hid (show decide (l.length = 0) = b0 by rw [HX7.out, ← hb0, Bool.eq_iff_iff]; simp)
  have HBARE := hid (show (⟨k, lo, hi, v, l, f⟩ : Nod).bare = ⟨k, 0, 0, noIt, [], []⟩ by simp [Nod.bare, hk])
  have HOK := hid (show (⟨k, lo, hi, v, l, f⟩ : Nod).ok = b0 by rw [← HB0.out]; simp [Nod.ok, hk])
  have g4 : (k == 4) = false := beq_eq_false_iff_ne.2 (by omega)
  have g8 : (k == 8) = false := beq_eq_false_iff_ne.2 (by omega)
  have g7 : (k == 7) = false := beq_eq_false_iff_ne.2 (by omega)
  have g10 : (k == 10) = false := beq_eq_false_iff_ne.2 (by omega)
  have g9 : (k == 9) = false := beq_eq_false_iff_ne.2 (by omega)
  have g6 : (k == 6) = false := beq_eq_false_iff_ne.2 (by omega)
  have g1 : (k == 1) = false := beq_eq_false_iff_ne.2 (by omega)
  have g2 : (k == 2) = false := beq_eq_false_iff_ne.2 (by omega)
  have g3 : (k == 3) = false := beq_eq_false_iff_ne.2 (by omega)
  clear hk
  have HDM := hid (show ndC ⟨k, 0, 0, noIt, [], []⟩ none 0 none 0 none 0 = #[.int .i64 k, .int .i64 0, .int .i64 0, .int .i64 0, .int .u64 0, .string { data := #[] }, .slice none 0 0, .slice none 0 0, .slice none 0 0] by
    rw [ndC_eq]
    simp only [HX3.out, HX4.out, HX5.out, HX6.out, HX7.out, HX8.out, noIt, It.k, It.n, It.s, It.l, List.length_nil]
    rfl)
  cases b0 with
  | false =>
    go_enter Tryd.func105, Tryd.ntmps105
    go_wp2_with fail
    go_ret
    refine ⟨ret_bool ?_, fr_2 _ _ _⟩
    rw [Nod.formB, HOK.out]
    rfl
  | true =>
    go_enter Tryd.func105, Tryd.ntmps105
    go_wp2_with fail
    rw [← HDM.out, ← HDN.out]
    refine (rsame_calls ⟨k, 0, 0, noIt, [], []⟩ ⟨k, lo, hi, v, l, f⟩ h h none none none Av Al Af 0 0 0 cv cl cf _ (by first | exact (NdR.sub HR.out ⟨k, 0, 0, noIt, [], []⟩ rfl (.inr rfl) (.inr rfl) (.inr ⟨rfl, rfl, rfl⟩) (.inr ⟨rfl, rfl, rfl⟩) (.inr ⟨rfl, rfl, rfl⟩)).fr0 (fr_2 _ _ _) | exact (NdR.sub HR.out ⟨k, 0, 0, noIt, [], []⟩ rfl (.inr rfl) (.inr rfl) (.inr ⟨rfl, rfl, rfl⟩) (.inr ⟨rfl, rfl, rfl⟩) (.inr ⟨rfl, rfl, rfl⟩)).fr0 (fr_2 _ _ _).drew) (by first | exact HR.out.fr0 (fr_2 _ _ _) | exact HR.out.fr0 (fr_2 _ _ _).drew)).mono ?_
    rintro e w9 ⟨rfl, hf⟩
    have HF9 := hid (show Fr (fun _ => False) w w9 by first | exact (fr_2 _ _ _).then_ hf (fun _ _ h => h) | exact (fr_2 _ _ _).drew.then_ hf (fun _ _ h => h))
    obtain ⟨bq, hbq⟩ : ∃ b, decide ((⟨k, 0, 0, noIt, [], []⟩ : Nod) = ⟨k, lo, hi, v, l, f⟩) = b := ⟨_, rfl⟩
    have HBQ := hid hbq
    rw [hbq]
    clear hf hbq
    go_wp2_with fail
    go_ret
    refine ⟨ret_bool ?_, HF9.out⟩
    rw [Nod.formB, HBARE.out, HOK.out, HBQ.out]
    rfl

set_option maxRecDepth 100000 in
set_option maxHeartbeats 4000000 in
theorem form_k4 (k lo hi : Int) (v : It) (l : List Int) (f : List Fld) (hk : k = 4) (h : Nat) (Av Al Af : Option Addr) (cv cl cf : Nat) (w : World) (H : NdR w h ⟨k, lo, hi, v, l, f⟩ Av cv Al cl Af cf) :
    Calls Tryd.prog 105 #[.agg (ndC ⟨k, lo, hi, v, l, f⟩ Av cv Al cl Af cf)] w fun e w' => e = .returned (.bool (⟨k, lo, hi, v, l, f⟩ : Nod).formB) ∧ Fr (fun _ => False) w w' := by
  have HR := hid H
  have HDN := hid (ndC_eq ⟨k, lo, hi, v, l, f⟩ Av cv Al cl Af cf)
  rw [ndC_eq]
  simp only at HDN ⊢
  obtain ⟨x3, hx3⟩ : ∃ x, v.k = x := ⟨_, rfl⟩
  obtain ⟨x4, hx4⟩ : ∃ x, v.n = x := ⟨_, rfl⟩
  obtain ⟨x5, hx5⟩ : ∃ x, v.s = x := ⟨_, rfl⟩
  obtain ⟨x6, hx6⟩ : ∃ x, v.l.length = x := ⟨_, rfl⟩
  obtain ⟨x7, hx7⟩ : ∃ x, l.length = x := ⟨_, rfl⟩
  obtain ⟨x8, hx8⟩ : ∃ x, f.length = x := ⟨_, rfl⟩
  have HX3 := hid hx3
  have HX4 := hid hx4
  have HX5 := hid hx5
  have HX6 := hid hx6
  have HX7 := hid hx7
  have HX8 := hid hx8
  rw [hx3, hx4, hx5, hx6, hx7, hx8] at HDN ⊢
  clear hx3 hx4 hx5 hx6 hx7 hx8 H
  obtain ⟨b0, hb0⟩ : ∃ b, ((x7 : Int) == 0) = b := ⟨_, rfl⟩
  have HB0 := hid (show decide (l.length = 0) = b0 by rw [HX7.out, ← hb0, Bool.eq_iff_iff]; simp)
  have HBARE := hid (show (⟨k, lo, hi, v, l, f⟩ : Nod).bare = ⟨4, 0, 0, v, [], []⟩ by subst hk; simp [Nod.bare])
  have HOK := hid (show (⟨k, lo, hi, v, l, f⟩ : Nod).ok = (b0 && decide (x3 ≠ 4 ∧ x3 ≠ 5 ∧ x3 ≠ 6 ∧ x3 ≠ 8) && decide (v.check = 0)) by subst hk; rw [← HB0.out, ← HX3.out]; simp only [Nod.ok, if_true])
  subst hk
  have HDM := hid (show ndC ⟨4, 0, 0, v, [], []⟩ Av cv none 0 none 0 = #[.int .i64 4, .int .i64 0, .int .i64 0, .int .i64 x3, .int .u64 x4, .string x5, .slice Av x6 cv, .slice none 0 0, .slice none 0 0] by
    rw [ndC_eq]
    simp only [HX3.out, HX4.out, HX5.out, HX6.out, HX7.out, HX8.out, List.length_nil])
  have hcase : (b0 = false ∨ (b0 = true ∧ ¬ (x3 = 0 ∨ x3 = 1 ∨ x3 = 2 ∨ x3 = 3 ∨ x3 = 7))) ∨ (b0 = true ∧ (x3 = 0 ∨ x3 = 1 ∨ x3 = 2 ∨ x3 = 3 ∨ x3 = 7)) := by
    cases b0
    · exact .inl (.inl rfl)
    · by_cases h : x3 = 0 ∨ x3 = 1 ∨ x3 = 2 ∨ x3 = 3 ∨ x3 = 7
      · exact .inr ⟨rfl, h⟩
      · exact .inl (.inr ⟨rfl, h⟩)
  rcases hcase with hc | ⟨rfl, hc⟩
  · have HOF := hid (show (⟨4, lo, hi, v, l, f⟩ : Nod).ok = false by
      rw [HOK.out]
      rcases hc with rfl | ⟨rfl, hc⟩
      · rfl
      · by_cases hck : v.check = 0
        · have := check_kinds v hck
          rw [HX3.out] at this
          rw [decide_eq_false (p := x3 ≠ 4 ∧ x3 ≠ 5 ∧ x3 ≠ 6 ∧ x3 ≠ 8) (by omega)]
          rfl
        · rw [decide_eq_false hck, Bool.and_false])
    rcases hc with rfl | ⟨rfl, hc⟩
    · go_enter Tryd.func105, Tryd.ntmps105
      go_wp2_with fail
      go_ret
      refine ⟨ret_bool ?_, fr_2 _ _ _⟩
      rw [Nod.formB, HOF.out]
      rfl
    · have g0 : (x3 == 0) = false := beq_eq_false_iff_ne.2 (by omega)
      have g1 : (x3 == 1) = false := beq_eq_false_iff_ne.2 (by omega)
      have g2 : (x3 == 2) = false := beq_eq_false_iff_ne.2 (by omega)
      have g3 : (x3 == 3) = false := beq_eq_false_iff_ne.2 (by omega)
      have g7 : (x3 == 7) = false := beq_eq_false_iff_ne.2 (by omega)
      clear hc
      go_enter Tryd.func105, Tryd.ntmps105
      go_wp2_with fail
      go_ret
      refine ⟨ret_bool ?_, fr_2 _ _ _⟩
      rw [Nod.formB, HOF.out]
      rfl
  · obtain ⟨b3, hb3⟩ : ∃ b, (v.check == 0) = b := ⟨_, rfl⟩
    have HOT := hid (show (⟨4, lo, hi, v, l, f⟩ : Nod).ok = b3 by
      rw [HOK.out, ← hb3, decide_eq_true (p := x3 ≠ 4 ∧ x3 ≠ 5 ∧ x3 ≠ 6 ∧ x3 ≠ 8) (by omega), Bool.eq_iff_iff]
      simp)
    have HRV := hid (show ItAt w 0 h v [.int .i64 x3, .int .u64 x4, .string x5, .slice Av x6 cv] by
      have := HR.out.v
      simp only [HX3.out, HX4.out, HX5.out, HX6.out] at this
      exact this)
    obtain ⟨ck, hck⟩ : ∃ c, v.check = c := ⟨_, rfl⟩
    rw [hck] at hb3
    have HCE := hid hck
    clear hck
    rcases hc with rfl | rfl | rfl | rfl | rfl
    all_goals
      go_enter Tryd.func105, Tryd.ntmps105
      go_wp2_with fail
      refine (refcheck_calls v (by have := HR.out.vm; simp only at this; omega) 0 h _ _ (by exact Nat.le_trans HR.out.hh (fr_2 _ _ _).size) (by exact HRV.out.fr0 (fr_2 _ _ _) HR.out.hh)).mono ?_
      rintro e w2 ⟨rfl, hf⟩
      rw [HCE.out]
      have HF2 := hid ((fr_2 _ _ _).then_ hf (fun _ _ h => h))
      have HBM := hid ((show Blk ((w.alloc _).alloc (.cells _ 54)) (w.heap.size + 1) 54 _ from (World.size_alloc w _) ▸ Blk.new (w.alloc _) 54 _).fr hf (fun h => h))
      have HBN := hid (((Blk.new w 54 _).alloc _).fr hf (fun h => h))
      obtain ⟨o0, o1, o2, o3, o4, o5, o6, o7, o8⟩ := blk9 HBM.out
      obtain ⟨n0, n1, n2, n3, n4, n5, n6, n7, n8⟩ := blk9 HBN.out
      clear hf
      cases b3 with
      | false =>
        go_wp2_with fail
        go_ret
        refine ⟨ret_bool ?_, HF2.out⟩
        rw [Nod.formB, HOT.out]
        rfl
      | true =>
        go_wp2_with fail
        rw [← HDM.out, ← HDN.out]
        refine (rsame_calls ⟨4, 0, 0, v, [], []⟩ ⟨4, lo, hi, v, l, f⟩ h h Av none none Av Al Af cv 0 0 cv cl cf _ (by exact (NdR.sub HR.out ⟨4, 0, 0, v, [], []⟩ rfl (.inr rfl) (.inr rfl) (.inl ⟨rfl, rfl, rfl⟩) (.inr ⟨rfl, rfl, rfl⟩) (.inr ⟨rfl, rfl, rfl⟩)).fr0 HF2.out) (by exact HR.out.fr0 HF2.out)).mono ?_
        rintro e w9 ⟨rfl, hf⟩
        have HF9 := hid (HF2.out.then_ hf (fun _ _ h => h))
        obtain ⟨bq, hbq⟩ : ∃ b, decide ((⟨4, 0, 0, v, [], []⟩ : Nod) = ⟨4, lo, hi, v, l, f⟩) = b := ⟨_, rfl⟩
        have HBQ := hid hbq
        rw [hbq]
        clear hf hbq o0 o1 o2 o3 o4 o5 o6 o7 o8 n0 n1 n2 n3 n4 n5 n6 n7 n8
        go_wp2_with fail
        go_ret
        refine ⟨ret_bool ?_, HF9.out⟩
        rw [Nod.formB, HBARE.out, HOT.out, HBQ.out]
        rfl

/-- A node, whatever its kind. -/
theorem form_calls (n : Nod) (h : Nat) (Av Al Af : Option Addr) (cv cl cf : Nat) (w : World) (H : NdR w h n Av cv Al cl Af cf) :
    Calls Tryd.prog 105 #[.agg (ndC n Av cv Al cl Af cf)] w fun e w' => e = .returned (.bool n.formB) ∧ Fr (fun _ => False) w w' := by
  obtain ⟨k, lo, hi, v, l, f⟩ := n
  by_cases h4 : k = 4
  · exact form_k4 k lo hi v l f h4 h Av Al Af cv cl cf w H
  by_cases h8 : k = 8
  · exact form_k8 k lo hi v l f h8 h Av Al Af cv cl cf w H
  by_cases h7 : k = 7
  · exact form_k7 k lo hi v l f h7 h Av Al Af cv cl cf w H
  by_cases h10 : k = 10
  · exact form_k10 k lo hi v l f h10 h Av Al Af cv cl cf w H
  by_cases h9 : k = 9
  · exact form_k9 k lo hi v l f h9 h Av Al Af cv cl cf w H
  by_cases h6 : k = 6
  · exact form_k6 k lo hi v l f h6 h Av Al Af cv cl cf w H
  by_cases h1 : k = 1
  · exact form_k1 k lo hi v l f h1 h Av Al Af cv cl cf w H
  by_cases h2 : k = 2
  · exact form_k2 k lo hi v l f h2 h Av Al Af cv cl cf w H
  by_cases h3 : k = 3
  · exact form_k3 k lo hi v l f h3 h Av Al Af cv cl cf w H
  exact form_other k lo hi v l f ⟨h4, h8, h7, h10, h9, h6, h1, h2, h3⟩ h Av Al Af cv cl cf w H
end Go.Proofs.YtkmgiodhaaajjaaDoor.SchN
