-- PRINTED BY print.sh 35421559b90ae4d0a3588c463048766b98c2df88dd9212a6774a882060cdf62d: not written by this session
import Derived.Test.YtcbogkpgkdijaaaDoorPShaSumsx0
namespace Go.Proofs.YtcbogkpgkdijaaaDoor.PShaSums
open Go.RowKit Go.Proofs.YtcbogkpgkdijaaaDoorW.PrintWords Go.Proofs.YtcbogkpgkdijaaaDoorW.PrintLast Go.Proofs.YtcbogkpgkdijaaaDoorW.PrintMore
attribute [local go_sem] max2_int min2_int max_two min_two max_three min_three max_four min_four   -- for this text's walks alone
set_option linter.unusedVariables false
set_option linter.unusedSimpArgs false

/-! ### ullageref02_within: function 54 -/
mutual
def ullageref02_within.l0 : Nat → Int → List Int → List Int → Int → Option (Bool)
  | 0, _, _, _, _ => none
  | k + 1, x1, x5, x6, x7 => if x7 < 3 then (if 7 ≤ 35184372088832 then (ullageref02_within.l1 k x1 x5 x6 x7 (List.replicate 7 0) 0) else (none)) else (if 6 < (x5.length : Int) then (if (rd x5 6) > 0 then (ullageref02_within.j4 k x1 x5 true) else (if 5 < (x5.length : Int) then (if (rd x5 5) > 0 then (ullageref02_within.j4 k x1 x5 true) else (if 4 < (x5.length : Int) then (ullageref02_within.j4 k x1 x5 (decide ((rd x5 4) > 0))) else (none))) else (none))) else (none))
def ullageref02_within.l1 : Nat → Int → List Int → List Int → Int → List Int → Int → Option (Bool)
  | 0, _, _, _, _, _, _ => none
  | k + 1, x1, x5, x6, x7, x8, x9 => if x9 < 5 then (ullageref02_within.l2 k x1 x5 x6 x7 x8 x9 0) else (ullageref02_within.l3 k x1 x6 x7 x8 0)
def ullageref02_within.l2 : Nat → Int → List Int → List Int → Int → List Int → Int → Int → Option (Bool)
  | 0, _, _, _, _, _, _, _ => none
  | k + 1, x1, x5, x6, x7, x8, x9, x10 => if x10 < 2 then (if 0 ≤ x9 then (if x9 < (x5.length : Int) then (if 0 ≤ x10 then (if x10 < (x6.length : Int) then (if 0 ≤ (wrap64 (x9 + x10)) then (if (wrap64 (x9 + x10)) < (x8.length : Int) then ((some (x8.set ((wrap64 (x9 + x10)) : Int).toNat (IntKind.u64.wrap ((rd x8 (wrap64 (x9 + x10))) + (Go.bits .and .u64 (IntKind.u64.wrap ((rd x5 x9) * (rd x6 x10))) 4294967295))) : List Int)).bind fun y142 => (if 0 ≤ (wrap64 ((wrap64 (x9 + x10)) + 1)) then (if (wrap64 ((wrap64 (x9 + x10)) + 1)) < (x8.length : Int) then (ullageref02_within.l2 k x1 x5 x6 x7 (y142.set ((wrap64 ((wrap64 (x9 + x10)) + 1)) : Int).toNat (IntKind.u64.wrap ((rd y142 (wrap64 ((wrap64 (x9 + x10)) + 1))) + ((IntKind.u64.wrap ((rd x5 x9) * (rd x6 x10))) / 4294967296)))) x9 (wrap64 (x10 + 1))) else (none)) else (none))) else (none)) else (none)) else (none)) else (none)) else (none)) else (none)) else (ullageref02_within.l1 k x1 x5 x6 x7 x8 (wrap64 (x9 + 1)))
def ullageref02_within.l3 : Nat → Int → List Int → Int → List Int → Int → Option (Bool)
  | 0, _, _, _, _, _ => none
  | k + 1, x1, x6, x7, x8, x12 => if x12 < 6 then (if 0 ≤ (wrap64 (x12 + 1)) then (if (wrap64 (x12 + 1)) < (x8.length : Int) then (if 0 ≤ x12 then (if x12 < (x8.length : Int) then ((some (x8.set ((wrap64 (x12 + 1)) : Int).toNat (IntKind.u64.wrap ((rd x8 (wrap64 (x12 + 1))) + ((rd x8 x12) / 4294967296))) : List Int)).bind fun y147 => (ullageref02_within.l3 k x1 x6 x7 (y147.set (x12 : Int).toNat (Go.bits .and .u64 (rd y147 x12) 4294967295)) (wrap64 (x12 + 1)))) else (none)) else (none)) else (none)) else (none)) else (ullageref02_within.l0 k x1 x8 x6 (wrap64 (x7 + 1)))
def ullageref02_within.j4 : Nat → Int → List Int → Bool → Option (Bool)
  | 0, _, _, _ => none
  | k + 1, x1, x5, x114 => if x114 = true then (some false) else (if 3 < (x5.length : Int) then (if (rd x5 3) = x1 then (if 2 < (x5.length : Int) then (if (rd x5 2) = 0 then (if 1 < (x5.length : Int) then (if (rd x5 1) = 0 then (if 0 < (x5.length : Int) then (some ((rd x5 0) == 0)) else (none)) else (some false)) else (none)) else (some false)) else (none)) else (some (decide ((rd x5 3) < x1)))) else (none))
end
def ullageref02_within.f (k : Nat) (a0 : Int) (a1 : Int) : Option (Bool) := ullageref02_within.l0 k a1 (([1, 0, 0, 0, 0, 0, 0] : List Int)) (([Go.bits .and .u64 a0 4294967295, a0 / 4294967296] : List Int)) 0
theorem ullageref02_within.mono_l : ∀ k, (∀ y0 y1 y2 y3, LeO (ullageref02_within.l0 k y0 y1 y2 y3) (ullageref02_within.l0 (k + 1) y0 y1 y2 y3)) ∧ (∀ y0 y1 y2 y3 y4 y5, LeO (ullageref02_within.l1 k y0 y1 y2 y3 y4 y5) (ullageref02_within.l1 (k + 1) y0 y1 y2 y3 y4 y5)) ∧ (∀ y0 y1 y2 y3 y4 y5 y6, LeO (ullageref02_within.l2 k y0 y1 y2 y3 y4 y5 y6) (ullageref02_within.l2 (k + 1) y0 y1 y2 y3 y4 y5 y6)) ∧ (∀ y0 y1 y2 y3 y4, LeO (ullageref02_within.l3 k y0 y1 y2 y3 y4) (ullageref02_within.l3 (k + 1) y0 y1 y2 y3 y4)) ∧ (∀ y0 y1 y2, LeO (ullageref02_within.j4 k y0 y1 y2) (ullageref02_within.j4 (k + 1) y0 y1 y2))
  | 0 => ⟨fun _ _ _ _ r h => by simp [ullageref02_within.l0] at h, fun _ _ _ _ _ _ r h => by simp [ullageref02_within.l1] at h, fun _ _ _ _ _ _ _ r h => by simp [ullageref02_within.l2] at h, fun _ _ _ _ _ r h => by simp [ullageref02_within.l3] at h, fun _ _ _ r h => by simp [ullageref02_within.j4] at h⟩
  | k + 1 => by
    obtain ⟨ih0, ih1, ih2, ih3, ih4⟩ := ullageref02_within.mono_l k
    refine ⟨?_, ?_, ?_, ?_, ?_⟩
    · intro y0 y1 y2 y3
      unfold ullageref02_within.l0
      repeat' first
      | (with_reducible exact ih0 _ _ _ _)
      | (with_reducible exact ih1 _ _ _ _ _ _)
      | (with_reducible exact ih2 _ _ _ _ _ _ _)
      | (with_reducible exact ih3 _ _ _ _ _)
      | (with_reducible exact ih4 _ _ _)
      | (with_reducible exact LeO.refl _)
      | (with_reducible exact LeO.none _)
      | (with_reducible refine LeO.ite ?_ ?_)
      | (with_reducible refine LeO.bind ?_ (fun _ => ?_))
      | exact ih0 _ _ _ _
      | exact ih1 _ _ _ _ _ _
      | exact ih2 _ _ _ _ _ _ _
      | exact ih3 _ _ _ _ _
      | exact ih4 _ _ _
      | exact LeO.none _
      | refine LeO.ite ?_ ?_
      | refine LeO.bind ?_ (fun _ => ?_)
    · intro y0 y1 y2 y3 y4 y5
      unfold ullageref02_within.l1
      repeat' first
      | (with_reducible exact ih0 _ _ _ _)
      | (with_reducible exact ih1 _ _ _ _ _ _)
      | (with_reducible exact ih2 _ _ _ _ _ _ _)
      | (with_reducible exact ih3 _ _ _ _ _)
      | (with_reducible exact ih4 _ _ _)
      | (with_reducible exact LeO.refl _)
      | (with_reducible exact LeO.none _)
      | (with_reducible refine LeO.ite ?_ ?_)
      | (with_reducible refine LeO.bind ?_ (fun _ => ?_))
      | exact ih0 _ _ _ _
      | exact ih1 _ _ _ _ _ _
      | exact ih2 _ _ _ _ _ _ _
      | exact ih3 _ _ _ _ _
      | exact ih4 _ _ _
      | exact LeO.none _
      | refine LeO.ite ?_ ?_
      | refine LeO.bind ?_ (fun _ => ?_)
    · intro y0 y1 y2 y3 y4 y5 y6
      unfold ullageref02_within.l2
      repeat' first
      | (with_reducible exact ih0 _ _ _ _)
      | (with_reducible exact ih1 _ _ _ _ _ _)
      | (with_reducible exact ih2 _ _ _ _ _ _ _)
      | (with_reducible exact ih3 _ _ _ _ _)
      | (with_reducible exact ih4 _ _ _)
      | (with_reducible exact LeO.refl _)
      | (with_reducible exact LeO.none _)
      | (with_reducible refine LeO.ite ?_ ?_)
      | (with_reducible refine LeO.bind ?_ (fun _ => ?_))
      | exact ih0 _ _ _ _
      | exact ih1 _ _ _ _ _ _
      | exact ih2 _ _ _ _ _ _ _
      | exact ih3 _ _ _ _ _
      | exact ih4 _ _ _
      | exact LeO.none _
      | refine LeO.ite ?_ ?_
      | refine LeO.bind ?_ (fun _ => ?_)
    · intro y0 y1 y2 y3 y4
      unfold ullageref02_within.l3
      repeat' first
      | (with_reducible exact ih0 _ _ _ _)
      | (with_reducible exact ih1 _ _ _ _ _ _)
      | (with_reducible exact ih2 _ _ _ _ _ _ _)
      | (with_reducible exact ih3 _ _ _ _ _)
      | (with_reducible exact ih4 _ _ _)
      | (with_reducible exact LeO.refl _)
      | (with_reducible exact LeO.none _)
      | (with_reducible refine LeO.ite ?_ ?_)
      | (with_reducible refine LeO.bind ?_ (fun _ => ?_))
      | exact ih0 _ _ _ _
      | exact ih1 _ _ _ _ _ _
      | exact ih2 _ _ _ _ _ _ _
      | exact ih3 _ _ _ _ _
      | exact ih4 _ _ _
      | exact LeO.none _
      | refine LeO.ite ?_ ?_
      | refine LeO.bind ?_ (fun _ => ?_)
    · intro y0 y1 y2
      unfold ullageref02_within.j4
      repeat' first
      | (with_reducible exact ih0 _ _ _ _)
      | (with_reducible exact ih1 _ _ _ _ _ _)
      | (with_reducible exact ih2 _ _ _ _ _ _ _)
      | (with_reducible exact ih3 _ _ _ _ _)
      | (with_reducible exact ih4 _ _ _)
      | (with_reducible exact LeO.refl _)
      | (with_reducible exact LeO.none _)
      | (with_reducible refine LeO.ite ?_ ?_)
      | (with_reducible refine LeO.bind ?_ (fun _ => ?_))
      | exact ih0 _ _ _ _
      | exact ih1 _ _ _ _ _ _
      | exact ih2 _ _ _ _ _ _ _
      | exact ih3 _ _ _ _ _
      | exact ih4 _ _ _
      | exact LeO.none _
      | refine LeO.ite ?_ ?_
      | refine LeO.bind ?_ (fun _ => ?_)
theorem ullageref02_within.mono : ∀ a0 a1 k, LeO (ullageref02_within.f k a0 a1) (ullageref02_within.f (k + 1) a0 a1) := by
  intro a0 a1 k
  obtain ⟨ih0, ih1, ih2, ih3, ih4⟩ := ullageref02_within.mono_l k
  unfold ullageref02_within.f
  repeat' first
      | (with_reducible exact ih0 _ _ _ _)
      | (with_reducible exact ih1 _ _ _ _ _ _)
      | (with_reducible exact ih2 _ _ _ _ _ _ _)
      | (with_reducible exact ih3 _ _ _ _ _)
      | (with_reducible exact ih4 _ _ _)
      | (with_reducible exact LeO.refl _)
      | (with_reducible exact LeO.none _)
      | (with_reducible refine LeO.ite ?_ ?_)
      | (with_reducible refine LeO.bind ?_ (fun _ => ?_))
      | exact ih0 _ _ _ _
      | exact ih1 _ _ _ _ _ _
      | exact ih2 _ _ _ _ _ _ _
      | exact ih3 _ _ _ _ _
      | exact ih4 _ _ _
      | exact LeO.none _
      | refine LeO.ite ?_ ?_
      | refine LeO.bind ?_ (fun _ => ?_)
def ullageref02_within.T13 : Bool × List (List Nat × List Nat) := (true, [([], []), ([], []), ([0, 1], [0, 1]), ([2], [2]), ([], []), ([], []), ([4, 5], [4, 5]), ([6], [6]), ([3, 7], [3, 7]), ([8, 0, 1, 2, 3, 4, 5, 6, 7, 8], [8])])
def ullageref02_within.B13 : List Nat := [0, 0, 3, 7, 0, 0, 48, 112, 255, 511]
theorem ullageref02_within.tab13 : rtab .any (opsOf Tryd.f54 13) = ullageref02_within.T13 := by kernel_rfl
theorem ullageref02_within.bits13 : waitsOk ullageref02_within.T13.2 ullageref02_within.B13 = true := by kernel_rfl
def ullageref02_within.T19 : Bool × List (List Nat × List Nat) := (true, [([], []), ([], []), ([1], [1]), ([], []), ([], []), ([4], [4]), ([3, 5], [3, 5]), ([6], [6]), ([], []), ([], []), ([8, 9], [8, 9]), ([10], [10]), ([11], [11]), ([7, 12], [7, 12]), ([0, 2, 0, 1, 2, 3, 4, 5, 6, 7, 8, 9, 10, 11, 12, 13], [0, 2]), ([14, 13, 0, 1, 2, 3, 4, 5, 6, 7, 8, 9, 10, 11, 12, 13], [13, 14])])
def ullageref02_within.B19 : List Nat := [0, 0, 2, 0, 0, 16, 56, 120, 0, 0, 768, 1792, 3840, 8184, 16383, 32767]
theorem ullageref02_within.tab19 : rtab .any (opsOf Tryd.f54 19) = ullageref02_within.T19 := by kernel_rfl
theorem ullageref02_within.bits19 : waitsOk ullageref02_within.T19.2 ullageref02_within.B19 = true := by kernel_rfl
set_option maxHeartbeats 8000000 in
set_option maxRecDepth 100000 in
theorem ullageref02_within.calls (k : Nat) (a0 : Int) (a1 : Int) (r : Bool) (w : World) (h : ullageref02_within.f k a0 a1 = some r) :
    Calls Tryd.prog 54 #[.int .u64 a0, .int .u64 a1] w fun e w' => e = .returned (.bool r) ∧ Below w.heap.size w w' := by
  have HB := Aside0.mk (Below.refl w.heap.size w)
  have H : (ullageref02_within.l0 k a1 (([1, 0, 0, 0, 0, 0, 0] : List Int)) (([Go.bits .and .u64 a0 4294967295, a0 / 4294967296] : List Int)) 0) = some r := h
  clear h
  obtain ⟨y130, hy130⟩ : ∃ y_ : List Int, y_ = (([1, 0, 0, 0, 0, 0, 0] : List Int)) := ⟨_, rfl⟩
  replace H : (ullageref02_within.l0 k a1 y130 (([Go.bits .and .u64 a0 4294967295, a0 / 4294967296] : List Int)) 0) = some r := by first | (rw [hy130]; with_reducible exact H) | (have H2_ := (Option.bind_some _ _).symm.trans H; rw [hy130]; with_reducible exact H2_) | (have H2_ := (Option.bind_some _ _).symm.trans H; with_reducible exact H2_) | with_reducible exact H | (rw [hy130]; exact H) | exact H
  have Ny130 := Aside0.mk hy130
  clear hy130
  obtain ⟨y133, hy133⟩ : ∃ y_ : List Int, y_ = (([Go.bits .and .u64 a0 4294967295, a0 / 4294967296] : List Int)) := ⟨_, rfl⟩
  replace H : (ullageref02_within.l0 k a1 y130 y133 0) = some r := by first | (rw [hy133]; with_reducible exact H) | (have H2_ := (Option.bind_some _ _).symm.trans H; rw [hy133]; with_reducible exact H2_) | (have H2_ := (Option.bind_some _ _).symm.trans H; with_reducible exact H2_) | with_reducible exact H | (rw [hy133]; exact H) | exact H
  have Ny133 := Aside0.mk hy133
  clear hy133
  have H' := Aside0.mk H
  clear H
  go_enter Tryd.func54, Tryd.ntmps54
  go_wp2_with (first | ((with_reducible refine gate_dst (N := 13) rfl ?_); refine Kd.R_lit (Kd.int .u64) _ 22 ?hg (N := 13) ?hd (xs := ([1, 0, 0, 0, 0, 0, 0] : List Int)) (inner := [.int .u64 1, .int .u64 0, .int .u64 0, .int .u64 0, .int .u64 0, .int .u64 0, .int .u64 0]) (ok := fun _ => True) (okp := fun _ => True) ?hr ?hp (fun _ hk => hk) trivial (Below.refl _ _) (Nat.le_refl _) (by simp) ?_; (case hd => rfl); (case hg => rfl); (case hr => first | (go_simp; done) | (go_simp; rfl)); (case hp => exact (Reps.one (show Kd.M (Kd.int .u64) _ _ _ 1 [.int .u64 1] from rfl) (Reps.one (show Kd.M (Kd.int .u64) _ _ _ 0 [.int .u64 0] from rfl) (Reps.one (show Kd.M (Kd.int .u64) _ _ _ 0 [.int .u64 0] from rfl) (Reps.one (show Kd.M (Kd.int .u64) _ _ _ 0 [.int .u64 0] from rfl) (Reps.one (show Kd.M (Kd.int .u64) _ _ _ 0 [.int .u64 0] from rfl) (Reps.one (show Kd.M (Kd.int .u64) _ _ _ 0 [.int .u64 0] from rfl) (Reps.one (show Kd.M (Kd.int .u64) _ _ _ 0 [.int .u64 0] from rfl) (Reps.none _ _))))))))); intro v131 w3 ho4 hb hg_ hnew_; clear hg_ hnew_; (first | rw [← Ny130.out] at ho4 | (simp only [Int.reduceToNat] at ho4; rw [← Ny130.out] at ho4)); have n0_ := Aside0.mk (Kd.R_lower ho4 (below_size (by repeat (first | (with_reducible first | exact HB.out | apply below_alloc | apply pw_below_drewN | apply below_drew1) | exact HB.out)))); have n1_ := Aside0.mk (below_step (by repeat (first | (with_reducible first | exact HB.out | apply below_alloc | apply pw_below_drewN | apply below_drew1) | exact HB.out)) hb); clear HB; have HO132 := n0_; have HB := n1_; clear n0_ n1_; clear hb ho4) | ((with_reducible refine gate_dst (N := 18) rfl ?_); refine Kd.R_lit (Kd.int .u64) _ 22 ?hg (N := 18) ?hd (xs := ([Go.bits .and .u64 a0 4294967295, a0 / 4294967296] : List Int)) (inner := [.int .u64 (Go.bits .and .u64 a0 4294967295), .int .u64 (a0 / 4294967296)]) (ok := fun _ => True) (okp := fun _ => True) ?hr ?hp (fun _ hk => hk) trivial (Below.refl _ _) (Nat.le_refl _) (by simp) ?_; (case hd => rfl); (case hg => rfl); (case hr => first | (go_simp; done) | (go_simp; rfl)); (case hp => exact (Reps.one (show Kd.M (Kd.int .u64) _ _ _ (Go.bits .and .u64 a0 4294967295) [.int .u64 (Go.bits .and .u64 a0 4294967295)] from rfl) (Reps.one (show Kd.M (Kd.int .u64) _ _ _ (a0 / 4294967296) [.int .u64 (a0 / 4294967296)] from rfl) (Reps.none _ _)))); intro v134 w5 ho6 hb hg_ hnew_; clear hg_ hnew_; (first | rw [← Ny133.out] at ho6 | (simp only [Int.reduceToNat] at ho6; rw [← Ny133.out] at ho6)); have n0_ := Aside0.mk (Kd.R_elder' (by (with_reducible repeat (first | apply Kd.R_alloc | apply Kd.R_drewN | apply Kd.R_drew)); exact HO132.out) (Kd.R_base ho6) hb); have n1_ := Aside0.mk (Kd.R_lower (Kd.R_new' ho6 (Kd.R_lt (by (with_reducible repeat (first | apply Kd.R_alloc | apply Kd.R_drewN | apply Kd.R_drew)); exact HO132.out))) (below_size (by repeat (first | (with_reducible first | exact HB.out | apply below_alloc | apply pw_below_drewN | apply below_drew1) | exact HB.out)))); have n2_ := Aside0.mk (below_step (by repeat (first | (with_reducible first | exact HB.out | apply below_alloc | apply pw_below_drewN | apply below_drew1) | exact HB.out)) hb); clear HO132; clear HB; have HO132 := n0_; have HO135 := n1_; have HB := n2_; clear n0_ n1_ n2_; clear hb ho6))
  go_loopg [5, 7] k (fun kq v5 v7 w' => ∃ (x5_1 : List Int) (x6_1 : List Int) (x7_1 : Int), v7 = .int .i64 x7_1 ∧ Aside0 (ullageref02_within.l0 kq a1 x5_1 x6_1 x7_1 = some r) ∧ Aside0 (kq ≤ k) ∧ Aside0 (Kd.R (Kd.int .u64) 22 w' w.heap.size (fun k_ => some k_ ≠ (v134 : Value).ownBlock) v5 x5_1) ∧ Aside0 (Kd.R (Kd.int .u64) 22 w' w.heap.size (fun k_ => some k_ ≠ (v5 : Value).ownBlock) v134 x6_1) ∧ Aside0 (Below w.heap.size w w'))
  case atStart => exact ⟨(y130), (y133), (0), (by first | rfl | (simp; done) | (simp [*]; done)), H', ⟨Nat.le_refl _⟩, ⟨by (with_reducible repeat (first | apply Kd.R_alloc | apply Kd.R_drewN | apply Kd.R_drew)); exact Kd.R_mono HO132.out (fun _ hk => hk.2)⟩, ⟨by (with_reducible repeat (first | apply Kd.R_alloc | apply Kd.R_drewN | apply Kd.R_drew)); exact Kd.R_mono HO135.out (fun _ hk => hk.2)⟩, ⟨by repeat (first | (with_reducible first | exact HB.out | apply below_alloc | apply pw_below_drewN | apply below_drew1) | exact HB.out)⟩⟩
  case round =>
    clear H'
    try clear p2
    try clear c5
    obtain ⟨x5_1, x6_1, x7_1, rfl, HA, HK1, HO_5, HO_6, HB⟩ := hrel
    cases gk with
    | zero => exact absurd HA.out (by simp [ullageref02_within.l0])
    | succ k1 =>
      have H := HA.out
      clear HA
      simp only [ullageref02_within.l0] at H
      by_cases c7 : x7_1 < 3
      · rw [if_pos c7] at H
        have c7b0 : decide (x7_1 < 3) = true := decide_eq_true c7
        clear c7
        by_cases c8 : 7 ≤ 35184372088832
        · rw [if_pos c8] at H
          have c8b0 := eq_true c8
          have c8b1 : decide (7 ≤ 35184372088832) = true := decide_eq_true c8
          clear c8
          obtain ⟨y136, hy136⟩ : ∃ y_ : List Int, y_ = (List.replicate 7 0) := ⟨_, rfl⟩
          replace H : (ullageref02_within.l1 k1 a1 x5_1 x6_1 x7_1 y136 0) = some r := by first | (rw [hy136]; with_reducible exact H) | (have H2_ := (Option.bind_some _ _).symm.trans H; rw [hy136]; with_reducible exact H2_) | (have H2_ := (Option.bind_some _ _).symm.trans H; with_reducible exact H2_) | with_reducible exact H | (rw [hy136]; exact H) | exact H
          have Ny136 := Aside0.mk hy136
          clear hy136
          have H' := Aside0.mk H
          clear H
          go_wp2_with (first | ((with_reducible refine gate_dst (N := 23) rfl ?_); refine Kd.R_make (Kd.int .u64) _ 22 rfl (N := 23) rfl 65 _ _ rfl 7 rfl rfl Tryd.underlying65 (.int .u64 0) 8 info22 rfl (by decide) (by omega) 0 (ok := fun _ => True) (okp := fun _ => True) rfl (fun _ hk => hk) trivial (by omega) (by omega) (Below.refl _ _) (Nat.le_refl _) ?_; intro v137 w9 ho10 hb hg_ hnew_; clear hg_ hnew_; (first | rw [← Ny136.out] at ho10 | (simp only [Int.reduceToNat] at ho10; rw [← Ny136.out] at ho10)); have n0_ := Aside0.mk (Kd.R_elder' (by (with_reducible repeat (first | apply Kd.R_alloc | apply Kd.R_drewN | apply Kd.R_drew)); exact HO_5.out) (Kd.R_base ho10) hb); have n1_ := Aside0.mk (Kd.R_elder' (by (with_reducible repeat (first | apply Kd.R_alloc | apply Kd.R_drewN | apply Kd.R_drew)); exact HO_6.out) (Kd.R_base ho10) hb); have n2_ := Aside0.mk (Kd.R_lower (Kd.R_new' (Kd.R_new' ho10 (Kd.R_lt (by (with_reducible repeat (first | apply Kd.R_alloc | apply Kd.R_drewN | apply Kd.R_drew)); exact HO_5.out))) (Kd.R_lt (by (with_reducible repeat (first | apply Kd.R_alloc | apply Kd.R_drewN | apply Kd.R_drew)); exact HO_6.out))) (below_size (by repeat (first | (with_reducible first | exact HB.out | apply below_alloc | apply pw_below_drewN | apply below_drew1) | exact HB.out)))); have n3_ := Aside0.mk (below_step (by repeat (first | (with_reducible first | exact HB.out | apply below_alloc | apply pw_below_drewN | apply below_drew1) | exact HB.out)) hb); clear HO_5; clear HO_6; clear HB; have HO_5 := n0_; have HO_6 := n1_; have HO138 := n2_; have HB := n3_; clear n0_ n1_ n2_ n3_; clear hb ho10))
          go_loopg [9] k1 (fun kq v9 w' => ∃ (x8_2 : List Int) (x9_2 : Int), v9 = .int .i64 x9_2 ∧ Aside0 (ullageref02_within.l1 kq a1 x5_1 x6_1 x7_1 x8_2 x9_2 = some r) ∧ Aside0 (kq ≤ k1) ∧ Aside0 (Kd.R (Kd.int .u64) 22 w' w.heap.size (fun k_ => some k_ ≠ (v134 : Value).ownBlock ∧ some k_ ≠ (v137 : Value).ownBlock) u5 x5_1) ∧ Aside0 (Kd.R (Kd.int .u64) 22 w' w.heap.size (fun k_ => some k_ ≠ (u5 : Value).ownBlock ∧ some k_ ≠ (v137 : Value).ownBlock) v134 x6_1) ∧ Aside0 (Kd.R (Kd.int .u64) 22 w' w.heap.size (fun k_ => some k_ ≠ (u5 : Value).ownBlock ∧ some k_ ≠ (v134 : Value).ownBlock) v137 x8_2) ∧ Aside0 (Below w.heap.size w w'))
          case atStart => exact ⟨(y136), (0), (by first | rfl | (simp; done) | (simp [*]; done)), H', ⟨Nat.le_refl _⟩, ⟨by (with_reducible repeat (first | apply Kd.R_alloc | apply Kd.R_drewN | apply Kd.R_drew)); exact HO_5.out⟩, ⟨by (with_reducible repeat (first | apply Kd.R_alloc | apply Kd.R_drewN | apply Kd.R_drew)); exact HO_6.out⟩, ⟨by (with_reducible repeat (first | apply Kd.R_alloc | apply Kd.R_drewN | apply Kd.R_drew)); exact Kd.R_mono HO138.out (fun _ hk => ⟨hk.1.2, hk.2⟩)⟩, ⟨by repeat (first | (with_reducible first | exact HB.out | apply below_alloc | apply pw_below_drewN | apply below_drew1) | exact HB.out)⟩⟩
          case round =>
            clear H'
            try clear p2
            try clear c5
            try clear c7
            try clear c7b0
            try clear c8
            try clear c8b0
            try clear c8b1
            try clear p2
            obtain ⟨x8_2, x9_2, rfl, HA, HK2, HO_5, HO_6, HO_8, HB⟩ := hrel
            cases gk with
            | zero => exact absurd HA.out (by simp [ullageref02_within.l1])
            | succ k2 =>
              have H := HA.out
              clear HA
              simp only [ullageref02_within.l1] at H
              by_cases c11 : x9_2 < 5
              · rw [if_pos c11] at H
                have c11b0 : decide (x9_2 < 5) = true := decide_eq_true c11
                clear c11
                have H' := Aside0.mk H
                clear H
                go_wp2
                go_loopg [10] k2 (fun kq v10 w' => ∃ (x8_3 : List Int) (x10_3 : Int), v10 = .int .i64 x10_3 ∧ Aside0 (ullageref02_within.l2 kq a1 x5_1 x6_1 x7_1 x8_3 x9_2 x10_3 = some r) ∧ Aside0 (kq ≤ k2) ∧ Aside0 (Kd.R (Kd.int .u64) 22 w' w.heap.size (fun k_ => some k_ ≠ (v134 : Value).ownBlock ∧ some k_ ≠ (v137 : Value).ownBlock) u5 x5_1) ∧ Aside0 (Kd.R (Kd.int .u64) 22 w' w.heap.size (fun k_ => some k_ ≠ (u5 : Value).ownBlock ∧ some k_ ≠ (v137 : Value).ownBlock) v134 x6_1) ∧ Aside0 (Kd.R (Kd.int .u64) 22 w' w.heap.size (fun k_ => some k_ ≠ (u5 : Value).ownBlock ∧ some k_ ≠ (v134 : Value).ownBlock) v137 x8_3) ∧ Aside0 (Below w.heap.size w w'))
                case atStart => exact ⟨(x8_2), (0), (by first | rfl | (simp; done) | (simp [*]; done)), H', ⟨Nat.le_refl _⟩, ⟨by (with_reducible repeat (first | apply Kd.R_alloc | apply Kd.R_drewN | apply Kd.R_drew)); exact HO_5.out⟩, ⟨by (with_reducible repeat (first | apply Kd.R_alloc | apply Kd.R_drewN | apply Kd.R_drew)); exact HO_6.out⟩, ⟨by (with_reducible repeat (first | apply Kd.R_alloc | apply Kd.R_drewN | apply Kd.R_drew)); exact HO_8.out⟩, ⟨by repeat (first | (with_reducible first | exact HB.out | apply below_alloc | apply pw_below_drewN | apply below_drew1) | exact HB.out)⟩⟩
                case round =>
                  clear H'
                  try clear c1
                  try clear p2
                  try clear c5
                  try clear c7
                  try clear c7b0
                  try clear c8
                  try clear c8b0
                  try clear c8b1
                  try clear c11
                  try clear c11b0
                  try clear p2
                  obtain ⟨x8_3, x10_3, rfl, HA, HK3, HO_5, HO_6, HO_8, HB⟩ := hrel
                  cases gk with
                  | zero => exact absurd HA.out (by simp [ullageref02_within.l2])
                  | succ k3 =>
                    have H := HA.out
                    clear HA
                    simp only [ullageref02_within.l2] at H
                    by_cases c12 : x10_3 < 2
                    · rw [if_pos c12] at H
                      have c12b0 : decide (x10_3 < 2) = true := decide_eq_true c12
                      clear c12
                      by_cases c13 : 0 ≤ x9_2
                      · rw [if_pos c13] at H
                        have c13b0 : decide (0 ≤ x9_2) = true := decide_eq_true c13
                        clear c13
                        by_cases c14 : x9_2 < (x5_1.length : Int)
                        · rw [if_pos c14] at H
                          have c14b0 : decide (x9_2 < (x5_1.length : Int)) = true := decide_eq_true c14
                          clear c14
                          by_cases c15 : 0 ≤ x10_3
                          · rw [if_pos c15] at H
                            have c15b0 : decide (0 ≤ x10_3) = true := decide_eq_true c15
                            clear c15
                            by_cases c16 : x10_3 < (x6_1.length : Int)
                            · rw [if_pos c16] at H
                              have c16b0 : decide (x10_3 < (x6_1.length : Int)) = true := decide_eq_true c16
                              clear c16
                              obtain ⟨ji17, hji17⟩ : ∃ j_ : Int, (wrap64 (x9_2 + x10_3)) = j_ := ⟨_, rfl⟩
                              replace H : (if 0 ≤ (ji17) then (if (ji17) < (x8_3.length : Int) then ((some (x8_3.set ((ji17) : Int).toNat (IntKind.u64.wrap ((rd x8_3 (ji17)) + (Go.bits .and .u64 (IntKind.u64.wrap ((rd x5_1 x9_2) * (rd x6_1 x10_3))) 4294967295))) : List Int)).bind fun y142 => (if 0 ≤ (wrap64 ((ji17) + 1)) then (if (wrap64 ((ji17) + 1)) < (x8_3.length : Int) then (ullageref02_within.l2 k3 a1 x5_1 x6_1 x7_1 (y142.set ((wrap64 ((ji17) + 1)) : Int).toNat (IntKind.u64.wrap ((rd y142 (wrap64 ((ji17) + 1))) + ((IntKind.u64.wrap ((rd x5_1 x9_2) * (rd x6_1 x10_3))) / 4294967296)))) x9_2 (wrap64 (x10_3 + 1))) else (none)) else (none))) else (none)) else (none)) = some r := by first | (rw [hji17] at H; exact H) | (simp only [hji17] at H ⊢; exact H)
                              have hji17w : (IntKind.i64.wrap (x9_2 + x10_3)) = ji17 := (i64_w _).trans hji17
                              by_cases c18 : 0 ≤ (ji17)
                              · rw [if_pos c18] at H
                                have c18b0 : decide (0 ≤ (ji17)) = true := decide_eq_true c18
                                clear c18
                                by_cases c19 : (ji17) < (x8_3.length : Int)
                                · rw [if_pos c19] at H
                                  have c19b0 : decide ((ji17) < (x8_3.length : Int)) = true := decide_eq_true c19
                                  clear c19
                                  obtain ⟨y142, hy142⟩ : ∃ y_ : List Int, y_ = (x8_3.set ((ji17) : Int).toNat (IntKind.u64.wrap ((rd x8_3 (ji17)) + (Go.bits .and .u64 (IntKind.u64.wrap ((rd x5_1 x9_2) * (rd x6_1 x10_3))) 4294967295)))) := ⟨_, rfl⟩
                                  replace H : (if 0 ≤ (wrap64 ((ji17) + 1)) then (if (wrap64 ((ji17) + 1)) < (x8_3.length : Int) then (ullageref02_within.l2 k3 a1 x5_1 x6_1 x7_1 (y142.set ((wrap64 ((ji17) + 1)) : Int).toNat (IntKind.u64.wrap ((rd y142 (wrap64 ((ji17) + 1))) + ((IntKind.u64.wrap ((rd x5_1 x9_2) * (rd x6_1 x10_3))) / 4294967296)))) x9_2 (wrap64 (x10_3 + 1))) else (none)) else (none)) = some r := by first | (rw [hy142]; with_reducible exact H) | (have H2_ := (Option.bind_some _ _).symm.trans H; rw [hy142]; with_reducible exact H2_) | (have H2_ := (Option.bind_some _ _).symm.trans H; with_reducible exact H2_) | with_reducible exact H | (rw [hy142]; exact H) | exact H
                                  have Ny142 := Aside0.mk hy142
                                  clear hy142
                                  obtain ⟨ji21, hji21⟩ : ∃ j_ : Int, (wrap64 ((ji17) + 1)) = j_ := ⟨_, rfl⟩
                                  replace H : (if 0 ≤ (ji21) then (if (ji21) < (x8_3.length : Int) then (ullageref02_within.l2 k3 a1 x5_1 x6_1 x7_1 (y142.set ((ji21) : Int).toNat (IntKind.u64.wrap ((rd y142 (ji21)) + ((IntKind.u64.wrap ((rd x5_1 x9_2) * (rd x6_1 x10_3))) / 4294967296)))) x9_2 (wrap64 (x10_3 + 1))) else (none)) else (none)) = some r := by first | (rw [hji21] at H; exact H) | (simp only [hji21] at H ⊢; exact H)
                                  have hji21w : (IntKind.i64.wrap ((ji17) + 1)) = ji21 := (i64_w _).trans hji21
                                  by_cases c22 : 0 ≤ (ji21)
                                  · rw [if_pos c22] at H
                                    have c22b0 : decide (0 ≤ (ji21)) = true := decide_eq_true c22
                                    clear c22
                                    by_cases c23 : (ji21) < (x8_3.length : Int)
                                    · rw [if_pos c23] at H
                                      have c23b0 : decide ((ji21) < (x8_3.length : Int)) = true := decide_eq_true c23
                                      clear c23
                                      obtain ⟨y144, hy144⟩ : ∃ y_ : List Int, y_ = (y142.set ((ji21) : Int).toNat (IntKind.u64.wrap ((rd y142 (ji21)) + ((IntKind.u64.wrap ((rd x5_1 x9_2) * (rd x6_1 x10_3))) / 4294967296)))) := ⟨_, rfl⟩
                                      replace H : (ullageref02_within.l2 k3 a1 x5_1 x6_1 x7_1 y144 x9_2 (wrap64 (x10_3 + 1))) = some r := by first | (rw [hy144]; with_reducible exact H) | (have H2_ := (Option.bind_some _ _).symm.trans H; rw [hy144]; with_reducible exact H2_) | (have H2_ := (Option.bind_some _ _).symm.trans H; with_reducible exact H2_) | with_reducible exact H | (rw [hy144]; exact H) | exact H
                                      have Ny144 := Aside0.mk hy144
                                      clear hy144
                                      have H' := Aside0.mk H
                                      clear H
                                      try go_wp2
                                      have n0_ := Aside0.mk (Kd.R_drew HO_5.out)
                                      have n1_ := Aside0.mk (Kd.R_drew HO_6.out)
                                      have n2_ := Aside0.mk (Kd.R_drew HO_8.out)
                                      have n3_ := Aside0.mk (below_drew1 HB.out)
                                      clear HO_5
                                      clear HO_6
                                      clear HO_8
                                      clear HB
                                      have HO_5 := n0_
                                      have HO_6 := n1_
                                      have HO_8 := n2_
                                      have HB := n3_
                                      clear n0_ n1_ n2_ n3_
                                      obtain ⟨Ao26, co26, eo26⟩ := Kd.R_slice HO_5.out
                                      (first | subst eo26 | (injection eo26 with f1_ f2_ f3_; have f4_ := f1_.symm; have f5_ := f3_.symm; clear f1_ f2_ f3_; subst f4_; subst f5_))
                                      have p139 : 0 ≤ (x9_2 : Int) := of_decide_eq_true (by first | (with_reducible assumption) | assumption)
                                      have q139 : x9_2 < (x5_1.length : Int) := of_decide_eq_true (by first | (with_reducible assumption) | assumption)
                                      obtain ⟨ad139, e139, hx139_0⟩ := Kd.at_int (Kd.R_reads' HO_5.out).2.2 x9_2 p139 q139
                                      cases e139
                                      replace p139 := eq_true p139
                                      replace q139 := eq_true q139
                                      obtain ⟨Ao27, co27, eo27⟩ := Kd.R_slice HO_6.out
                                      (first | subst eo27 | (injection eo27 with f1_ f2_ f3_; have f4_ := f1_.symm; have f5_ := f3_.symm; clear f1_ f2_ f3_; subst f4_; subst f5_))
                                      have p140 : 0 ≤ (x10_3 : Int) := of_decide_eq_true (by first | (with_reducible assumption) | assumption)
                                      have q140 : x10_3 < (x6_1.length : Int) := of_decide_eq_true (by first | (with_reducible assumption) | assumption)
                                      obtain ⟨ad140, e140, hx140_0⟩ := Kd.at_int (Kd.R_reads' HO_6.out).2.2 x10_3 p140 q140
                                      cases e140
                                      replace p140 := eq_true p140
                                      replace q140 := eq_true q140
                                      refine start_ (n := 10) (S := fun w' => w'.cell? (ad139.add (x9_2).toNat) = some (.int .u64 (rd x5_1 x9_2)) ∧ w'.cell? (ad140.add (x10_3).toNat) = some (.int .u64 (rd x6_1 x10_3))) (ds := []) #[false, false, false, false, false, false, false, false, false, false] (by kernel_rfl) rfl rfl ⟨hx139_0, hx140_0⟩ (fun hHeld => ?_); refine with_tabW ullageref02_within.tab13 ullageref02_within.bits13 (fun HT_ HW_ => ?_)
                                      generalize wr.drew = w25 at HO_5 HO_6 HO_8 HB hx139_0 hx140_0 hHeld ⊢
                                      refine pure_ (i := 0) (N := some 32) (v := ?_) (a' := ?_) #[true, false, false, false, false, false, false, false, false, false] rfl rfl (any_of HT_.out (by kernel_rfl)) (fun _ _ _ h => h) (Or.inl ⟨by rfl, ?_⟩) ?_ ?_
                                      rotate_left
                                      · intro w'
                                        go_simp
                                        with_reducible rfl
                                      rotate_left
                                      · simp only [Act.put, List.setIfInBounds_toArray, List.set_cons_zero, List.set_cons_succ, i64_w, i32_w]
                                        rfl
                                      refine pure_ (i := 1) (N := some 33) (v := ?_) (a' := ?_) #[true, true, false, false, false, false, false, false, false, false] rfl rfl (any_of HT_.out (by kernel_rfl)) (fun _ _ _ h => h) (Or.inl ⟨by rfl, ?_⟩) ?_ ?_
                                      rotate_left
                                      · intro w'
                                        go_simp
                                        with_reducible rfl
                                      rotate_left
                                      · simp only [Act.put, List.setIfInBounds_toArray, List.set_cons_zero, List.set_cons_succ, i64_w, i32_w]
                                        rfl
                                      refine pure_ (i := 2) (N := some 34) (v := ?_) (a' := ?_) #[true, true, true, false, false, false, false, false, false, false] rfl rfl (any_of HT_.out (by kernel_rfl)) (fun _ _ _ h => h) (Or.inl ⟨by rfl, ?_⟩) ?_ ?_
                                      rotate_left
                                      · intro w'
                                        go_simp
                                        with_reducible rfl
                                      rotate_left
                                      · simp only [Act.put, List.setIfInBounds_toArray, List.set_cons_zero, List.set_cons_succ, i64_w, i32_w]
                                        rfl
                                      refine pure_ (i := 4) (N := some 36) (v := ?_) (a' := ?_) #[true, true, true, false, true, false, false, false, false, false] rfl rfl (any_of HT_.out (by kernel_rfl)) (fun _ _ _ h => h) (Or.inl ⟨by rfl, ?_⟩) ?_ ?_
                                      rotate_left
                                      · intro w'
                                        go_simp
                                        with_reducible rfl
                                      rotate_left
                                      · simp only [Act.put, List.setIfInBounds_toArray, List.set_cons_zero, List.set_cons_succ, i64_w, i32_w]
                                        rfl
                                      refine pure_ (i := 5) (N := some 37) (v := ?_) (a' := ?_) #[true, true, true, false, true, true, false, false, false, false] rfl rfl (any_of HT_.out (by kernel_rfl)) (fun _ _ _ h => h) (Or.inl ⟨by rfl, ?_⟩) ?_ ?_
                                      rotate_left
                                      · intro w'
                                        go_simp
                                        with_reducible rfl
                                      rotate_left
                                      · simp only [Act.put, List.setIfInBounds_toArray, List.set_cons_zero, List.set_cons_succ, i64_w, i32_w]
                                        rfl
                                      refine pure_ (i := 6) (N := some 38) (v := ?_) (a' := ?_) #[true, true, true, false, true, true, true, false, false, false] rfl rfl (any_of HT_.out (by kernel_rfl)) (fun _ _ _ h => h) (Or.inl ⟨by rfl, ?_⟩) ?_ ?_
                                      rotate_left
                                      · intro w'
                                        go_simp
                                        with_reducible rfl
                                      rotate_left
                                      · simp only [Act.put, List.setIfInBounds_toArray, List.set_cons_zero, List.set_cons_succ, i64_w, i32_w]
                                        rfl
                                      refine take_ (i := 3) (N := some 35) (v := ?_) (a' := ?_) #[true, true, true, true, true, true, true, false, false, false] rfl rfl (take_ofW HT_.out HW_.out (by kernel_rfl)) (fun _ _ _ h => h) (Or.inl ⟨by rfl, ?_⟩) hHeld ?_ ?_
                                      rotate_left
                                      · rintro w' ⟨s0, s1⟩
                                        go_simp
                                        with_reducible rfl
                                      rotate_left
                                      · simp only [Act.put, List.setIfInBounds_toArray, List.set_cons_zero, List.set_cons_succ, i64_w, i32_w]
                                        rfl
                                      refine take_ (i := 7) (N := some 39) (v := ?_) (a' := ?_) #[true, true, true, true, true, true, true, true, false, false] rfl rfl (take_ofW HT_.out HW_.out (by kernel_rfl)) (fun _ _ _ h => h) (Or.inl ⟨by rfl, ?_⟩) hHeld ?_ ?_
                                      rotate_left
                                      · rintro w' ⟨s0, s1⟩
                                        go_simp
                                        with_reducible rfl
                                      rotate_left
                                      · simp only [Act.put, List.setIfInBounds_toArray, List.set_cons_zero, List.set_cons_succ, i64_w, i32_w]
                                        rfl
                                      refine pure_ (i := 8) (N := some 40) (v := ?_) (a' := ?_) #[true, true, true, true, true, true, true, true, true, false] rfl rfl (any_of HT_.out (by kernel_rfl)) (fun _ _ _ h => h) (Or.inl ⟨by rfl, ?_⟩) ?_ ?_
                                      rotate_left
                                      · intro w'
                                        go_simp
                                        with_reducible rfl
                                      rotate_left
                                      · simp only [Act.put, List.setIfInBounds_toArray, List.set_cons_zero, List.set_cons_succ, i64_w, i32_w]
                                        rfl
                                      refine pure_ (i := 9) (N := some 11) (v := ?_) (a' := ?_) #[true, true, true, true, true, true, true, true, true, true] rfl rfl (any_of HT_.out (by kernel_rfl)) (fun _ _ _ h => h) (Or.inl ⟨by rfl, ?_⟩) ?_ ?_
                                      rotate_left
                                      · intro w'
                                        go_simp
                                        with_reducible rfl
                                      rotate_left
                                      · simp only [Act.put, List.setIfInBounds_toArray, List.set_cons_zero, List.set_cons_succ, i64_w, i32_w]
                                        rfl
                                      refine done_ (done_of HT_.out (by kernel_rfl)) ?_
                                      obtain ⟨Ao28, co28, eo28⟩ := Kd.R_slice HO_8.out
                                      subst eo28
                                      have p141 : 0 ≤ ((ji17) : Int) := of_decide_eq_true (by first | (with_reducible assumption) | assumption)
                                      have q141 : (ji17) < (x8_3.length : Int) := of_decide_eq_true (by first | (with_reducible assumption) | assumption)
                                      obtain ⟨ad141, e141, hx141_0⟩ := Kd.at_int (Kd.R_reads' HO_8.out).2.2 (ji17) p141 q141
                                      cases e141
                                      replace p141 := eq_true p141
                                      replace q141 := eq_true q141
                                      have p20 : 0 ≤ ((ji17) : Int) := of_decide_eq_true (by first | (with_reducible assumption) | assumption)
                                      have q20 : ((ji17) : Int) < ((x8_3.length : Int) : Int) := of_decide_eq_true (by first | (with_reducible assumption) | assumption)
                                      obtain ⟨go20, co20, eo20, gb20, gl20, cl20, HG20⟩ := Kd.R_form HO_8.out (by omega)
                                      (first | cases eo20 | (injection eo20 with ea_ en_ ec_; (first | subst ea_ | (injection ea_ with ea_; subst ea_)); subst ec_; clear en_))
                                      have GB20 := Aside0.mk gb20
                                      have GG20 := Aside0.mk HG20
                                      clear gb20 gl20 HG20
                                      (first | simp only [add_plain] at hx141_0 | skip)
                                      obtain ⟨hx20_0, hf20_0⟩ := Kd.R_celln 0 HO_8.out ((ji17) : Int) p20 q20
                                      replace p20 := eq_true p20
                                      replace q20 := eq_true q20
                                      obtain ⟨hy29_, hz29_⟩ := Kd.R_celln 0 HO_8.out ((ji17) : Int) (of_decide_eq_true (by first | (with_reducible assumption) | assumption)) (of_decide_eq_true (by first | (with_reducible assumption) | assumption))
                                      have HP29 := Kd.R_putg HO_8.out ((ji17) : Int) (IntKind.u64.wrap ((rd x8_3 (ji17)) + (Go.bits .and .u64 (IntKind.u64.wrap ((rd x5_1 x9_2) * (rd x6_1 x10_3))) 4294967295)))
                                      try go_wp2_with (first | ((with_reducible refine gate_store (t := 22) (p := 54) rfl ?_); refine store_event (t := 22) (p := 54) (v := ?vo_w30) (w1 := (w25.setCell ⟨go20, ((ji17) : Int).toNat, none⟩ (.int .u64 (IntKind.u64.wrap ((rd x8_3 (ji17)) + (Go.bits .and .u64 (IntKind.u64.wrap ((rd x5_1 x9_2) * (rd x6_1 x10_3))) 4294967295)))))) ?hg ?ho ?hn ?hr ?_; (case ho => rfl); (case hg => rfl); (case hn => rfl); (case hr => first | (go_simp; done) | (go_simp; rfl)); intro w30 hw; have hg : w25.grownBy w30 (some go20) := (by rw [hw]; exact HP29.2); have hp_ : Kd.R (Kd.int .u64) 22 w30 w.heap.size (fun k_ => some k_ ≠ (.slice (some ad139) x5_1.length co26 : Value).ownBlock ∧ some k_ ≠ (.slice (some ad140) x6_1.length co27 : Value).ownBlock) (.slice (some ⟨go20, 0, none⟩) x8_3.length co28) y142 := (by rw [hw, Ny142.out]; exact HP29.1); clear HP29; have n0_ := Aside0.mk (Kd.R_after (v := (.slice (some ⟨go20, 0, none⟩) x8_3.length co28)) (v1 := (.slice (some ⟨go20, 0, none⟩) x8_3.length co28)) (ok := (fun k_ => some k_ ≠ (.slice (some ad140) x6_1.length co27 : Value).ownBlock)) (by (with_reducible repeat (first | apply Kd.R_alloc | apply Kd.R_drewN | apply Kd.R_drew)); exact HO_5.out) hg (.inl rfl)); have n1_ := Aside0.mk (Kd.R_after (v := (.slice (some ⟨go20, 0, none⟩) x8_3.length co28)) (v1 := (.slice (some ⟨go20, 0, none⟩) x8_3.length co28)) (ok := (fun k_ => some k_ ≠ (.slice (some ad139) x5_1.length co26 : Value).ownBlock)) (by (with_reducible repeat (first | apply Kd.R_alloc | apply Kd.R_drewN | apply Kd.R_drew)); exact HO_6.out) hg (.inl rfl)); have n2_ := Aside0.mk (hp_); have n3_ := Aside0.mk ((by rw [hw]; exact below_set (HB.out) GB20.out : Below w.heap.size w w30)); clear HO_5; clear HO_6; clear HO_8; clear HB; have HO_5 := n0_; have HO_6 := n1_; have HO_8 := n2_; have HB := n3_; clear n0_ n1_ n2_ n3_; clear hg hw hp_; have p143 : 0 ≤ ((ji21) : Int) := of_decide_eq_true (by first | (with_reducible assumption) | assumption); have q143 : (ji21) < (y142.length : Int) := (by have h_ : ((ji21) : Int) < ((x8_3.length : Int) : Int) := of_decide_eq_true (by first | (with_reducible assumption) | assumption); first | (have e_ := (Kd.R_reads' HO_8.out).1; omega) | simpa only [Ny142.out, List.length_set] using h_); have ql143 : (((ji21) : Int) < ((x8_3.length : Int) : Int)) = True := eq_true (of_decide_eq_true (by first | (with_reducible assumption) | assumption)); obtain ⟨ad143, e143, hx143_0⟩ := Kd.at_int (Kd.R_reads' HO_8.out).2.2 (ji21) p143 q143; obtain rfl : (⟨go20, 0, none⟩ : Addr) = ad143 := (by injection e143); (first | simp only [add_plain] at hx143_0 | simp only [add_at] at hx143_0 | simp only [Addr.add, Nat.zero_add] at hx143_0 | skip); replace p143 := eq_true p143; replace q143 := eq_true q143; have p24 : 0 ≤ ((ji21) : Int) := of_decide_eq_true (by first | (with_reducible assumption) | assumption); have q24 : ((ji21) : Int) < ((x8_3.length : Int) : Int) := of_decide_eq_true (by first | (with_reducible assumption) | assumption); obtain ⟨hx24_0, hf24_0⟩ := Kd.R_celln 0 HO_8.out ((ji21) : Int) p24 q24; replace p24 := eq_true p24; replace q24 := eq_true q24; obtain ⟨hy31_, hz31_⟩ := Kd.R_celln 0 HO_8.out ((ji21) : Int) (of_decide_eq_true (by first | (with_reducible assumption) | assumption)) (of_decide_eq_true (by first | (with_reducible assumption) | assumption)); have HP31 := Kd.R_putg HO_8.out ((ji21) : Int) (IntKind.u64.wrap ((rd y142 (ji21)) + ((IntKind.u64.wrap ((rd x5_1 x9_2) * (rd x6_1 x10_3))) / 4294967296)))) | ((with_reducible refine gate_store (t := 22) (p := 70) rfl ?_); refine store_event (t := 22) (p := 70) (v := ?vo_w32) (w1 := (w30.setCell ⟨go20, ((ji21) : Int).toNat, none⟩ (.int .u64 (IntKind.u64.wrap ((rd y142 (ji21)) + ((IntKind.u64.wrap ((rd x5_1 x9_2) * (rd x6_1 x10_3))) / 4294967296)))))) ?hg ?ho ?hn ?hr ?_; (case ho => rfl); (case hg => rfl); (case hn => rfl); (case hr => first | (go_simp; done) | (go_simp; rfl)); intro w32 hw; have hg : w30.grownBy w32 (some go20) := (by rw [hw]; exact HP31.2); have hp_ : Kd.R (Kd.int .u64) 22 w32 w.heap.size (fun k_ => some k_ ≠ (.slice (some ad139) x5_1.length co26 : Value).ownBlock ∧ some k_ ≠ (.slice (some ad140) x6_1.length co27 : Value).ownBlock) (.slice (some ⟨go20, 0, none⟩) x8_3.length co28) y144 := (by rw [hw, Ny144.out]; exact HP31.1); clear HP31; have n0_ := Aside0.mk (Kd.R_after (v := (.slice (some ⟨go20, 0, none⟩) x8_3.length co28)) (v1 := (.slice (some ⟨go20, 0, none⟩) x8_3.length co28)) (ok := (fun k_ => some k_ ≠ (.slice (some ad140) x6_1.length co27 : Value).ownBlock)) (by (with_reducible repeat (first | apply Kd.R_alloc | apply Kd.R_drewN | apply Kd.R_drew)); exact HO_5.out) hg (.inl rfl)); have n1_ := Aside0.mk (Kd.R_after (v := (.slice (some ⟨go20, 0, none⟩) x8_3.length co28)) (v1 := (.slice (some ⟨go20, 0, none⟩) x8_3.length co28)) (ok := (fun k_ => some k_ ≠ (.slice (some ad139) x5_1.length co26 : Value).ownBlock)) (by (with_reducible repeat (first | apply Kd.R_alloc | apply Kd.R_drewN | apply Kd.R_drew)); exact HO_6.out) hg (.inl rfl)); have n2_ := Aside0.mk (hp_); have n3_ := Aside0.mk ((by rw [hw]; exact below_set (HB.out) GB20.out : Below w.heap.size w w32)); clear HO_5; clear HO_6; clear HO_8; clear HB; have HO_5 := n0_; have HO_6 := n1_; have HO_8 := n2_; have HB := n3_; clear n0_ n1_ n2_ n3_; clear hg hw hp_))
                                      go_roundg k3
                                      case measure => have := HK1.out; have := HK2.out; have := HK3.out; omega
                                      case rel => exact ⟨(y144), (wrap64 (x10_3 + 1)), (by first | rfl | (simp; done) | (simp [*]; done)), H', ⟨by have := HK1.out; have := HK2.out; have := HK3.out; omega⟩, ⟨by (with_reducible repeat (first | apply Kd.R_alloc | apply Kd.R_drewN | apply Kd.R_drew)); exact HO_5.out⟩, ⟨by (with_reducible repeat (first | apply Kd.R_alloc | apply Kd.R_drewN | apply Kd.R_drew)); exact HO_6.out⟩, ⟨by (with_reducible repeat (first | apply Kd.R_alloc | apply Kd.R_drewN | apply Kd.R_drew)); exact HO_8.out⟩, ⟨by repeat (first | (with_reducible first | exact HB.out | apply below_alloc | apply pw_below_drewN | apply below_drew1) | exact HB.out)⟩⟩
                                    · rw [if_neg c23] at H
                                      exact absurd H (by simp)
                                  · rw [if_neg c22] at H
                                    exact absurd H (by simp)
                                · rw [if_neg c19] at H
                                  exact absurd H (by simp)
                              · rw [if_neg c18] at H
                                exact absurd H (by simp)
                            · rw [if_neg c16] at H
                              exact absurd H (by simp)
                          · rw [if_neg c15] at H
                            exact absurd H (by simp)
                        · rw [if_neg c14] at H
                          exact absurd H (by simp)
                      · rw [if_neg c13] at H
                        exact absurd H (by simp)
                    · rw [if_neg c12] at H
                      have c12b0 : decide (x10_3 < 2) = false := decide_eq_false c12
                      clear c12
                      have H' := Aside0.mk H
                      clear H
                      go_wp2
                      go_roundg k3
                      case measure => have := HK1.out; have := HK2.out; have := HK3.out; omega
                      case rel => exact ⟨(x8_3), (wrap64 (x9_2 + 1)), (by first | rfl | (simp; done) | (simp [*]; done)), H', ⟨by have := HK1.out; have := HK2.out; have := HK3.out; omega⟩, ⟨by (with_reducible repeat (first | apply Kd.R_alloc | apply Kd.R_drewN | apply Kd.R_drew)); exact HO_5.out⟩, ⟨by (with_reducible repeat (first | apply Kd.R_alloc | apply Kd.R_drewN | apply Kd.R_drew)); exact HO_6.out⟩, ⟨by (with_reducible repeat (first | apply Kd.R_alloc | apply Kd.R_drewN | apply Kd.R_drew)); exact HO_8.out⟩, ⟨by repeat (first | (with_reducible first | exact HB.out | apply below_alloc | apply pw_below_drewN | apply below_drew1) | exact HB.out)⟩⟩
              · rw [if_neg c11] at H
                have c11b0 : decide (x9_2 < 5) = false := decide_eq_false c11
                clear c11
                have H' := Aside0.mk H
                clear H
                go_wp2
                go_loopg [12] k2 (fun kq v12 w' => ∃ (x8_3 : List Int) (x12_3 : Int), v12 = .int .i64 x12_3 ∧ Aside0 (ullageref02_within.l3 kq a1 x6_1 x7_1 x8_3 x12_3 = some r) ∧ Aside0 (kq ≤ k2) ∧ Aside0 (Kd.R (Kd.int .u64) 22 w' w.heap.size (fun k_ => some k_ ≠ (v137 : Value).ownBlock) v134 x6_1) ∧ Aside0 (Kd.R (Kd.int .u64) 22 w' w.heap.size (fun k_ => some k_ ≠ (v134 : Value).ownBlock) v137 x8_3) ∧ Aside0 (Below w.heap.size w w'))
                case atStart => exact ⟨(x8_2), (0), (by first | rfl | (simp; done) | (simp [*]; done)), H', ⟨Nat.le_refl _⟩, ⟨by (with_reducible repeat (first | apply Kd.R_alloc | apply Kd.R_drewN | apply Kd.R_drew)); exact Kd.R_mono HO_6.out (fun _ hk => hk.2)⟩, ⟨by (with_reducible repeat (first | apply Kd.R_alloc | apply Kd.R_drewN | apply Kd.R_drew)); exact Kd.R_mono HO_8.out (fun _ hk => hk.2)⟩, ⟨by repeat (first | (with_reducible first | exact HB.out | apply below_alloc | apply pw_below_drewN | apply below_drew1) | exact HB.out)⟩⟩
                case round =>
                  clear H'
                  try clear c1
                  try clear p1
                  try clear q1
                  try clear hx1
                  try clear c2
                  try clear p2
                  try clear q2
                  try clear hx2
                  try clear hf2
                  try clear c5
                  try clear p6
                  try clear c7
                  try clear c7b0
                  try clear c8
                  try clear c8b0
                  try clear c8b1
                  try clear c11
                  try clear c11b0
                  try clear c12
                  try clear c12b0
                  try clear c13
                  try clear c13b0
                  try clear p13
                  try clear q13
                  try clear hx13
                  try clear c14
                  try clear c14b0
                  try clear p14
                  try clear q14
                  try clear hx14
                  try clear c15
                  try clear c15b0
                  try clear c16
                  try clear c16b0
                  try clear c18
                  try clear c18b0
                  try clear c19
                  try clear c19b0
                  try clear p20
                  try clear q20
                  try clear hx20
                  try clear hf20
                  try clear c22
                  try clear c22b0
                  try clear c23
                  try clear c23b0
                  try clear p24
                  try clear q24
                  try clear hx24
                  try clear hf24
                  try clear hx139_0
                  try clear hx140_0
                  try clear hx141_0
                  try clear hx143_0
                  try clear hx20_0
                  try clear hx24_0
                  try clear p139
                  try clear p140
                  try clear p141
                  try clear p143
                  try clear p2
                  try clear p20
                  try clear p24
                  try clear q139
                  try clear q140
                  try clear q141
                  try clear q143
                  try clear q20
                  try clear q24
                  obtain ⟨x8_3, x12_3, rfl, HA, HK3, HO_6, HO_8, HB⟩ := hrel
                  cases gk with
                  | zero => exact absurd HA.out (by simp [ullageref02_within.l3])
                  | succ k3 =>
                    have H := HA.out
                    clear HA
                    simp only [ullageref02_within.l3] at H
                    by_cases c33 : x12_3 < 6
                    · rw [if_pos c33] at H
                      have c33b0 : decide (x12_3 < 6) = true := decide_eq_true c33
                      clear c33
                      obtain ⟨ji34, hji34⟩ : ∃ j_ : Int, (wrap64 (x12_3 + 1)) = j_ := ⟨_, rfl⟩
                      replace H : (if 0 ≤ (ji34) then (if (ji34) < (x8_3.length : Int) then (if 0 ≤ x12_3 then (if x12_3 < (x8_3.length : Int) then ((some (x8_3.set ((ji34) : Int).toNat (IntKind.u64.wrap ((rd x8_3 (ji34)) + ((rd x8_3 x12_3) / 4294967296))) : List Int)).bind fun y147 => (ullageref02_within.l3 k3 a1 x6_1 x7_1 (y147.set (x12_3 : Int).toNat (Go.bits .and .u64 (rd y147 x12_3) 4294967295)) ji34)) else (none)) else (none)) else (none)) else (none)) = some r := by first | (rw [hji34] at H; exact H) | (simp only [hji34] at H ⊢; exact H)
                      have hji34w : (IntKind.i64.wrap (x12_3 + 1)) = ji34 := (i64_w _).trans hji34
                      by_cases c35 : 0 ≤ (ji34)
                      · rw [if_pos c35] at H
                        have c35b0 : decide (0 ≤ (ji34)) = true := decide_eq_true c35
                        clear c35
                        by_cases c36 : (ji34) < (x8_3.length : Int)
                        · rw [if_pos c36] at H
                          have c36b0 : decide ((ji34) < (x8_3.length : Int)) = true := decide_eq_true c36
                          clear c36
                          by_cases c37 : 0 ≤ x12_3
                          · rw [if_pos c37] at H
                            have c37b0 : decide (0 ≤ x12_3) = true := decide_eq_true c37
                            clear c37
                            by_cases c38 : x12_3 < (x8_3.length : Int)
                            · rw [if_pos c38] at H
                              have c38b0 : decide (x12_3 < (x8_3.length : Int)) = true := decide_eq_true c38
                              clear c38
                              obtain ⟨y147, hy147⟩ : ∃ y_ : List Int, y_ = (x8_3.set ((ji34) : Int).toNat (IntKind.u64.wrap ((rd x8_3 (ji34)) + ((rd x8_3 x12_3) / 4294967296)))) := ⟨_, rfl⟩
                              replace H : (ullageref02_within.l3 k3 a1 x6_1 x7_1 (y147.set (x12_3 : Int).toNat (Go.bits .and .u64 (rd y147 x12_3) 4294967295)) ji34) = some r := by first | (rw [hy147]; with_reducible exact H) | (have H2_ := (Option.bind_some _ _).symm.trans H; rw [hy147]; with_reducible exact H2_) | (have H2_ := (Option.bind_some _ _).symm.trans H; with_reducible exact H2_) | with_reducible exact H | (rw [hy147]; exact H) | exact H
                              have Ny147 := Aside0.mk hy147
                              clear hy147
                              obtain ⟨y149, hy149⟩ : ∃ y_ : List Int, y_ = (y147.set (x12_3 : Int).toNat (Go.bits .and .u64 (rd y147 x12_3) 4294967295)) := ⟨_, rfl⟩
                              replace H : (ullageref02_within.l3 k3 a1 x6_1 x7_1 y149 ji34) = some r := by first | (rw [hy149]; with_reducible exact H) | (have H2_ := (Option.bind_some _ _).symm.trans H; rw [hy149]; with_reducible exact H2_) | (have H2_ := (Option.bind_some _ _).symm.trans H; with_reducible exact H2_) | with_reducible exact H | (rw [hy149]; exact H) | exact H
                              have Ny149 := Aside0.mk hy149
                              clear hy149
                              have H' := Aside0.mk H
                              clear H
                              try go_wp2
                              have n0_ := Aside0.mk (Kd.R_drew HO_6.out)
                              have n1_ := Aside0.mk (Kd.R_drew HO_8.out)
                              have n2_ := Aside0.mk (below_drew1 HB.out)
                              clear HO_6
                              clear HO_8
                              clear HB
                              have HO_6 := n0_
                              have HO_8 := n1_
                              have HB := n2_
                              clear n0_ n1_ n2_
                              obtain ⟨Ao42, co42, eo42⟩ := Kd.R_slice HO_8.out
                              (first | subst eo42 | (injection eo42 with f1_ f2_ f3_; have f4_ := f1_.symm; have f5_ := f3_.symm; clear f1_ f2_ f3_; subst f4_; subst f5_))
                              have p145 : 0 ≤ ((ji34) : Int) := of_decide_eq_true (by first | (with_reducible assumption) | assumption)
                              have q145 : (ji34) < (x8_3.length : Int) := of_decide_eq_true (by first | (with_reducible assumption) | assumption)
                              obtain ⟨ad145, e145, hx145_0⟩ := Kd.at_int (Kd.R_reads' HO_8.out).2.2 (ji34) p145 q145
                              cases e145
                              replace p145 := eq_true p145
                              replace q145 := eq_true q145
                              have p146 : 0 ≤ (x12_3 : Int) := of_decide_eq_true (by first | (with_reducible assumption) | assumption)
                              have q146 : x12_3 < (x8_3.length : Int) := of_decide_eq_true (by first | (with_reducible assumption) | assumption)
                              obtain ⟨ad146, e146, hx146_0⟩ := Kd.at_int (Kd.R_reads' HO_8.out).2.2 x12_3 p146 q146
                              obtain rfl : ad145 = ad146 := (by injection e146)
                              replace p146 := eq_true p146
                              replace q146 := eq_true q146
                              have p39 : 0 ≤ ((ji34) : Int) := of_decide_eq_true (by first | (with_reducible assumption) | assumption)
                              have q39 : ((ji34) : Int) < ((x8_3.length : Int) : Int) := of_decide_eq_true (by first | (with_reducible assumption) | assumption)
                              obtain ⟨go39, co39, eo39, gb39, gl39, cl39, HG39⟩ := Kd.R_form HO_8.out (by omega)
                              (first | cases eo39 | (injection eo39 with ea_ en_ ec_; (first | subst ea_ | (injection ea_ with ea_; subst ea_)); subst ec_; clear en_))
                              have GB39 := Aside0.mk gb39
                              have GG39 := Aside0.mk HG39
                              clear gb39 gl39 HG39
                              (first | simp only [add_plain] at hx145_0 | skip)
                              (first | simp only [add_plain] at hx146_0 | skip)
                              obtain ⟨hx39_0, hf39_0⟩ := Kd.R_celln 0 HO_8.out ((ji34) : Int) p39 q39
                              replace p39 := eq_true p39
                              replace q39 := eq_true q39
                              have HP43 := Kd.R_putn HO_8.out ((ji34) : Int) (IntKind.u64.wrap ((rd x8_3 (ji34)) + ((rd x8_3 x12_3) / 4294967296)))
                              rw [← Ny147.out] at HP43
                              have HQ43 := Aside0.mk HP43
                              clear HP43
                              refine start_ (n := 16) (S := fun w' => w'.cell? ⟨go39, ((ji34)).toNat, none⟩ = some (.int .u64 (rd x8_3 (ji34))) ∧ w'.cell? ⟨go39, (x12_3).toNat, none⟩ = some (.int .u64 (rd x8_3 x12_3))) (ds := [15]) #[false, false, false, false, false, false, false, false, false, false, false, false, false, false, false, false] (by kernel_rfl) rfl rfl ⟨hx145_0, hx146_0⟩ (fun hHeld => ?_); refine with_tabW ullageref02_within.tab19 ullageref02_within.bits19 (fun HT_ HW_ => ?_)
                              generalize wr.drew = w41 at HO_6 HO_8 HB GG39 HQ43 hf39_0 hx145_0 hx146_0 hx39_0 hHeld ⊢
                              refine pure_ (i := 0) (N := some 75) (v := ?_) (a' := ?_) #[true, false, false, false, false, false, false, false, false, false, false, false, false, false, false, false] rfl rfl (any_of HT_.out (by kernel_rfl)) (fun _ _ _ h => h) (Or.inl ⟨by rfl, ?_⟩) ?_ ?_
                              rotate_left
                              · intro w'
                                go_simp
                                with_reducible rfl
                              rotate_left
                              · simp only [Act.put, List.setIfInBounds_toArray, List.set_cons_zero, List.set_cons_succ, i64_w, i32_w]
                                rfl
                              refine pure_ (i := 1) (N := some 76) (v := ?_) (a' := ?_) #[true, true, false, false, false, false, false, false, false, false, false, false, false, false, false, false] rfl rfl (any_of HT_.out (by kernel_rfl)) (fun _ _ _ h => h) (Or.inl ⟨by rfl, ?_⟩) ?_ ?_
                              rotate_left
                              · intro w'
                                go_simp
                                with_reducible rfl
                              rotate_left
                              · simp only [Act.put, List.setIfInBounds_toArray, List.set_cons_zero, List.set_cons_succ, i64_w, i32_w]
                                rfl
                              refine pure_ (i := 2) (N := some 77) (v := ?_) (a' := ?_) #[true, true, true, false, false, false, false, false, false, false, false, false, false, false, false, false] rfl rfl (any_of HT_.out (by kernel_rfl)) (fun _ _ _ h => h) (Or.inl ⟨by rfl, ?_⟩) ?_ ?_
                              rotate_left
                              · intro w'
                                go_simp
                                with_reducible rfl
                              rotate_left
                              · simp only [Act.put, List.setIfInBounds_toArray, List.set_cons_zero, List.set_cons_succ, i64_w, i32_w]
                                rfl
                              refine pure_ (i := 3) (N := some 78) (v := ?_) (a' := ?_) #[true, true, true, true, false, false, false, false, false, false, false, false, false, false, false, false] rfl rfl (any_of HT_.out (by kernel_rfl)) (fun _ _ _ h => h) (Or.inl ⟨by rfl, ?_⟩) ?_ ?_
                              rotate_left
                              · intro w'
                                go_simp
                                with_reducible rfl
                              rotate_left
                              · simp only [Act.put, List.setIfInBounds_toArray, List.set_cons_zero, List.set_cons_succ, i64_w, i32_w]
                                rfl
                              refine pure_ (i := 4) (N := some 79) (v := ?_) (a' := ?_) #[true, true, true, true, true, false, false, false, false, false, false, false, false, false, false, false] rfl rfl (any_of HT_.out (by kernel_rfl)) (fun _ _ _ h => h) (Or.inl ⟨by rfl, ?_⟩) ?_ ?_
                              rotate_left
                              · intro w'
                                go_simp
                                with_reducible rfl
                              rotate_left
                              · simp only [Act.put, List.setIfInBounds_toArray, List.set_cons_zero, List.set_cons_succ, i64_w, i32_w]
                                rfl
                              refine pure_ (i := 5) (N := some 80) (v := ?_) (a' := ?_) #[true, true, true, true, true, true, false, false, false, false, false, false, false, false, false, false] rfl rfl (any_of HT_.out (by kernel_rfl)) (fun _ _ _ h => h) (Or.inl ⟨by rfl, ?_⟩) ?_ ?_
                              rotate_left
                              · intro w'
                                go_simp
                                with_reducible rfl
                              rotate_left
                              · simp only [Act.put, List.setIfInBounds_toArray, List.set_cons_zero, List.set_cons_succ, i64_w, i32_w]
                                rfl
                              refine pure_ (i := 6) (N := some 81) (v := ?_) (a' := ?_) #[true, true, true, true, true, true, true, false, false, false, false, false, false, false, false, false] rfl rfl (any_of HT_.out (by kernel_rfl)) (fun _ _ _ h => h) (Or.inl ⟨by rfl, ?_⟩) ?_ ?_
                              rotate_left
                              · intro w'
                                go_simp
                                with_reducible rfl
                              rotate_left
                              · simp only [Act.put, List.setIfInBounds_toArray, List.set_cons_zero, List.set_cons_succ, i64_w, i32_w]
                                rfl
                              refine pure_ (i := 8) (N := some 83) (v := ?_) (a' := ?_) #[true, true, true, true, true, true, true, false, true, false, false, false, false, false, false, false] rfl rfl (any_of HT_.out (by kernel_rfl)) (fun _ _ _ h => h) (Or.inl ⟨by rfl, ?_⟩) ?_ ?_
                              rotate_left
                              · intro w'
                                go_simp
                                with_reducible rfl
                              rotate_left
                              · simp only [Act.put, List.setIfInBounds_toArray, List.set_cons_zero, List.set_cons_succ, i64_w, i32_w]
                                rfl
                              refine pure_ (i := 9) (N := some 84) (v := ?_) (a' := ?_) #[true, true, true, true, true, true, true, false, true, true, false, false, false, false, false, false] rfl rfl (any_of HT_.out (by kernel_rfl)) (fun _ _ _ h => h) (Or.inl ⟨by rfl, ?_⟩) ?_ ?_
                              rotate_left
                              · intro w'
                                go_simp
                                with_reducible rfl
                              rotate_left
                              · simp only [Act.put, List.setIfInBounds_toArray, List.set_cons_zero, List.set_cons_succ, i64_w, i32_w]
                                rfl
                              refine pure_ (i := 10) (N := some 85) (v := ?_) (a' := ?_) #[true, true, true, true, true, true, true, false, true, true, true, false, false, false, false, false] rfl rfl (any_of HT_.out (by kernel_rfl)) (fun _ _ _ h => h) (Or.inl ⟨by rfl, ?_⟩) ?_ ?_
                              rotate_left
                              · intro w'
                                go_simp
                                with_reducible rfl
                              rotate_left
                              · simp only [Act.put, List.setIfInBounds_toArray, List.set_cons_zero, List.set_cons_succ, i64_w, i32_w]
                                rfl
                              refine take_ (i := 7) (N := some 82) (v := ?_) (a' := ?_) #[true, true, true, true, true, true, true, true, true, true, true, false, false, false, false, false] rfl rfl (take_ofW HT_.out HW_.out (by kernel_rfl)) (fun _ _ _ h => h) (Or.inl ⟨by rfl, ?_⟩) hHeld ?_ ?_
                              rotate_left
                              · rintro w' ⟨s0, s1⟩
                                go_simp
                                with_reducible rfl
                              rotate_left
                              · simp only [Act.put, List.setIfInBounds_toArray, List.set_cons_zero, List.set_cons_succ, i64_w, i32_w]
                                rfl
                              refine take_ (i := 11) (N := some 86) (v := ?_) (a' := ?_) #[true, true, true, true, true, true, true, true, true, true, true, true, false, false, false, false] rfl rfl (take_ofW HT_.out HW_.out (by kernel_rfl)) (fun _ _ _ h => h) (Or.inl ⟨by rfl, ?_⟩) hHeld ?_ ?_
                              rotate_left
                              · rintro w' ⟨s0, s1⟩
                                go_simp
                                with_reducible rfl
                              rotate_left
                              · simp only [Act.put, List.setIfInBounds_toArray, List.set_cons_zero, List.set_cons_succ, i64_w, i32_w]
                                rfl
                              refine pure_ (i := 12) (N := some 87) (v := ?_) (a' := ?_) #[true, true, true, true, true, true, true, true, true, true, true, true, true, false, false, false] rfl rfl (any_of HT_.out (by kernel_rfl)) (fun _ _ _ h => h) (Or.inl ⟨by rfl, ?_⟩) ?_ ?_
                              rotate_left
                              · intro w'
                                go_simp
                                with_reducible rfl
                              rotate_left
                              · simp only [Act.put, List.setIfInBounds_toArray, List.set_cons_zero, List.set_cons_succ, i64_w, i32_w]
                                rfl
                              refine pure_ (i := 13) (N := some 88) (v := ?_) (a' := ?_) #[true, true, true, true, true, true, true, true, true, true, true, true, true, true, false, false] rfl rfl (any_of HT_.out (by kernel_rfl)) (fun _ _ _ h => h) (Or.inl ⟨by rfl, ?_⟩) ?_ ?_
                              rotate_left
                              · intro w'
                                go_simp
                                with_reducible rfl
                              rotate_left
                              · simp only [Act.put, List.setIfInBounds_toArray, List.set_cons_zero, List.set_cons_succ, i64_w, i32_w]
                                rfl
                              refine pure_ (i := 14) (N := some 89) (v := ?_) (a' := ?_) #[true, true, true, true, true, true, true, true, true, true, true, true, true, true, true, false] rfl rfl (any_of HT_.out (by kernel_rfl)) (fun _ _ _ h => h) (Or.inl ⟨by rfl, ?_⟩) ?_ ?_
                              rotate_left
                              · intro w'
                                go_simp
                                with_reducible rfl
                              rotate_left
                              · simp only [Act.put, List.setIfInBounds_toArray, List.set_cons_zero, List.set_cons_succ, i64_w, i32_w]
                                rfl
                              refine last_ (i := 15) (N := none) #[true, true, true, true, true, true, true, true, true, true, true, true, true, true, true, true] rfl rfl (one_of HT_.out (by kernel_rfl)) (by decide) (fun K hK => ?_)
                              refine skip_ (w1 := ?_) (by rfl) rfl ?_ ?_
                              rotate_left
                              · go_simp
                                rfl
                              refine hK.out _ _ ?_
                              clear hK K
                              refine done_ (done_of HT_.out (by kernel_rfl)) ?_
                              have n0_ : Aside0 (Kd.R (Kd.int .u64) 22 (w41.setCell ⟨go39, ((ji34) : Int).toNat, none⟩ (.int .u64 (IntKind.u64.wrap ((rd x8_3 (ji34)) + ((rd x8_3 x12_3) / 4294967296))))) w.heap.size (fun k_ => some k_ ≠ (.slice (some ⟨go39, 0, none⟩) x8_3.length co42 : Value).ownBlock) v134 x6_1) := ⟨by (with_reducible repeat (first | apply Kd.R_alloc | apply Kd.R_drewN | apply Kd.R_drew)); exact Kd.R_mono (Kd.R_far (p := ⟨go39, ((ji34) : Int).toNat, none⟩) (Kd.R_mono HO_6.out (fun k_ hk => (⟨hk, fun e_ => hk (by rw [e_]; rfl)⟩ : _ ∧ k_ ≠ go39))) (fun _ hk => hk.2) (.int .u64 (IntKind.u64.wrap ((rd x8_3 (ji34)) + ((rd x8_3 x12_3) / 4294967296))))) (fun _ hk => hk.1)⟩
                              have n1_ : Aside0 (Kd.R (Kd.int .u64) 22 (w41.setCell ⟨go39, ((ji34) : Int).toNat, none⟩ (.int .u64 (IntKind.u64.wrap ((rd x8_3 (ji34)) + ((rd x8_3 x12_3) / 4294967296))))) w.heap.size (fun k_ => some k_ ≠ (v134 : Value).ownBlock) (.slice (some ⟨go39, 0, none⟩) x8_3.length co42) y147) := ⟨by (with_reducible repeat (first | apply Kd.R_alloc | apply Kd.R_drewN | apply Kd.R_drew)); exact HQ43.out⟩
                              have n2_ : Aside0 (Below w.heap.size w (w41.setCell ⟨go39, ((ji34) : Int).toNat, none⟩ (.int .u64 (IntKind.u64.wrap ((rd x8_3 (ji34)) + ((rd x8_3 x12_3) / 4294967296)))))) := ⟨by repeat (first | (with_reducible first | exact HB.out | apply below_alloc | apply pw_below_drewN | apply below_drew1 | refine below_set ?_ GB39.out) | exact HB.out)⟩
                              (try clear HO_6)
                              (try clear HO_8)
                              (try clear HB)
                              generalize (w41.setCell ⟨go39, ((ji34) : Int).toNat, none⟩ (.int .u64 (IntKind.u64.wrap ((rd x8_3 (ji34)) + ((rd x8_3 x12_3) / 4294967296))))) = w44 at n0_ n1_ n2_ ⊢
                              have HO_6 := n0_
                              have HO_8 := n1_
                              have HB := n2_
                              clear n0_ n1_ n2_
                              have p148 : 0 ≤ (x12_3 : Int) := of_decide_eq_true (by first | (with_reducible assumption) | assumption)
                              have q148 : x12_3 < (y147.length : Int) := (by have h_ : (x12_3 : Int) < ((x8_3.length : Int) : Int) := of_decide_eq_true (by first | (with_reducible assumption) | assumption); first | (have e_ := (Kd.R_reads' HO_8.out).1; omega) | simpa only [Ny147.out, List.length_set] using h_)
                              have ql148 : ((x12_3 : Int) < ((x8_3.length : Int) : Int)) = True := eq_true (of_decide_eq_true (by first | (with_reducible assumption) | assumption))
                              obtain ⟨ad148, e148, hx148_0⟩ := Kd.at_int (Kd.R_reads' HO_8.out).2.2 x12_3 p148 q148
                              obtain rfl : (⟨go39, 0, none⟩ : Addr) = ad148 := (by injection e148)
                              (first | simp only [add_plain] at hx148_0 | simp only [add_at] at hx148_0 | simp only [Addr.add, Nat.zero_add] at hx148_0 | skip)
                              replace p148 := eq_true p148
                              replace q148 := eq_true q148
                              have p40 : 0 ≤ (x12_3 : Int) := of_decide_eq_true (by first | (with_reducible assumption) | assumption)
                              have q40 : (x12_3 : Int) < ((x8_3.length : Int) : Int) := of_decide_eq_true (by first | (with_reducible assumption) | assumption)
                              obtain ⟨hx40_0, hf40_0⟩ := Kd.R_celln 0 HO_8.out (x12_3 : Int) p40 q40
                              replace p40 := eq_true p40
                              replace q40 := eq_true q40
                              obtain ⟨hy45_, hz45_⟩ := Kd.R_celln 0 HO_8.out (x12_3 : Int) (of_decide_eq_true (by first | (with_reducible assumption) | assumption)) (of_decide_eq_true (by first | (with_reducible assumption) | assumption))
                              have HP45 := Kd.R_putg HO_8.out (x12_3 : Int) (Go.bits .and .u64 (rd y147 x12_3) 4294967295)
                              try go_wp2_with (first | ((with_reducible refine gate_store (t := 22) (p := 97) rfl ?_); refine store_event (t := 22) (p := 97) (v := ?vo_w46) (w1 := (w44.setCell ⟨go39, (x12_3 : Int).toNat, none⟩ (.int .u64 (Go.bits .and .u64 (rd y147 x12_3) 4294967295)))) ?hg ?ho ?hn ?hr ?_; (case ho => rfl); (case hg => rfl); (case hn => rfl); (case hr => first | (go_simp; done) | (go_simp; rfl)); intro w46 hw; have hg : w44.grownBy w46 (some go39) := (by rw [hw]; exact HP45.2); have hp_ : Kd.R (Kd.int .u64) 22 w46 w.heap.size (fun k_ => some k_ ≠ (v134 : Value).ownBlock) (.slice (some ⟨go39, 0, none⟩) x8_3.length co42) y149 := (by rw [hw, Ny149.out]; exact HP45.1); clear HP45; have n0_ := Aside0.mk (Kd.R_after (v := (.slice (some ⟨go39, 0, none⟩) x8_3.length co42)) (v1 := (.slice (some ⟨go39, 0, none⟩) x8_3.length co42)) (ok := (fun _ => True)) (by (with_reducible repeat (first | apply Kd.R_alloc | apply Kd.R_drewN | apply Kd.R_drew)); exact Kd.R_mono HO_6.out (fun _ hk => ⟨trivial, hk⟩)) hg (.inl rfl)); have n1_ := Aside0.mk (hp_); have n2_ := Aside0.mk ((by rw [hw]; exact below_set (HB.out) GB39.out : Below w.heap.size w w46)); clear HO_6; clear HO_8; clear HB; have HO_6 := n0_; have HO_8 := n1_; have HB := n2_; clear n0_ n1_ n2_; clear hg hw hp_))
                              go_roundg k3
                              case measure => have := HK1.out; have := HK2.out; have := HK3.out; omega
                              case rel => exact ⟨(y149), (ji34), (by first | rfl | (simp; done) | (simp only [← hji34] <;> (first | rfl | simp)) | (simp [*]; done)), H', ⟨by have := HK1.out; have := HK2.out; have := HK3.out; omega⟩, ⟨by (with_reducible repeat (first | apply Kd.R_alloc | apply Kd.R_drewN | apply Kd.R_drew)); exact Kd.R_mono HO_6.out (fun _ hk => hk.2)⟩, ⟨by (with_reducible repeat (first | apply Kd.R_alloc | apply Kd.R_drewN | apply Kd.R_drew)); exact HO_8.out⟩, ⟨by repeat (first | (with_reducible first | exact HB.out | apply below_alloc | apply pw_below_drewN | apply below_drew1) | exact HB.out)⟩⟩
                            · rw [if_neg c38] at H
                              exact absurd H (by simp)
                          · rw [if_neg c37] at H
                            exact absurd H (by simp)
                        · rw [if_neg c36] at H
                          exact absurd H (by simp)
                      · rw [if_neg c35] at H
                        exact absurd H (by simp)
                    · rw [if_neg c33] at H
                      have c33b0 : decide (x12_3 < 6) = false := decide_eq_false c33
                      clear c33
                      have H' := Aside0.mk H
                      clear H
                      go_wp2
                      go_roundg k3
                      case measure => have := HK1.out; have := HK2.out; have := HK3.out; omega
                      case rel => exact ⟨(x8_3), (x6_1), (wrap64 (x7_1 + 1)), (by first | rfl | (simp; done) | (simp [*]; done)), H', ⟨by have := HK1.out; have := HK2.out; have := HK3.out; omega⟩, ⟨by (with_reducible repeat (first | apply Kd.R_alloc | apply Kd.R_drewN | apply Kd.R_drew)); exact HO_8.out⟩, ⟨by (with_reducible repeat (first | apply Kd.R_alloc | apply Kd.R_drewN | apply Kd.R_drew)); exact HO_6.out⟩, ⟨by repeat (first | (with_reducible first | exact HB.out | apply below_alloc | apply pw_below_drewN | apply below_drew1) | exact HB.out)⟩⟩
        · rw [if_neg c8] at H
          exact absurd H (by simp)
      · rw [if_neg c7] at H
        have c7b0 : decide (x7_1 < 3) = false := decide_eq_false c7
        clear c7
        have HC47 := Aside0.mk H
        clear H
        go_upto_region 22 with (fail)
        go_cut [114] (fun v114 wc => ∃ (kq : Nat) (x114_46 : Bool), v114 = .bool x114_46 ∧ Aside0 (ullageref02_within.j4 kq a1 x5_1 x114_46 = some r) ∧ Aside0 (kq ≤ k1) ∧ Aside0 (Kd.R (Kd.int .u64) 22 wc w.heap.size (fun _ => True) u5 x5_1) ∧ Aside0 (Below w.heap.size w wc))
        case first =>
          have H := HC47.out
          clear HC47
          by_cases c48 : 6 < (x5_1.length : Int)
          · rw [if_pos c48] at H
            have c48b0 : decide (6 < (x5_1.length : Int)) = true := decide_eq_true c48
            have c48b1 : decide (6 < x5_1.length) = true := decide_eq_true (by omega)
            clear c48
            (first | rw [c48b0] | (simp only [i64_w, i32_w]; rw [c48b0]) | skip)
            by_cases c49 : (rd x5_1 6) > 0
            · rw [if_pos c49] at H
              have c49b0 : decide (0 < (rd x5_1 6)) = true := decide_eq_true c49
              clear c49
              have H' := Aside0.mk H
              clear H
              obtain ⟨Ao50, co50, eo50⟩ := Kd.R_slice HO_5.out
              subst eo50
              have p150 : 0 ≤ (6 : Int) := (by omega)
              have q150 : 6 < (x5_1.length : Int) := of_decide_eq_true (by first | (with_reducible assumption) | assumption)
              obtain ⟨ad150, e150, hx150_0⟩ := Kd.at_int (Kd.R_reads' HO_5.out).2.2 6 p150 q150
              cases e150
              (try simp only [show (6 : Int).toNat = 6 from rfl, Nat.reduceMul, Nat.reduceEqDiff, Go.Addr.add, ↓reduceIte] at hx150_0)
              have qi150 : (6 < x5_1.length) = True := eq_true (by omega)
              (try rw [show ((6 : Int)).toNat = 6 from rfl] at hx150_0)
              replace p150 := eq_true p150
              replace q150 := eq_true q150
              go_wp2
              go_meet
              case rel => exact ⟨_, (true), (by first | rfl | (simp; done) | (simp [*]; done)), H', ⟨by have := HK1.out; first | omega | exact Nat.le_refl _⟩, ⟨by (with_reducible repeat (first | apply Kd.R_alloc | apply Kd.R_drewN | apply Kd.R_drew)); exact Kd.R_mono HO_5.out (fun _ hk => trivial)⟩, ⟨by repeat (first | (with_reducible first | exact HB.out | apply below_alloc | apply pw_below_drewN | apply below_drew1) | exact HB.out)⟩⟩
            · rw [if_neg c49] at H
              have c49b0 : decide (0 < (rd x5_1 6)) = false := decide_eq_false c49
              clear c49
              by_cases c51 : 5 < (x5_1.length : Int)
              · rw [if_pos c51] at H
                have c51b0 : decide (5 < (x5_1.length : Int)) = true := decide_eq_true c51
                have c51b1 : decide (5 < x5_1.length) = true := decide_eq_true (by omega)
                clear c51
                by_cases c52 : (rd x5_1 5) > 0
                · rw [if_pos c52] at H
                  have c52b0 : decide (0 < (rd x5_1 5)) = true := decide_eq_true c52
                  clear c52
                  have H' := Aside0.mk H
                  clear H
                  obtain ⟨Ao53, co53, eo53⟩ := Kd.R_slice HO_5.out
                  subst eo53
                  have p150 : 0 ≤ (6 : Int) := (by omega)
                  have q150 : 6 < (x5_1.length : Int) := of_decide_eq_true (by first | (with_reducible assumption) | assumption)
                  obtain ⟨ad150, e150, hx150_0⟩ := Kd.at_int (Kd.R_reads' HO_5.out).2.2 6 p150 q150
                  cases e150
                  (try simp only [show (6 : Int).toNat = 6 from rfl, Nat.reduceMul, Nat.reduceEqDiff, Go.Addr.add, ↓reduceIte] at hx150_0)
                  have qi150 : (6 < x5_1.length) = True := eq_true (by omega)
                  (try rw [show ((6 : Int)).toNat = 6 from rfl] at hx150_0)
                  replace p150 := eq_true p150
                  replace q150 := eq_true q150
                  have p151 : 0 ≤ (5 : Int) := (by omega)
                  have q151 : 5 < (x5_1.length : Int) := of_decide_eq_true (by first | (with_reducible assumption) | assumption)
                  obtain ⟨ad151, e151, hx151_0⟩ := Kd.at_int (Kd.R_reads' HO_5.out).2.2 5 p151 q151
                  obtain rfl : ad150 = ad151 := (by injection e151)
                  (try simp only [show (5 : Int).toNat = 5 from rfl, Nat.reduceMul, Nat.reduceEqDiff, Go.Addr.add, ↓reduceIte] at hx151_0)
                  have qi151 : (5 < x5_1.length) = True := eq_true (by omega)
                  (try rw [show ((5 : Int)).toNat = 5 from rfl] at hx151_0)
                  replace p151 := eq_true p151
                  replace q151 := eq_true q151
                  go_wp2
                  go_meet
                  case rel => exact ⟨_, (true), (by first | rfl | (simp; done) | (simp [*]; done)), H', ⟨by have := HK1.out; first | omega | exact Nat.le_refl _⟩, ⟨by (with_reducible repeat (first | apply Kd.R_alloc | apply Kd.R_drewN | apply Kd.R_drew)); exact Kd.R_mono HO_5.out (fun _ hk => trivial)⟩, ⟨by repeat (first | (with_reducible first | exact HB.out | apply below_alloc | apply pw_below_drewN | apply below_drew1) | exact HB.out)⟩⟩
                · rw [if_neg c52] at H
                  have c52b0 : decide (0 < (rd x5_1 5)) = false := decide_eq_false c52
                  clear c52
                  by_cases c54 : 4 < (x5_1.length : Int)
                  · rw [if_pos c54] at H
                    have c54b0 : decide (4 < (x5_1.length : Int)) = true := decide_eq_true c54
                    have c54b1 : decide (4 < x5_1.length) = true := decide_eq_true (by omega)
                    clear c54
                    have H' := Aside0.mk H
                    clear H
                    obtain ⟨Ao55, co55, eo55⟩ := Kd.R_slice HO_5.out
                    subst eo55
                    have p150 : 0 ≤ (6 : Int) := (by omega)
                    have q150 : 6 < (x5_1.length : Int) := of_decide_eq_true (by first | (with_reducible assumption) | assumption)
                    obtain ⟨ad150, e150, hx150_0⟩ := Kd.at_int (Kd.R_reads' HO_5.out).2.2 6 p150 q150
                    cases e150
                    (try simp only [show (6 : Int).toNat = 6 from rfl, Nat.reduceMul, Nat.reduceEqDiff, Go.Addr.add, ↓reduceIte] at hx150_0)
                    have qi150 : (6 < x5_1.length) = True := eq_true (by omega)
                    (try rw [show ((6 : Int)).toNat = 6 from rfl] at hx150_0)
                    replace p150 := eq_true p150
                    replace q150 := eq_true q150
                    have p151 : 0 ≤ (5 : Int) := (by omega)
                    have q151 : 5 < (x5_1.length : Int) := of_decide_eq_true (by first | (with_reducible assumption) | assumption)
                    obtain ⟨ad151, e151, hx151_0⟩ := Kd.at_int (Kd.R_reads' HO_5.out).2.2 5 p151 q151
                    obtain rfl : ad150 = ad151 := (by injection e151)
                    (try simp only [show (5 : Int).toNat = 5 from rfl, Nat.reduceMul, Nat.reduceEqDiff, Go.Addr.add, ↓reduceIte] at hx151_0)
                    have qi151 : (5 < x5_1.length) = True := eq_true (by omega)
                    (try rw [show ((5 : Int)).toNat = 5 from rfl] at hx151_0)
                    replace p151 := eq_true p151
                    replace q151 := eq_true q151
                    have p152 : 0 ≤ (4 : Int) := (by omega)
                    have q152 : 4 < (x5_1.length : Int) := of_decide_eq_true (by first | (with_reducible assumption) | assumption)
                    obtain ⟨ad152, e152, hx152_0⟩ := Kd.at_int (Kd.R_reads' HO_5.out).2.2 4 p152 q152
                    obtain rfl : ad150 = ad152 := (by injection e152)
                    (try simp only [show (4 : Int).toNat = 4 from rfl, Nat.reduceMul, Nat.reduceEqDiff, Go.Addr.add, ↓reduceIte] at hx152_0)
                    have qi152 : (4 < x5_1.length) = True := eq_true (by omega)
                    (try rw [show ((4 : Int)).toNat = 4 from rfl] at hx152_0)
                    replace p152 := eq_true p152
                    replace q152 := eq_true q152
                    go_wp2
                    go_meet
                    case rel => exact ⟨_, (decide ((rd x5_1 4) > 0)), (by first | rfl | (simp; done) | (simp [*]; done)), H', ⟨by have := HK1.out; first | omega | exact Nat.le_refl _⟩, ⟨by (with_reducible repeat (first | apply Kd.R_alloc | apply Kd.R_drewN | apply Kd.R_drew)); exact Kd.R_mono HO_5.out (fun _ hk => trivial)⟩, ⟨by repeat (first | (with_reducible first | exact HB.out | apply below_alloc | apply pw_below_drewN | apply below_drew1) | exact HB.out)⟩⟩
                  · rw [if_neg c54] at H
                    exact absurd H (by simp)
              · rw [if_neg c51] at H
                exact absurd H (by simp)
          · rw [if_neg c48] at H
            exact absurd H (by simp)
        case rest =>
          clear HC47
          try clear c1
          try clear p1
          try clear q1
          try clear hx1
          try clear qi1
          try clear c2
          try clear p2
          try clear q2
          try clear hx2
          try clear hf2
          try clear c3
          try clear p3
          try clear q3
          try clear hx3
          try clear hf3
          try clear c4
          try clear p4
          try clear q4
          try clear hx4
          try clear hf4
          try clear c5
          try clear p6
          try clear c7
          try clear c7b0
          try clear c8
          try clear c8b0
          try clear c8b1
          try clear c11
          try clear c11b0
          try clear c12
          try clear c12b0
          try clear c13
          try clear c13b0
          try clear p13
          try clear q13
          try clear hx13
          try clear c14
          try clear c14b0
          try clear p14
          try clear q14
          try clear hx14
          try clear c15
          try clear c15b0
          try clear p15
          try clear q15
          try clear hx15
          try clear qi15
          try clear c16
          try clear c16b0
          try clear c18
          try clear c18b0
          try clear c19
          try clear c19b0
          try clear p20
          try clear q20
          try clear hx20
          try clear hf20
          try clear c22
          try clear c22b0
          try clear c23
          try clear c23b0
          try clear p24
          try clear q24
          try clear hx24
          try clear hf24
          try clear c33
          try clear c33b0
          try clear c35
          try clear c35b0
          try clear c36
          try clear c36b0
          try clear c37
          try clear c37b0
          try clear c38
          try clear c38b0
          try clear p39
          try clear q39
          try clear hx39
          try clear hf39
          try clear p40
          try clear q40
          try clear hx40
          try clear hf40
          try clear c48
          try clear c48b0
          try clear c48b1
          try clear c49
          try clear c49b0
          try clear c51
          try clear c51b0
          try clear c51b1
          try clear c52
          try clear c52b0
          try clear c54
          try clear c54b0
          try clear c54b1
          try clear hx139_0
          try clear hx140_0
          try clear hx141_0
          try clear hx143_0
          try clear hx145_0
          try clear hx146_0
          try clear hx148_0
          try clear hx150_0
          try clear hx151_0
          try clear hx152_0
          try clear hx20_0
          try clear hx24_0
          try clear hx39_0
          try clear hx40_0
          try clear p1
          try clear p13
          try clear p139
          try clear p14
          try clear p140
          try clear p141
          try clear p143
          try clear p145
          try clear p146
          try clear p148
          try clear p150
          try clear p151
          try clear p152
          try clear p2
          try clear p20
          try clear p24
          try clear p39
          try clear p40
          try clear p6
          try clear q1
          try clear q13
          try clear q139
          try clear q14
          try clear q140
          try clear q141
          try clear q143
          try clear q145
          try clear q146
          try clear q148
          try clear q150
          try clear q151
          try clear q152
          try clear q2
          try clear q20
          try clear q24
          try clear q39
          try clear q40
          obtain ⟨kq, x114_46, rfl, HA, HJ46, HO_5, HB⟩ := hcut
          cases kq with
          | zero => exact absurd HA.out (by simp [ullageref02_within.j4])
          | succ kj46 =>
            have H := HA.out
            clear HA
            simp only [ullageref02_within.j4] at H
            by_cases c56 : x114_46 = true
            · subst c56
              have H1 : (some false) = some r := by rw [if_pos rfl] at H; exact H
              clear H
              have H := H1
              clear H1
              obtain rfl := Option.some.inj H
              go_wp2
              go_ret
              exact ⟨by first | rfl | (simp [errW_none, errW_some] <;> rfl) | (simp [*, errW_none, errW_some] <;> rfl), by repeat (first | (with_reducible first | exact HB.out | apply below_alloc | apply pw_below_drewN | apply below_drew1) | exact HB.out)⟩
            · replace c56 := Bool.eq_false_iff.mpr c56
              subst c56
              have H1 : (if 3 < (x5_1.length : Int) then (if (rd x5_1 3) = a1 then (if 2 < (x5_1.length : Int) then (if (rd x5_1 2) = 0 then (if 1 < (x5_1.length : Int) then (if (rd x5_1 1) = 0 then (if 0 < (x5_1.length : Int) then (some ((rd x5_1 0) == 0)) else (none)) else (some false)) else (none)) else (some false)) else (none)) else (some (decide ((rd x5_1 3) < a1)))) else (none)) = some r := by rw [if_neg (show ¬ (false = true) by decide)] at H; exact H
              clear H
              have H := H1
              clear H1
              by_cases c57 : 3 < (x5_1.length : Int)
              · rw [if_pos c57] at H
                have c57b0 : decide (3 < (x5_1.length : Int)) = true := decide_eq_true c57
                have c57b1 : decide (3 < x5_1.length) = true := decide_eq_true (by omega)
                clear c57
                by_cases c58 : (rd x5_1 3) = a1
                · rw [if_pos c58] at H
                  have c58b0 : ((rd x5_1 3) == a1) = true := beq_iff_eq.mpr c58
                  have c58b1 : ((rd x5_1 3) != a1) = false := bne_eq_false_iff_eq.mpr c58
                  clear c58
                  by_cases c59 : 2 < (x5_1.length : Int)
                  · rw [if_pos c59] at H
                    have c59b0 : decide (2 < (x5_1.length : Int)) = true := decide_eq_true c59
                    have c59b1 : decide (2 < x5_1.length) = true := decide_eq_true (by omega)
                    clear c59
                    by_cases c60 : (rd x5_1 2) = 0
                    · rw [if_pos c60] at H
                      have c60b0 : ((rd x5_1 2) == 0) = true := beq_iff_eq.mpr c60
                      have c60b1 : ((rd x5_1 2) != 0) = false := bne_eq_false_iff_eq.mpr c60
                      clear c60
                      by_cases c61 : 1 < (x5_1.length : Int)
                      · rw [if_pos c61] at H
                        have c61b0 : decide (1 < (x5_1.length : Int)) = true := decide_eq_true c61
                        have c61b1 : decide (1 < x5_1.length) = true := decide_eq_true (by omega)
                        clear c61
                        by_cases c62 : (rd x5_1 1) = 0
                        · rw [if_pos c62] at H
                          have c62b0 : ((rd x5_1 1) == 0) = true := beq_iff_eq.mpr c62
                          have c62b1 : ((rd x5_1 1) != 0) = false := bne_eq_false_iff_eq.mpr c62
                          clear c62
                          by_cases c63 : 0 < (x5_1.length : Int)
                          · rw [if_pos c63] at H
                            have c63b0 : decide (0 < (x5_1.length : Int)) = true := decide_eq_true c63
                            have c63b1 : decide (0 < x5_1.length) = true := decide_eq_true (by omega)
                            clear c63
                            obtain rfl := Option.some.inj H
                            obtain ⟨Ao64, co64, eo64⟩ := Kd.R_slice HO_5.out
                            subst eo64
                            have p153 : 0 ≤ (3 : Int) := (by omega)
                            have q153 : 3 < (x5_1.length : Int) := of_decide_eq_true (by first | (with_reducible assumption) | assumption)
                            obtain ⟨ad153, e153, hx153_0⟩ := Kd.at_int (Kd.R_reads' HO_5.out).2.2 3 p153 q153
                            cases e153
                            (try simp only [show (3 : Int).toNat = 3 from rfl, Nat.reduceMul, Nat.reduceEqDiff, Go.Addr.add, ↓reduceIte] at hx153_0)
                            have qi153 : (3 < x5_1.length) = True := eq_true (by omega)
                            (try rw [show ((3 : Int)).toNat = 3 from rfl] at hx153_0)
                            replace p153 := eq_true p153
                            replace q153 := eq_true q153
                            have p154 : 0 ≤ (2 : Int) := (by omega)
                            have q154 : 2 < (x5_1.length : Int) := of_decide_eq_true (by first | (with_reducible assumption) | assumption)
                            obtain ⟨ad154, e154, hx154_0⟩ := Kd.at_int (Kd.R_reads' HO_5.out).2.2 2 p154 q154
                            obtain rfl : ad153 = ad154 := (by injection e154)
                            (try simp only [show (2 : Int).toNat = 2 from rfl, Nat.reduceMul, Nat.reduceEqDiff, Go.Addr.add, ↓reduceIte] at hx154_0)
                            have qi154 : (2 < x5_1.length) = True := eq_true (by omega)
                            (try rw [show ((2 : Int)).toNat = 2 from rfl] at hx154_0)
                            replace p154 := eq_true p154
                            replace q154 := eq_true q154
                            have p155 : 0 ≤ (1 : Int) := (by omega)
                            have q155 : 1 < (x5_1.length : Int) := of_decide_eq_true (by first | (with_reducible assumption) | assumption)
                            obtain ⟨ad155, e155, hx155_0⟩ := Kd.at_int (Kd.R_reads' HO_5.out).2.2 1 p155 q155
                            obtain rfl : ad153 = ad155 := (by injection e155)
                            (try simp only [show (1 : Int).toNat = 1 from rfl, Nat.reduceMul, Nat.reduceEqDiff, Go.Addr.add, ↓reduceIte] at hx155_0)
                            have qi155 : (1 < x5_1.length) = True := eq_true (by omega)
                            (try rw [show ((1 : Int)).toNat = 1 from rfl] at hx155_0)
                            replace p155 := eq_true p155
                            replace q155 := eq_true q155
                            have p156 : 0 ≤ (0 : Int) := (by omega)
                            have q156 : 0 < (x5_1.length : Int) := of_decide_eq_true (by first | (with_reducible assumption) | assumption)
                            obtain ⟨ad156, e156, hx156_0⟩ := Kd.at_int (Kd.R_reads' HO_5.out).2.2 0 p156 q156
                            obtain rfl : ad153 = ad156 := (by injection e156)
                            have qi156 : (0 < x5_1.length) = True := eq_true (by omega)
                            (try rw [show ((0 : Int)).toNat = 0 from rfl] at hx156_0)
                            (try rw [Addr.add_zero'] at hx156_0)
                            replace p156 := eq_true p156
                            replace q156 := eq_true q156
                            go_wp2
                            go_ret
                            exact ⟨by first | rfl | (simp [errW_none, errW_some] <;> rfl) | (simp [*, errW_none, errW_some] <;> rfl), by repeat (first | (with_reducible first | exact HB.out | apply below_alloc | apply pw_below_drewN | apply below_drew1) | exact HB.out)⟩
                          · rw [if_neg c63] at H
                            exact absurd H (by simp)
                        · rw [if_neg c62] at H
                          have c62b0 : ((rd x5_1 1) == 0) = false := beq_eq_false_iff_ne.mpr c62
                          have c62b1 : ((rd x5_1 1) != 0) = true := bne_iff_ne.mpr c62
                          obtain rfl := Option.some.inj H
                          obtain ⟨Ao65, co65, eo65⟩ := Kd.R_slice HO_5.out
                          subst eo65
                          have p153 : 0 ≤ (3 : Int) := (by omega)
                          have q153 : 3 < (x5_1.length : Int) := of_decide_eq_true (by first | (with_reducible assumption) | assumption)
                          obtain ⟨ad153, e153, hx153_0⟩ := Kd.at_int (Kd.R_reads' HO_5.out).2.2 3 p153 q153
                          cases e153
                          (try simp only [show (3 : Int).toNat = 3 from rfl, Nat.reduceMul, Nat.reduceEqDiff, Go.Addr.add, ↓reduceIte] at hx153_0)
                          have qi153 : (3 < x5_1.length) = True := eq_true (by omega)
                          (try rw [show ((3 : Int)).toNat = 3 from rfl] at hx153_0)
                          replace p153 := eq_true p153
                          replace q153 := eq_true q153
                          have p154 : 0 ≤ (2 : Int) := (by omega)
                          have q154 : 2 < (x5_1.length : Int) := of_decide_eq_true (by first | (with_reducible assumption) | assumption)
                          obtain ⟨ad154, e154, hx154_0⟩ := Kd.at_int (Kd.R_reads' HO_5.out).2.2 2 p154 q154
                          obtain rfl : ad153 = ad154 := (by injection e154)
                          (try simp only [show (2 : Int).toNat = 2 from rfl, Nat.reduceMul, Nat.reduceEqDiff, Go.Addr.add, ↓reduceIte] at hx154_0)
                          have qi154 : (2 < x5_1.length) = True := eq_true (by omega)
                          (try rw [show ((2 : Int)).toNat = 2 from rfl] at hx154_0)
                          replace p154 := eq_true p154
                          replace q154 := eq_true q154
                          have p155 : 0 ≤ (1 : Int) := (by omega)
                          have q155 : 1 < (x5_1.length : Int) := of_decide_eq_true (by first | (with_reducible assumption) | assumption)
                          obtain ⟨ad155, e155, hx155_0⟩ := Kd.at_int (Kd.R_reads' HO_5.out).2.2 1 p155 q155
                          obtain rfl : ad153 = ad155 := (by injection e155)
                          (try simp only [show (1 : Int).toNat = 1 from rfl, Nat.reduceMul, Nat.reduceEqDiff, Go.Addr.add, ↓reduceIte] at hx155_0)
                          have qi155 : (1 < x5_1.length) = True := eq_true (by omega)
                          (try rw [show ((1 : Int)).toNat = 1 from rfl] at hx155_0)
                          replace p155 := eq_true p155
                          replace q155 := eq_true q155
                          go_wp2
                          go_ret
                          exact ⟨by first | rfl | (simp [errW_none, errW_some] <;> rfl) | (simp [*, errW_none, errW_some] <;> rfl), by repeat (first | (with_reducible first | exact HB.out | apply below_alloc | apply pw_below_drewN | apply below_drew1) | exact HB.out)⟩
                      · rw [if_neg c61] at H
                        exact absurd H (by simp)
                    · rw [if_neg c60] at H
                      have c60b0 : ((rd x5_1 2) == 0) = false := beq_eq_false_iff_ne.mpr c60
                      have c60b1 : ((rd x5_1 2) != 0) = true := bne_iff_ne.mpr c60
                      obtain rfl := Option.some.inj H
                      obtain ⟨Ao66, co66, eo66⟩ := Kd.R_slice HO_5.out
                      subst eo66
                      have p153 : 0 ≤ (3 : Int) := (by omega)
                      have q153 : 3 < (x5_1.length : Int) := of_decide_eq_true (by first | (with_reducible assumption) | assumption)
                      obtain ⟨ad153, e153, hx153_0⟩ := Kd.at_int (Kd.R_reads' HO_5.out).2.2 3 p153 q153
                      cases e153
                      (try simp only [show (3 : Int).toNat = 3 from rfl, Nat.reduceMul, Nat.reduceEqDiff, Go.Addr.add, ↓reduceIte] at hx153_0)
                      have qi153 : (3 < x5_1.length) = True := eq_true (by omega)
                      (try rw [show ((3 : Int)).toNat = 3 from rfl] at hx153_0)
                      replace p153 := eq_true p153
                      replace q153 := eq_true q153
                      have p154 : 0 ≤ (2 : Int) := (by omega)
                      have q154 : 2 < (x5_1.length : Int) := of_decide_eq_true (by first | (with_reducible assumption) | assumption)
                      obtain ⟨ad154, e154, hx154_0⟩ := Kd.at_int (Kd.R_reads' HO_5.out).2.2 2 p154 q154
                      obtain rfl : ad153 = ad154 := (by injection e154)
                      (try simp only [show (2 : Int).toNat = 2 from rfl, Nat.reduceMul, Nat.reduceEqDiff, Go.Addr.add, ↓reduceIte] at hx154_0)
                      have qi154 : (2 < x5_1.length) = True := eq_true (by omega)
                      (try rw [show ((2 : Int)).toNat = 2 from rfl] at hx154_0)
                      replace p154 := eq_true p154
                      replace q154 := eq_true q154
                      go_wp2
                      go_ret
                      exact ⟨by first | rfl | (simp [errW_none, errW_some] <;> rfl) | (simp [*, errW_none, errW_some] <;> rfl), by repeat (first | (with_reducible first | exact HB.out | apply below_alloc | apply pw_below_drewN | apply below_drew1) | exact HB.out)⟩
                  · rw [if_neg c59] at H
                    exact absurd H (by simp)
                · rw [if_neg c58] at H
                  have c58b0 : ((rd x5_1 3) == a1) = false := beq_eq_false_iff_ne.mpr c58
                  have c58b1 : ((rd x5_1 3) != a1) = true := bne_iff_ne.mpr c58
                  obtain rfl := Option.some.inj H
                  obtain ⟨Ao67, co67, eo67⟩ := Kd.R_slice HO_5.out
                  subst eo67
                  have p153 : 0 ≤ (3 : Int) := (by omega)
                  have q153 : 3 < (x5_1.length : Int) := of_decide_eq_true (by first | (with_reducible assumption) | assumption)
                  obtain ⟨ad153, e153, hx153_0⟩ := Kd.at_int (Kd.R_reads' HO_5.out).2.2 3 p153 q153
                  cases e153
                  (try simp only [show (3 : Int).toNat = 3 from rfl, Nat.reduceMul, Nat.reduceEqDiff, Go.Addr.add, ↓reduceIte] at hx153_0)
                  have qi153 : (3 < x5_1.length) = True := eq_true (by omega)
                  (try rw [show ((3 : Int)).toNat = 3 from rfl] at hx153_0)
                  replace p153 := eq_true p153
                  replace q153 := eq_true q153
                  have p157 : 0 ≤ (3 : Int) := (by omega)
                  have q157 : 3 < (x5_1.length : Int) := of_decide_eq_true (by first | (with_reducible assumption) | assumption)
                  obtain ⟨ad157, e157, hx157_0⟩ := Kd.at_int (Kd.R_reads' HO_5.out).2.2 3 p157 q157
                  obtain rfl : ad153 = ad157 := (by injection e157)
                  (try simp only [show (3 : Int).toNat = 3 from rfl, Nat.reduceMul, Nat.reduceEqDiff, Go.Addr.add, ↓reduceIte] at hx157_0)
                  have qi157 : (3 < x5_1.length) = True := eq_true (by omega)
                  (try rw [show ((3 : Int)).toNat = 3 from rfl] at hx157_0)
                  replace p157 := eq_true p157
                  replace q157 := eq_true q157
                  go_wp2
                  go_ret
                  exact ⟨by first | rfl | (simp [errW_none, errW_some] <;> rfl) | (simp [*, errW_none, errW_some] <;> rfl), by repeat (first | (with_reducible first | exact HB.out | apply below_alloc | apply pw_below_drewN | apply below_drew1) | exact HB.out)⟩
              · rw [if_neg c57] at H
                exact absurd H (by simp)

end Go.Proofs.YtcbogkpgkdijaaaDoor.PShaSums
