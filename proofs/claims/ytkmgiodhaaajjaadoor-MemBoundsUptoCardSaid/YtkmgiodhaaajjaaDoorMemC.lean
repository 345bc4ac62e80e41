/- Layer mem: the bound. Layer mem: the deepest nesting. -/
import Derived.Test.YtkmgiodhaaajjaaDoorMemB
set_option linter.unusedVariables false
set_option linter.unusedSimpArgs false
namespace Go.Proofs.YtkmgiodhaaajjaaDoor.MemC
open Go.IntWalk Go.RowKit Go.Proofs.YtkmgiodhaaajjaaDoor.Mem Go.Proofs.YtkmgiodhaaajjaaDoor.App Go.Proofs.YtkmgiodhaaajjaaDoor.FloatB Go.Proofs.YtkmgiodhaaajjaaDoor.ItemP Go.Proofs.YtkmgiodhaaajjaaDoor.ItemM Go.Proofs.YtkmgiodhaaajjaaDoor.SchP Go.Proofs.YtkmgiodhaaajjaaDoor.SchM Go.Proofs.YtkmgiodhaaajjaaDoor.SchG Go.Proofs.YtkmgiodhaaajjaaDoor.SchJ Go.Proofs.YtkmgiodhaaajjaaDoor.SchN Go.Proofs.YtkmgiodhaaajjaaDoor.SchR Go.Proofs.YtkmgiodhaaajjaaDoor.MemA Go.Proofs.YtkmgiodhaaajjaaDoor.MemB

/-- The bound of limits and a schema, an error's number. -/
noncomputable def boundV (d k s : Int) (ns : List Nod) : Int × Int := if right d k s = false then (0, 15) else if (checkS ns).2 ≠ 0 then (0, (checkS ns).2) else (d * (2 * k + (longN ns : Int) + 1), 0)
theorem right_bd {d k s : Int} (h : right d k s = true) : 1 ≤ d ∧ d ≤ 64 ∧ 1 ≤ k ∧ k ≤ 1024 := by
  simp [right, within] at h
  omega
theorem mul_bd {d X : Int} (h1 : 0 ≤ d) (h2 : d ≤ 64) (h3 : 0 ≤ X) (h4 : X ≤ 140737488357400) : 0 ≤ d * X ∧ d * X ≤ 9007199254873600 := by
  have h5 : d * X ≤ 64 * X := Int.mul_le_mul_of_nonneg_right h2 h3
  exact ⟨Int.mul_nonneg h1 h3, by omega⟩

set_option maxRecDepth 100000 in
set_option maxHeartbeats 8000000 in
theorem bound_calls (d k s : Int) (ns : List Nod) (A : Option Addr) (M c h : Nat) (w : World) (hD : Dbl w) (hM : ns.length = M) (hc : M ≤ c) (hMm : M ≤ 1048576) (H : RdN w h A ns) :
    Calls Tryd.prog 39 #[.agg #[.int .i64 d, .int .i64 k, .int .i64 s], .agg #[.slice A M c]] w fun e w' => e = .returned (.tuple #[.int .i64 (boundV d k s ns).1, .int .i64 (boundV d k s ns).2]) ∧ Fr (fun _ => False) w w' := by
  have HDD := hid hD
  clear hD
  have HR := hid H
  have HM := hid hM
  have HLB := hid (long_rd H)
  clear H hM
  obtain ⟨w1, hw1⟩ : ∃ w1, (w.alloc (.cells #[.int .i64 d, .int .i64 k, .int .i64 s] 59)).alloc (.cells #[.slice A M c] 42) = w1 := ⟨_, rfl⟩
  have HF1 := hid (show Fr (fun _ => False) w w1 by rw [← hw1]; exact fr_2 _ _ _)
  have HBL := hid (show Blk w1 w.heap.size 59 #[.int .i64 d, .int .i64 k, .int .i64 s] by rw [← hw1]; exact (Blk.new w _ _).alloc _)
  have HBS := hid (show Blk w1 (w.heap.size + 1) 42 #[.slice A M c] by rw [← hw1]; have := Blk.new (w.alloc (.cells #[.int .i64 d, .int .i64 k, .int .i64 s] 59)) 42 #[.slice A M c]; rwa [World.size_alloc] at this)
  have HW1 := hid hw1
  have HR1 := hid (HR.out.fr0 HF1.out)
  have HS := hid (show ∀ w', Fr (fun _ => False) w1 w' → w'.cell? ⟨w.heap.size, 0, none⟩ = some (.int .i64 d) ∧ w'.cell? ⟨w.heap.size, 1, none⟩ = some (.int .i64 k) ∧ w'.cell? ⟨w.heap.size + 1, 0, none⟩ = some (.slice A M c) ∧ Fr (fun _ => False) w1 w' from fun w' hf => by
    obtain ⟨a0, a1, _⟩ := blk3 (HBL.out.fr hf (fun h => h))
    exact ⟨a0, a1, (blk1 (HBS.out.fr hf (fun h => h))).1, hf⟩)
  clear hw1
  obtain ⟨b, hb⟩ : ∃ b, right d k s = b := ⟨_, rfl⟩
  have HB := hid hb
  obtain ⟨ce, hce⟩ : ∃ x, (checkS ns).2 = x := ⟨_, rfl⟩
  have HCE := hid hce
  obtain ⟨L, hL⟩ : ∃ x, longN ns = x := ⟨_, rfl⟩
  have HL := hid hL
  rw [hL] at HLB
  have hLb := HLB.out
  clear hb hce hL
  obtain ⟨l0, l1, l2⟩ := blk3 HBL.out
  go_enter Tryd.func39, Tryd.ntmps39
  go_wp2_with fail
  rw [HW1.out]
  refine (lcheck_calls d k s w1).mono ?_
  rintro e w2 ⟨rfl, hf⟩
  have HF2 := hid hf
  clear hf l0 l1 l2
  obtain ⟨l0, l1, s0, _⟩ := HS.out _ HF2.out
  cases b with
  | false =>
    have HE := hid (show boundV d k s ns = (0, 15) by rw [boundV, if_pos HB.out])
    rw [show rightE d k s = 15 by rw [rightE, HB.out]; rfl]
    go_wp2_with fail
    go_ret2
    exact ⟨ret_two HE.out, HF1.out.trans HF2.out⟩
  | true =>
  rw [show rightE d k s = 0 by rw [rightE, HB.out]; rfl]
  go_wp2_with fail
  refine (scheck_calls ns A M c h w2 HM.out hc hMm ((HDD.out.fr0 HF1.out).fr0 HF2.out) (HR1.out.fr0 HF2.out)).mono ?_
  rintro e w3 ⟨rfl, hf⟩
  have HF3 := hid (HF2.out.then_ hf (fun _ _ h => h))
  obtain ⟨ca, hca⟩ : ∃ x, (checkS ns).1 = x := ⟨_, rfl⟩
  rw [hca, HCE.out]
  clear hf hca l0 l1 s0
  by_cases h0 : ce = 0
  · subst h0
    have HE := hid (show boundV d k s ns = (d * (2 * k + (L : Int) + 1), 0) by rw [boundV, if_neg (by rw [HB.out]; simp), if_neg (by rw [HCE.out]; simp), HL.out])
    obtain ⟨hd1, hd2, hk1, hk2⟩ := right_bd HB.out
    have hmb := mul_bd (d := d) (X := 2 * k + (L : Int) + 1) (by omega) hd2 (by omega) (by omega)
    have q1 : IntKind.i64.wrap (2 * k) = 2 * k := i64_in _ (by omega)
    have q2 : IntKind.i64.wrap (2 * k + (L : Int)) = 2 * k + (L : Int) := i64_in _ (by omega)
    have q3 : IntKind.i64.wrap (2 * k + (L : Int) + 1) = 2 * k + (L : Int) + 1 := i64_in _ (by omega)
    have q4 : IntKind.i64.wrap (d * (2 * k + (L : Int) + 1)) = d * (2 * k + (L : Int) + 1) := i64_in _ (by omega)
    have HLC := hid (fun wx (hf : wx.cell? ⟨w.heap.size, 0, none⟩ = some (.int .i64 d) ∧ wx.cell? ⟨w.heap.size, 1, none⟩ = some (.int .i64 k) ∧ wx.cell? ⟨w.heap.size + 1, 0, none⟩ = some (.slice A M c) ∧ Fr (fun _ => False) w1 wx) => (longest_calls ns A M c h wx HM.out hc hMm (HR1.out.fr0 hf.2.2.2)).mono (R' := fun e w' => e = .returned (.int .i64 (L : Int)) ∧ w'.cell? ⟨w.heap.size, 0, none⟩ = some (.int .i64 d) ∧ w'.cell? ⟨w.heap.size, 1, none⟩ = some (.int .i64 k) ∧ w'.cell? ⟨w.heap.size + 1, 0, none⟩ = some (.slice A M c) ∧ Fr (fun _ => False) w1 w') (fun e w' g => ⟨by rw [g.1, HL.out], HS.out w' (hf.2.2.2.then_ g.2 (fun _ _ h => h))⟩))
    go_wp2_with fail
    go_region_held3 (fun w' => w'.cell? ⟨w.heap.size, 0, none⟩ = some (.int .i64 d) ∧ w'.cell? ⟨w.heap.size, 1, none⟩ = some (.int .i64 k) ∧ w'.cell? ⟨w.heap.size + 1, 0, none⟩ = some (.slice A M c) ∧ Fr (fun _ => False) w1 w')
      (first | exact HS.out _ HF3.out | exact HS.out _ HF3.out.drew | assumption)
      ((go_at_call 43; with_reducible refine (HLC.out _ (by assumption)).mono ?_; rintro e w7 ⟨rfl, hS⟩))
    go_wp2_with fail
    go_ret2
    exact ⟨ret_two HE.out, HF1.out.trans hS.2.2.2⟩
  · have hb : (ce != 0) = true := bne_iff_ne.2 h0
    have HE := hid (show boundV d k s ns = (0, ce) by rw [boundV, if_neg (by rw [HB.out]; simp), if_pos (by rw [HCE.out]; exact h0), HCE.out])
    clear h0
    go_wp2_with fail
    go_ret2
    exact ⟨ret_two HE.out, HF1.out.trans HF3.out⟩

set_option maxRecDepth 100000 in
set_option maxHeartbeats 8000000 in
theorem rbound_calls (d k s : Int) (ns : List Nod) (A : Option Addr) (M c h : Nat) (w : World) (hM : ns.length = M) (hc : M ≤ c) (hMm : M ≤ 1048576) (H : RdN w h A ns) :
    Calls Tryd.prog 40 #[.agg #[.int .i64 d, .int .i64 k, .int .i64 s], .agg #[.slice A M c]] w fun e w' => e = .returned (.tuple #[.int .i64 (boundV d k s ns).1, .int .i64 (boundV d k s ns).2]) ∧ Fr (fun _ => False) w w' := by
  have HR := hid H
  have HM := hid hM
  have HLB := hid (long_rd H)
  clear H hM
  obtain ⟨w1, hw1⟩ : ∃ w1, (w.alloc (.cells #[.int .i64 d, .int .i64 k, .int .i64 s] 59)).alloc (.cells #[.slice A M c] 42) = w1 := ⟨_, rfl⟩
  have HF1 := hid (show Fr (fun _ => False) w w1 by rw [← hw1]; exact fr_2 _ _ _)
  have HBL := hid (show Blk w1 w.heap.size 59 #[.int .i64 d, .int .i64 k, .int .i64 s] by rw [← hw1]; exact (Blk.new w _ _).alloc _)
  have HBS := hid (show Blk w1 (w.heap.size + 1) 42 #[.slice A M c] by rw [← hw1]; have := Blk.new (w.alloc (.cells #[.int .i64 d, .int .i64 k, .int .i64 s] 59)) 42 #[.slice A M c]; rwa [World.size_alloc] at this)
  have HW1 := hid hw1
  have HR1 := hid (HR.out.fr0 HF1.out)
  have HS := hid (show ∀ w', Fr (fun _ => False) w1 w' → w'.cell? ⟨w.heap.size, 0, none⟩ = some (.int .i64 d) ∧ w'.cell? ⟨w.heap.size, 1, none⟩ = some (.int .i64 k) ∧ w'.cell? ⟨w.heap.size + 1, 0, none⟩ = some (.slice A M c) ∧ Fr (fun _ => False) w1 w' from fun w' hf => by
    obtain ⟨a0, a1, _⟩ := blk3 (HBL.out.fr hf (fun h => h))
    exact ⟨a0, a1, (blk1 (HBS.out.fr hf (fun h => h))).1, hf⟩)
  clear hw1
  obtain ⟨b, hb⟩ : ∃ b, right d k s = b := ⟨_, rfl⟩
  have HB := hid hb
  obtain ⟨ce, hce⟩ : ∃ x, (checkS ns).2 = x := ⟨_, rfl⟩
  have HCE := hid hce
  obtain ⟨L, hL⟩ : ∃ x, longN ns = x := ⟨_, rfl⟩
  have HL := hid hL
  rw [hL] at HLB
  have hLb := HLB.out
  clear hb hce hL
  obtain ⟨l0, l1, l2⟩ := blk3 HBL.out
  obtain ⟨s0, _⟩ := blk1 HBS.out
  obtain ⟨r, hr⟩ : ∃ r, (if right d k s = false then 15 else (checkS ns).2) = r := ⟨_, rfl⟩
  have HRR := hid hr
  go_enter Tryd.func40, Tryd.ntmps40
  clear hr
  go_wp2_with fail
  rw [HW1.out]
  refine (open_calls d k s ns A M c h w1 HM.out hc hMm HR1.out).mono ?_
  rintro e w2 ⟨rfl, hf⟩
  rw [HRR.out]
  have HF2 := hid hf
  clear hf l0 l1 l2 s0
  by_cases h0 : r = 0
  · have HBT := hid (show right d k s = true by
      cases b with
      | false => have := HRR.out; rw [if_pos HB.out] at this; omega
      | true => exact HB.out)
    have HC0 := hid (show (checkS ns).2 = 0 by have := HRR.out; rw [if_neg (by rw [HBT.out]; simp)] at this; omega)
    subst h0
    have HE := hid (show boundV d k s ns = (d * (2 * k + (L : Int) + 1), 0) by rw [boundV, if_neg (by rw [HBT.out]; simp), if_neg (by rw [HC0.out]; simp), HL.out])
    obtain ⟨hd1, hd2, hk1, hk2⟩ := right_bd HBT.out
    have HLC := hid (fun wx (hf : wx.cell? ⟨w.heap.size, 0, none⟩ = some (.int .i64 d) ∧ wx.cell? ⟨w.heap.size, 1, none⟩ = some (.int .i64 k) ∧ wx.cell? ⟨w.heap.size + 1, 0, none⟩ = some (.slice A M c) ∧ Fr (fun _ => False) w1 wx) => (rlongest_calls ns A M c h wx HM.out hc hMm (HR1.out.fr0 hf.2.2.2)).mono (R' := fun e w' => e = .returned (.int .i64 (L : Int)) ∧ w'.cell? ⟨w.heap.size, 0, none⟩ = some (.int .i64 d) ∧ w'.cell? ⟨w.heap.size, 1, none⟩ = some (.int .i64 k) ∧ w'.cell? ⟨w.heap.size + 1, 0, none⟩ = some (.slice A M c) ∧ Fr (fun _ => False) w1 w') (fun e w' g => ⟨by rw [g.1, HL.out], HS.out w' (hf.2.2.2.then_ g.2 (fun _ _ h => h))⟩))
    obtain ⟨D, rfl⟩ : ∃ D : Nat, d = D := ⟨d.toNat, by omega⟩
    have hD64 : D ≤ 64 := by omega
    go_wp2_with fail
    go_loopw [7, 8] (fun v7 v8 wr => ∃ j : Nat, j ≤ D ∧ v8 = .int .i64 j ∧ v7 = .int .i64 ((j : Int) * (2 * k + (L : Int) + 1)) ∧ Hid (Fr (fun _ => False) w1 wr)) (fun _ v8 _ => D - (intOf v8).toNat)
    case atStart => exact ⟨0, Nat.zero_le _, rfl, by simp, HF2⟩
    case round =>
      obtain ⟨j, hj, rfl, rfl, HF⟩ := hrel
      obtain ⟨l0, l1, s0, _⟩ := HS.out _ HF.out
      by_cases hlt : j < D
      · have hmb := mul_bd (d := (j : Int)) (X := 2 * k + (L : Int) + 1) (by omega) (by omega) (by omega) (by omega)
        have HNX := hid (show ((j + 1 : Nat) : Int) * (2 * k + (L : Int) + 1) = (j : Int) * (2 * k + (L : Int) + 1) + k + k + (L : Int) + 1 by
          rw [Int.natCast_add, Int.add_mul]
          simp
          omega)
        obtain ⟨N, hN⟩ : ∃ N, (j : Int) * (2 * k + (L : Int) + 1) = N := ⟨_, rfl⟩
        rw [hN] at hmb HNX ⊢
        have hjm : (j : Int) < (D : Int) := by omega
        have q1 : IntKind.i64.wrap (N + k) = N + k := i64_in _ (by omega)
        have q2 : IntKind.i64.wrap (N + k + k) = N + k + k := i64_in _ (by omega)
        have q3 : IntKind.i64.wrap (N + k + k + (L : Int)) = N + k + k + (L : Int) := i64_in _ (by omega)
        have q4 : IntKind.i64.wrap (N + k + k + (L : Int) + 1) = N + k + k + (L : Int) + 1 := i64_in _ (by omega)
        clear hN
        go_wp2_with fail
        clear l0 l1 s0
        go_region_held3 (fun w' => w'.cell? ⟨w.heap.size, 0, none⟩ = some (.int .i64 (D : Int)) ∧ w'.cell? ⟨w.heap.size, 1, none⟩ = some (.int .i64 k) ∧ w'.cell? ⟨w.heap.size + 1, 0, none⟩ = some (.slice A M c) ∧ Fr (fun _ => False) w1 w')
          (first | exact HS.out _ HF.out | exact HS.out _ HF.out.drew | assumption)
          ((go_at_call 44; with_reducible refine (HLC.out _ (by assumption)).mono ?_; rintro e w7 ⟨rfl, hS⟩))
        have HF9 := hid hS.2.2.2
        clear q1 q2 q3 q4
        go_wp2_with fail
        go_roundw
        case rel => exact ⟨j + 1, by omega, by go_num, congrArg (Value.int .i64) HNX.out.symm, HF9⟩
        case measure => simp [intOf]; omega
      · obtain rfl : j = D := by omega
        go_wp2_with fail
        go_ret2
        exact ⟨ret_two HE.out, HF1.out.trans HF.out⟩
  · have hb : (r != 0) = true := bne_iff_ne.2 h0
    have HE := hid (show boundV d k s ns = (0, r) by
      have := HRR.out
      rw [boundV]
      cases b with
      | false => rw [if_pos HB.out] at this; rw [if_pos HB.out, ← this]
      | true =>
        rw [if_neg (by rw [HB.out]; simp)] at this
        rw [if_neg (by rw [HB.out]; simp), if_pos (by rw [this]; exact h0), this])
    clear h0
    go_wp2_with fail
    go_ret2
    exact ⟨ret_two HE.out, HF1.out.trans HF2.out⟩
end Go.Proofs.YtkmgiodhaaajjaaDoor.MemC

namespace Go.Proofs.YtkmgiodhaaajjaaDoor.MemD
open Go.IntWalk Go.RowKit Go.Proofs.YtkmgiodhaaajjaaDoor.Mem Go.Proofs.YtkmgiodhaaajjaaDoor.App Go.Proofs.YtkmgiodhaaajjaaDoor.FloatB Go.Proofs.YtkmgiodhaaajjaaDoor.ItemP Go.Proofs.YtkmgiodhaaajjaaDoor.ItemM Go.Proofs.YtkmgiodhaaajjaaDoor.SchP Go.Proofs.YtkmgiodhaaajjaaDoor.SchM Go.Proofs.YtkmgiodhaaajjaaDoor.SchG Go.Proofs.YtkmgiodhaaajjaaDoor.SchJ Go.Proofs.YtkmgiodhaaajjaaDoor.SchN Go.Proofs.YtkmgiodhaaajjaaDoor.SchR Go.Proofs.YtkmgiodhaaajjaaDoor.MemA Go.Proofs.YtkmgiodhaaajjaaDoor.MemB Go.Proofs.YtkmgiodhaaajjaaDoor.MemC

/-- The deepest nesting that a budget allows, and whether it allows one. -/
noncomputable def deepV (g k : Int) (ns : List Nod) : Int × Bool := if (boundV 1 k 1 ns).2 ≠ 0 ∨ g < (boundV 1 k 1 ns).1 then (0, false) else (min (g / (boundV 1 k 1 ns).1) 64, true)
/-- The deepest nesting below a number that a budget allows. -/
def deepK (g X e j : Int) : Int := if e ≠ 0 ∨ g < X then 0 else min (g / X) (j - 1)
theorem bound_kk {k j X e : Int} {ns : List Nod} (h1 : 1 ≤ j) (h2 : j ≤ 64) (hX : boundV 1 k 1 ns = (X, e)) : boundV j k 1 ns = (if e = 0 then j * X else 0, e) := by
  have hr : right j k 1 = right 1 k 1 := by
    have : decide (1 ≤ j) = true := decide_eq_true h1
    have : decide (j ≤ 64) = true := decide_eq_true h2
    simp [right, within, *]
  rw [boundV] at hX ⊢
  rw [hr]
  by_cases a : right 1 k 1 = false
  · rw [if_pos a] at hX ⊢
    simp only [Prod.mk.injEq] at hX
    rw [← hX.2]; rfl
  · rw [if_neg a] at hX ⊢
    by_cases b : (checkS ns).2 ≠ 0
    · rw [if_pos b] at hX ⊢
      simp only [Prod.mk.injEq] at hX
      rw [← hX.2, if_neg b]
    · rw [if_neg b] at hX ⊢
      simp only [Prod.mk.injEq] at hX
      rw [← hX.2, if_pos rfl, ← hX.1, Int.one_mul]
theorem bound_pos {k X : Int} {ns : List Nod} (hX : boundV 1 k 1 ns = (X, 0)) : 1 ≤ X := by
  rw [boundV] at hX
  by_cases a : right 1 k 1 = false
  · rw [if_pos a] at hX
    simp at hX
  · rw [if_neg a] at hX
    by_cases b : (checkS ns).2 ≠ 0
    · rw [if_pos b] at hX
      simp only [Prod.mk.injEq] at hX
      exact absurd hX.2 b
    · rw [if_neg b] at hX
      simp only [Prod.mk.injEq] at hX
      have := right_bd (by simpa using a : right 1 k 1 = true)
      omega
theorem deepK_one (g X e : Int) (h : e = 0 → 1 ≤ X) : deepK g X e 1 = 0 := by
  unfold deepK
  split
  · rfl
  · rename_i a
    have a1 : e = 0 := by omega
    have a2 : X ≤ g := by omega
    have := Int.ediv_nonneg (a := g) (b := X) (by have := h a1; omega) (by have := h a1; omega)
    omega
theorem deepK_yes {g X j : Int} (hX : 1 ≤ X) (hj : 1 ≤ j) (h : j * X ≤ g) : deepK g X 0 (j + 1) = j := by
  have h1 : j ≤ g / X := (Int.le_ediv_iff_mul_le (by omega)).2 h
  have h2 : X ≤ j * X := by have := Int.mul_le_mul_of_nonneg_right hj (show 0 ≤ X by omega); omega
  unfold deepK
  rw [if_neg (by omega)]
  omega
theorem deepK_no {g X j : Int} (hX : 1 ≤ X) (hj : 1 ≤ j) (h : ¬ j * X ≤ g) : deepK g X 0 (j + 1) = deepK g X 0 j := by
  have h1 : ¬ j ≤ g / X := fun a => h ((Int.le_ediv_iff_mul_le (by omega)).1 a)
  unfold deepK
  split
  · rfl
  · omega
theorem deepK_err {g X e j : Int} (he : e ≠ 0) : deepK g X e j = 0 := by
  unfold deepK
  rw [if_pos (.inl he)]
theorem deepK_end {g k X e : Int} {ns : List Nod} (hX : boundV 1 k 1 ns = (X, e)) (h : e = 0 → 1 ≤ X) : deepV g k ns = (deepK g X e 65, decide (0 < deepK g X e 65)) := by
  unfold deepV deepK
  rw [hX]
  by_cases a : e ≠ 0 ∨ g < X
  · rw [if_pos a, if_pos a]; rfl
  · rw [if_neg a, if_neg a]
    have a1 : e = 0 := by omega
    have a2 : X ≤ g := by omega
    have := (Int.le_ediv_iff_mul_le (a := 1) (b := g) (c := X) (by have := h a1; omega)).2 (by omega)
    rw [decide_eq_true (by show 0 < min (g / X) (65 - 1); omega)]
    rfl

theorem ret_ib {a : Int × Bool} {x : Int} {b : Bool} (h : a = (x, b)) : Ending.returned (.tuple #[.int .i64 x, .bool b]) = Ending.returned (.tuple #[.int .i64 a.1, .bool a.2]) := by rw [h]

set_option maxRecDepth 100000 in
set_option maxHeartbeats 8000000 in
theorem deepest_calls (g k : Int) (ns : List Nod) (A : Option Addr) (M c h : Nat) (w : World) (hg : -9223372036854775808 ≤ g ∧ g ≤ 9223372036854775807) (hD : Dbl w) (hM : ns.length = M) (hc : M ≤ c) (hMm : M ≤ 1048576) (H : RdN w h A ns) :
    Calls Tryd.prog 41 #[.int .i64 g, .int .i64 k, .agg #[.slice A M c]] w fun e w' => e = .returned (.tuple #[.int .i64 (deepV g k ns).1, .bool (deepV g k ns).2]) ∧ Fr (fun _ => False) w w' := by
  have HDD := hid hD
  clear hD
  have HR := hid H
  have HM := hid hM
  clear H hM
  obtain ⟨w1, hw1⟩ : ∃ w1, w.alloc (.cells #[.slice A M c] 42) = w1 := ⟨_, rfl⟩
  have HF1 := hid (show Fr (fun _ => False) w w1 by rw [← hw1]; exact (Fr.refl _ w).alloc _)
  have HBS := hid (show Blk w1 w.heap.size 42 #[.slice A M c] by rw [← hw1]; exact Blk.new w _ _)
  have HW1 := hid hw1
  have HR1 := hid (HR.out.fr0 HF1.out)
  have HS := hid (show ∀ w', Fr (fun _ => False) w1 w' → w'.cell? ⟨w.heap.size, 0, none⟩ = some (.slice A M c) from fun w' hf => (blk1 (HBS.out.fr hf (fun h => h))).1)
  clear hw1
  obtain ⟨X, e, hX⟩ : ∃ X e, boundV 1 k 1 ns = (X, e) := ⟨_, _, rfl⟩
  have HX := hid hX
  clear hX
  have s0 := HS.out w1 (Fr.refl _ _)
  go_enter Tryd.func41, Tryd.ntmps41
  go_wp2_with fail
  rw [HW1.out]
  go_wp2_with fail
  refine (bound_calls 1 k 1 ns A M c h w1 (HDD.out.fr0 HF1.out) HM.out hc hMm HR1.out).mono ?_
  rintro e' w2 ⟨rfl, hf⟩
  have HF2 := hid hf
  rw [HX.out]
  clear hf s0
  by_cases h0 : e = 0
  · subst h0
    have hp := bound_pos HX.out
    have HP := hid hp
    by_cases hlt : g < X
    · have HE := hid (show deepV g k ns = (0, false) by rw [deepV, HX.out, if_pos (.inr hlt)])
      go_wp2_with fail
      go_ret2
      exact ⟨ret_ib HE.out, HF1.out.trans HF2.out⟩
    · have HE := hid (show deepV g k ns = (min (g / X) 64, true) by rw [deepV, HX.out, if_neg (by simp; omega)])
      have hX0 : X ≠ 0 := by omega
      go_wp2_with fail
      all_goals go_ret2
      all_goals exact ⟨ret_ib (HE.out.trans (Prod.ext (by show min (g / X) 64 = _; omega) rfl)), HF1.out.trans HF2.out⟩
  · have hb : (e != 0) = true := bne_iff_ne.2 h0
    have HE := hid (show deepV g k ns = (0, false) by rw [deepV, HX.out, if_pos (.inl h0)])
    clear h0
    go_wp2_with fail
    go_ret2
    exact ⟨ret_ib HE.out, HF1.out.trans HF2.out⟩

set_option maxRecDepth 100000 in
set_option maxHeartbeats 8000000 in
theorem rdeepest_calls (g k : Int) (ns : List Nod) (A : Option Addr) (M c h : Nat) (w : World) (hM : ns.length = M) (hc : M ≤ c) (hMm : M ≤ 1048576) (H : RdN w h A ns) :
    Calls Tryd.prog 42 #[.int .i64 g, .int .i64 k, .agg #[.slice A M c]] w fun e w' => e = .returned (.tuple #[.int .i64 (deepV g k ns).1, .bool (deepV g k ns).2]) ∧ Fr (fun _ => False) w w' := by
  have HR := hid H
  have HM := hid hM
  clear H hM
  obtain ⟨w1, hw1⟩ : ∃ w1, w.alloc (.cells #[.slice A M c] 42) = w1 := ⟨_, rfl⟩
  have HF1 := hid (show Fr (fun _ => False) w w1 by rw [← hw1]; exact (Fr.refl _ w).alloc _)
  have HBS := hid (show Blk w1 w.heap.size 42 #[.slice A M c] by rw [← hw1]; exact Blk.new w _ _)
  have HW1 := hid hw1
  have HR1 := hid (HR.out.fr0 HF1.out)
  have HS := hid (show ∀ w', Fr (fun _ => False) w1 w' → w'.cell? ⟨w.heap.size, 0, none⟩ = some (.slice A M c) from fun w' hf => (blk1 (HBS.out.fr hf (fun h => h))).1)
  clear hw1
  obtain ⟨X, e, hX⟩ : ∃ X e, boundV 1 k 1 ns = (X, e) := ⟨_, _, rfl⟩
  have HX := hid hX
  have HP := hid (show e = 0 → 1 ≤ X from fun h => bound_pos (by rw [hX, h]))
  have HE := hid (deepK_end (g := g) hX HP.out)
  clear hX
  go_enter Tryd.func42, Tryd.ntmps42
  go_wp2_with fail
  rw [HW1.out]
  go_loopw [8, 9] (fun v8 v9 wr => ∃ j : Nat, 1 ≤ j ∧ j ≤ 65 ∧ v9 = .int .i64 j ∧ v8 = .int .i64 (deepK g X e j) ∧ Hid (Fr (fun _ => False) w1 wr)) (fun _ v9 _ => 65 - (intOf v9).toNat)
  case atStart => exact ⟨1, Nat.le_refl _, by omega, rfl, congrArg (Value.int .i64) (deepK_one g X e HP.out).symm, hid (Fr.refl _ _)⟩
  case round =>
    obtain ⟨j, hj1, hj, rfl, rfl, HF⟩ := hrel
    have s0 := HS.out _ HF.out
    by_cases hlt : j < 65
    · have hjm : (j : Int) ≤ 64 := by omega
      go_wp2_with fail
      refine (rbound_calls (j : Int) k 1 ns A M c h _ HM.out hc hMm (HR1.out.fr0 HF.out)).mono ?_
      rintro e' w2 ⟨rfl, hf⟩
      have HF2 := hid (HF.out.then_ hf (fun _ _ h => h))
      rw [bound_kk (j := (j : Int)) (by omega) (by omega) HX.out]
      clear hf s0
      by_cases h0 : e = 0
      · subst h0
        rw [if_pos rfl]
        have HXp := hid (HP.out rfl)
        by_cases hle : (j : Int) * X ≤ g
        · have HK := hid (show deepK g X 0 ((j + 1 : Nat) : Int) = j from deepK_yes HXp.out (by omega) hle)
          obtain ⟨N, hN⟩ : ∃ N, (j : Int) * X = N := ⟨_, rfl⟩
          rw [hN] at hle ⊢
          clear hN
          go_wp2_with fail
          go_roundw
          case rel => exact ⟨j + 1, by omega, by omega, by go_num, congrArg (Value.int .i64) HK.out.symm, HF2⟩
          case measure => simp [intOf]; omega
        · have HK := hid (show deepK g X 0 ((j + 1 : Nat) : Int) = deepK g X 0 j from deepK_no HXp.out (by omega) hle)
          obtain ⟨N, hN⟩ : ∃ N, (j : Int) * X = N := ⟨_, rfl⟩
          rw [hN] at hle ⊢
          clear hN
          go_wp2_with fail
          go_roundw
          case rel => exact ⟨j + 1, by omega, by omega, by go_num, congrArg (Value.int .i64) HK.out.symm, HF2⟩
          case measure => simp [intOf]; omega
      · have HK := hid (show deepK g X e ((j + 1 : Nat) : Int) = deepK g X e j by rw [deepK_err h0, deepK_err h0])
        have hb : (e == 0) = false := beq_eq_false_iff_ne.2 h0
        rw [if_neg h0]
        clear h0
        go_wp2_with fail
        go_roundw
        case rel => exact ⟨j + 1, by omega, by omega, by go_num, congrArg (Value.int .i64) HK.out.symm, HF2⟩
        case measure => simp [intOf]; omega
    · obtain rfl : j = 65 := by omega
      obtain ⟨V, hV⟩ : ∃ V, deepK g X e 65 = V := ⟨_, rfl⟩
      have HV := hid hV
      rw [show ((65 : Nat) : Int) = 65 from rfl, hV]
      clear hV
      by_cases h0 : 0 < V
      · have HE2 := hid (show deepV g k ns = (V, true) by rw [HE.out, HV.out, decide_eq_true h0])
        go_wp2_with fail
        go_ret2
        exact ⟨ret_ib HE2.out, HF1.out.trans HF.out⟩
      · have HE2 := hid (show deepV g k ns = (V, false) by rw [HE.out, HV.out, decide_eq_false h0])
        go_wp2_with fail
        go_ret2
        exact ⟨ret_ib HE2.out, HF1.out.trans HF.out⟩
end Go.Proofs.YtkmgiodhaaajjaaDoor.MemD
