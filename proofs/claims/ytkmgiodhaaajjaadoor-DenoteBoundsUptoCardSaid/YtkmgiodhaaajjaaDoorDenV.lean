/- Layer denote: the law DenoteBounds. -/
import Derived.Test.YtkmgiodhaaajjaaDoorDenY
import Derived.Test.YtkmgiodhaaajjaaDoorItemW
import Derived.Test.YtkmgiodhaaajjaaDoorRowItem
import Derived.Test.YtkmgiodhaaajjaaDoorDbl
import Derived.Deep.RegionHeld3
set_option linter.unusedVariables false
set_option linter.unusedSimpArgs false
namespace Go.Proofs.YtkmgiodhaaajjaaDoor.DenV
open Go.IntWalk Go.RowKit Go.Proofs.YtkmgiodhaaajjaaDoor.Mem Go.Proofs.YtkmgiodhaaajjaaDoor.App Go.Proofs.YtkmgiodhaaajjaaDoor.FloatB Go.Proofs.YtkmgiodhaaajjaaDoor.ItemP Go.Proofs.YtkmgiodhaaajjaaDoor.ItemM Go.Proofs.YtkmgiodhaaajjaaDoor.ItemB Go.Proofs.YtkmgiodhaaajjaaDoor.ItemT Go.Proofs.YtkmgiodhaaajjaaDoor.ItemU Go.Proofs.YtkmgiodhaaajjaaDoor.ItemW Go.Proofs.YtkmgiodhaaajjaaDoor.SchP Go.Proofs.YtkmgiodhaaajjaaDoor.SchM Go.Proofs.YtkmgiodhaaajjaaDoor.SchG Go.Proofs.YtkmgiodhaaajjaaDoor.SchI Go.Proofs.YtkmgiodhaaajjaaDoor.SchJ Go.Proofs.YtkmgiodhaaajjaaDoor.DenP Go.Proofs.YtkmgiodhaaajjaaDoor.DenA Go.Proofs.YtkmgiodhaaajjaaDoor.DenF Go.Proofs.YtkmgiodhaaajjaaDoor.DenG Go.Proofs.YtkmgiodhaaajjaaDoor.DenY

/-- A choice of two nodes of one kind, each with its bounds. -/
def bd (k a b a' b' : Int) : List Nod := [⟨10, 0, 0, noIt, [1, 2], []⟩, ⟨k, a, b, noIt, [], []⟩, ⟨k, a', b', noIt, [], []⟩]
theorem bd_check {k a b a' b' : Int} (hk : k = 1 ∨ k = 2 ∨ k = 3) (h : 0 ≤ a ∧ a ≤ b ∧ 0 ≤ a' ∧ a' ≤ b') : checkS (bd k a b a' b') = (0, 0) := by
  obtain ⟨h1, h2, h3, h4⟩ := h
  have e0 : (⟨10, 0, 0, noIt, [1, 2], []⟩ : Nod).wrong 0 3 = 0 := by simp [Nod.wrong, Nod.formB, Nod.ok, Nod.bare, Nod.bounds, keysE, Nod.named, badN]
  have e1 : (⟨k, a, b, noIt, [], []⟩ : Nod).wrong 1 3 = 0 := by
    rcases hk with rfl | rfl | rfl <;> simp [Nod.wrong, Nod.formB, Nod.ok, Nod.bare, Nod.bounds, keysE, Nod.named, badN, h1, h2]
  have e2 : (⟨k, a', b', noIt, [], []⟩ : Nod).wrong 2 3 = 0 := by
    rcases hk with rfl | rfl | rfl <;> simp [Nod.wrong, Nod.formB, Nod.ok, Nod.bare, Nod.bounds, keysE, Nod.named, badN, h3, h4]
  rw [checkS, if_neg (by simp [bd])]
  show checkFrom (bd k a b a' b') 0 3 = _
  rw [bd, checkFrom, if_neg (by rw [e0]; simp), checkFrom, if_neg (by rw [e1]; simp), checkFrom, if_neg (by rw [e2]; simp)]
  rfl
theorem bd_mono {k a b a' b' : Int} (hk : k = 1 ∨ k = 2 ∨ k = 3) (h1 : a' ≤ a) (h2 : b ≤ b') {x : It} {B B' : Nat → Int → Bool} {g g' : Int → Bool} (h : oneV ⟨k, a, b, noIt, [], []⟩ x B g = true) : oneV ⟨k, a', b', noIt, [], []⟩ x B' g' = true := by
  rcases hk with rfl | rfl | rfl
  · rw [one1 rfl] at h ⊢
    obtain ⟨xk, xn, xs, xl⟩ := x
    rw [num_eq] at h ⊢
    simp only [Bool.and_eq_true, decide_eq_true_eq] at h ⊢
    exact ⟨h.1, by omega, by omega⟩
  · rw [one2 rfl] at h ⊢
    simp only [Bool.and_eq_true, decide_eq_true_eq] at h ⊢
    exact ⟨h.1, by omega, by omega⟩
  · rw [one3 rfl] at h ⊢
    simp only [Bool.and_eq_true, decide_eq_true_eq] at h ⊢
    exact ⟨h.1, by omega, by omega⟩
theorem bd_mat {k a b a' b' : Int} (hk : k = 1 ∨ k = 2 ∨ k = 3) (h : 0 ≤ a ∧ a ≤ b ∧ 0 ≤ a' ∧ a' ≤ b') (h1 : a' ≤ a) (h2 : b ≤ b') {x : It} (hx : x.check = 0) :
    ∃ r1 r2 : Bool, matV (bd k a b a' b') 0 x = (r1 || r2) ∧ matV (bd k a b a' b') 1 x = r1 ∧ matV (bd k a b a' b') 2 x = r2 ∧ (r1 = true → r2 = true) := by
  have hl : Leads (bd k a b a' b') := leads_of (by rw [bd_check hk h])
  have hm : ∀ i : Nat, i < 3 → matV (bd k a b a' b') i x = isV (bd k a b a' b') i x := fun i hi => by
    have hs : schV (bd k a b a' b') x = (isV (bd k a b a' b') 0 x, 0) := by unfold schV; rw [bd_check hk h, hx]; simp
    rw [matV, hs]
    have : (i : Int) < ((bd k a b a' b').length : Int) := by show (i : Int) < 3; omega
    simp [this]
  have i0 := isV_eq hl 0 x (by simp [bd])
  have i1 := isV_eq hl 1 x (by simp [bd])
  have i2 := isV_eq hl 2 x (by simp [bd])
  refine ⟨isV (bd k a b a' b') 1 x, isV (bd k a b a' b') 2 x, ?_, hm 1 (by omega), hm 2 (by omega), fun h => ?_⟩
  · rw [show (0 : Int) = ((0 : Nat) : Int) from rfl, hm 0 (by omega), i0]
    show oneV ⟨10, 0, 0, noIt, [1, 2], []⟩ x _ _ = _
    rw [one10 rfl]
    simp
  · rw [i1] at h
    rw [i2]
    exact bd_mono hk h1 h2 h
theorem bd_at (w1 : World) (f g : Nat) (k a b a' b' : Int) (hk : k = 1 ∨ k = 2 ∨ k = 3) (ha : -1 ≤ a ∧ a ≤ 1000) (hb : -1 ≤ b ∧ b ≤ 1000) (ha' : -1 ≤ a' ∧ a' ≤ 1000) (hb' : -1 ≤ b' ∧ b' ≤ 1000) (h1 : Blk w1 f 3 #[.int .i64 1, .int .i64 2]) (h3 : Blk w1 g 54 #[.int .i64 10, .int .i64 0, .int .i64 0, .int .i64 0, .int .u64 0, .string { data := #[] }, .slice none 0 0, .slice (some ⟨f, 0, none⟩) 2 2, .slice none 0 0, .int .i64 k, .int .i64 a, .int .i64 b, .int .i64 0, .int .u64 0, .string { data := #[] }, .slice none 0 0, .slice none 0 0, .slice none 0 0, .int .i64 k, .int .i64 a', .int .i64 b', .int .i64 0, .int .u64 0, .string { data := #[] }, .slice none 0 0, .slice none 0 0, .slice none 0 0]) : RdN w1 0 (some ⟨g, 0, none⟩) (bd k a b a' b') := by
  have r1 : RdI .i64 w1 (some ⟨f, 0, none⟩) [1, 2] := VecI.rd (show VecI .i64 3 w1 f [1, 2] from h1)
  intro i hi
  have hi3 : i = 0 ∨ i = 1 ∨ i = 2 := by simp [bd] at hi; omega
  rcases hi3 with rfl | rfl | rfl
  · refine ⟨⟨g, 0, none⟩, none, 0, some ⟨f, 0, none⟩, 2, none, 0, rfl, h3.lt, fun j hj => ?_, noIt_r w1 0 _ (Nat.zero_le _) rfl r1 (RdF.nil _ _) (by simp [bd]) (by simp [bd]) (by simp [bd]) (by simp [bd]) (by simp [bd]) (by simp [bd]) (by simp [bd]) (by simp [bd])⟩
    rw [add_plain, h3.cell]
    rcases nine_cases hj with rfl | rfl | rfl | rfl | rfl | rfl | rfl | rfl | rfl <;> rfl
  · refine ⟨⟨g, 0, none⟩, none, 0, none, 0, none, 0, rfl, h3.lt, fun j hj => ?_, noIt_r w1 0 _ (Nat.zero_le _) rfl (rdI_nil _ _ _) (RdF.nil _ _) (by simp [bd]) (by simp [bd]) (by simp [bd]) (by simp [bd]) (show -9223372036854775808 ≤ k ∧ k ≤ 9223372036854775807 by omega) (show -9223372036854775808 ≤ a ∧ a ≤ 9223372036854775807 by omega) (show -9223372036854775808 ≤ b ∧ b ≤ 9223372036854775807 by omega) (by simp [bd])⟩
    rw [add_plain, h3.cell]
    rcases nine_cases hj with rfl | rfl | rfl | rfl | rfl | rfl | rfl | rfl | rfl <;> rfl
  · refine ⟨⟨g, 0, none⟩, none, 0, none, 0, none, 0, rfl, h3.lt, fun j hj => ?_, noIt_r w1 0 _ (Nat.zero_le _) rfl (rdI_nil _ _ _) (RdF.nil _ _) (by simp [bd]) (by simp [bd]) (by simp [bd]) (by simp [bd]) (show -9223372036854775808 ≤ k ∧ k ≤ 9223372036854775807 by omega) (show -9223372036854775808 ≤ a' ∧ a' ≤ 9223372036854775807 by omega) (show -9223372036854775808 ≤ b' ∧ b' ≤ 9223372036854775807 by omega) (by simp [bd])⟩
    rw [add_plain, h3.cell]
    rcases nine_cases hj with rfl | rfl | rfl | rfl | rfl | rfl | rfl | rfl | rfl <;> rfl

set_option maxRecDepth 100000 in
set_option maxHeartbeats 8000000 in
theorem law_00 (x : It) (hxz : x.size ≤ 2000000) (cs : List Value) (kk lo hi mo q : Nat) (hkk : kk = 3 * q + 0) (hkk2 : kk ≤ 255) (hlo : lo ≤ 255) (hhi : hi ≤ 255) (hmo : mo ≤ 255) (ht : 0 < (lo : Int) - (mo : Int)) (w : World) (hD : Dbl w) (hat : ItAt w 0 w.heap.size x cs) :
    Calls Tryd.prog 8 #[.agg cs.toArray, .int .u8 (kk : Int), .int .u8 (lo : Int), .int .u8 (hi : Int), .int .u8 (mo : Int)] w fun e w' => e = .returned (.bool true) ∧ Fr (fun _ => False) w w' := by
  have HDD := hid hD
  have HXZ := hid hxz
  have HTT := hid ht
  have hat' := hat
  obtain ⟨xk, xn, xs, xl⟩ := x
  obtain ⟨Ax, cx, rfl, hxc, hxk, hxn, hxss, hxl, hL⟩ := hat
  have HAT := hid hat'
  obtain ⟨xm, hxm⟩ : ∃ m, xl.length = m := ⟨_, rfl⟩
  rw [hxm] at HAT ⊢
  obtain ⟨x, hxx⟩ : ∃ x, x = It.mk xk xn xs xl := ⟨_, rfl⟩
  rw [← hxx] at HAT HXZ
  have htm : Int.tmod (kk : Int) 3 = 0 := by rw [Int.tmod_eq_emod_of_nonneg (by omega)]; omega
  have hk1 : IntKind.i64.wrap (kk : Int) = (kk : Int) := i64_in _ (by omega)
  have hk2 : IntKind.i64.wrap (lo : Int) = (lo : Int) := i64_in _ (by omega)
  have hk3 : IntKind.i64.wrap (hi : Int) = (hi : Int) := i64_in _ (by omega)
  have hk4 : IntKind.i64.wrap (mo : Int) = (mo : Int) := i64_in _ (by omega)
  have hk5 : IntKind.i64.wrap ((lo : Int) + (hi : Int)) = (lo : Int) + (hi : Int) := i64_in _ (by omega)
  have hk6 : IntKind.i64.wrap ((lo : Int) - (mo : Int)) = (lo : Int) - (mo : Int) := i64_in _ (by omega)
  have hk7 : IntKind.i64.wrap ((lo : Int) + (hi : Int) + (mo : Int)) = (lo : Int) + (hi : Int) + (mo : Int) := i64_in _ (by omega)
  have ht1 : ¬ (lo : Int) - (mo : Int) ≤ 0 := by omega
  have ht2 : ¬ (lo : Int) - (mo : Int) < 0 := by omega
  have ht3 : 0 ≤ (lo : Int) - (mo : Int) := by omega
  obtain ⟨w1, hw1⟩ : ∃ w1, w.alloc (.cells #[.int .i64 xk, .int .u64 xn, .string xs, .slice Ax xm cx] 25) = w1 := ⟨_, rfl⟩
  have HF1 := hid (show Fr (fun _ => False) w w1 by rw [← hw1]; exact (Fr.refl _ w).alloc _)
  have HBX := hid (show Blk w1 w.heap.size 25 #[.int .i64 xk, .int .u64 xn, .string xs, .slice Ax xm cx] by rw [← hw1]; exact Blk.new _ _ _)
  have HW1 := hid hw1
  have HSX := hid (show ∀ w', Fr (fun _ => False) w1 w' → w'.cell? ⟨w.heap.size, 0, none⟩ = some (.int .i64 xk) ∧ w'.cell? ⟨w.heap.size, 1, none⟩ = some (.int .u64 xn) ∧ w'.cell? ⟨w.heap.size, 2, none⟩ = some (.string xs) ∧ w'.cell? ⟨w.heap.size, 3, none⟩ = some (.slice Ax xm cx) from fun w' hf => by
    have hB := HBX.out.fr hf (fun h => h)
    have e0 := hB.cell 0
    have e1 := hB.cell 1
    have e2 := hB.cell 2
    have e3 := hB.cell 3
    simp at e0 e1 e2 e3
    exact ⟨e0, e1, e2, e3⟩)
  clear hD hxz hat' hxm hxx hL hw1 hkk
  go_enter Tryd.func8, Tryd.ntmps8
  go_wp2_with fail
  rw [HW1.out]
  refine (DenY.awake_calls w1 (HDD.out.fr0 HF1.out)).mono ?_
  rintro e w2 ⟨rfl, hf⟩
  have HF2 := hid hf
  obtain ⟨c0, c1, c2, c3⟩ := HSX.out w2 hf
  clear hf
  go_wp2_with fail
  refine (great_calls x HXZ.out 0 w.heap.size _ w2 (HF1.out.trans HF2.out).size (HAT.out.fr0 (HF1.out.trans HF2.out) (Nat.le_refl _))).mono ?_
  rintro e w3 ⟨⟨g, rfl⟩, hf⟩
  have HF3 := hid (HF2.out.then_ hf (fun _ _ h => h))
  clear hf c0 c1 c2 c3
  cases g with
  | true =>
    go_wp2_with fail
    go_ret
    exact ⟨rfl, HF1.out.trans HF3.out⟩
  | false =>
  obtain ⟨c0, c1, c2, c3⟩ := HSX.out w3 HF3.out
  go_wp2_with fail
  refine (refcheck_calls x HXZ.out 0 w.heap.size _ w3 (HF1.out.trans HF3.out).size (HAT.out.fr0 (HF1.out.trans HF3.out) (Nat.le_refl _))).mono ?_
  rintro e w4 ⟨rfl, hf⟩
  have HF4 := hid (HF3.out.then_ hf (fun _ _ h => h))
  obtain ⟨ce, hce⟩ : ∃ ce, x.check = ce := ⟨_, rfl⟩
  have HCE := hid hce
  rw [hce]
  clear hf hce c0 c1 c2 c3
  by_cases h0 : ce = 0
  · subst h0
    obtain ⟨r1, r2, hm0, hm1, hm2, him⟩ := bd_mat (k := 1) (a := (lo : Int)) (b := ((lo : Int) + (hi : Int))) (a' := ((lo : Int) - (mo : Int))) (b' := ((lo : Int) + (hi : Int) + (mo : Int))) (by omega) (by omega) (by omega) (by omega) HCE.out
    have HM0 := hid hm0
    have HM1 := hid hm1
    have HM2 := hid hm2
    have HIM := hid him
    obtain ⟨w6, hw6⟩ : ∃ w6, (((w4.alloc (.cells #[.int .i64 1, .int .i64 2, .int .i64 3] 3)).alloc (.cells #[.int .i64 1, .int .i64 2] 3)).alloc (.cells #[.int .i64 10, .int .i64 0, .int .i64 0, .int .i64 0, .int .u64 0, .string { data := #[] }, .slice none 0 0, .slice (some ⟨w4.heap.size + 1, 0, none⟩) 2 2, .slice none 0 0, .int .i64 1, .int .i64 (lo : Int), .int .i64 ((lo : Int) + (hi : Int)), .int .i64 0, .int .u64 0, .string { data := #[] }, .slice none 0 0, .slice none 0 0, .slice none 0 0, .int .i64 1, .int .i64 ((lo : Int) - (mo : Int)), .int .i64 ((lo : Int) + (hi : Int) + (mo : Int)), .int .i64 0, .int .u64 0, .string { data := #[] }, .slice none 0 0, .slice none 0 0, .slice none 0 0] 54)).alloc (.cells #[.slice (some ⟨w4.heap.size + 1 + 1, 0, none⟩) 3 3] 42) = w6 := ⟨_, rfl⟩
    have HF6w := hid (show Fr (fun _ => False) w1 w6 by rw [← hw6]; exact ((((HF4.out.alloc _).alloc _).alloc _).alloc _))
    have HF6 := hid (HF1.out.trans HF6w.out)
    have HB1 := hid (show Blk w6 (w4.heap.size + 1) 3 #[.int .i64 1, .int .i64 2] by
      rw [← hw6]
      have := Blk.new (w4.alloc (.cells #[.int .i64 1, .int .i64 2, .int .i64 3] 3)) 3 #[.int .i64 1, .int .i64 2]
      rw [World.size_alloc] at this
      exact (this.alloc _).alloc _)
    have HB2 := hid (show Blk w6 (w4.heap.size + 1 + 1) 54 #[.int .i64 10, .int .i64 0, .int .i64 0, .int .i64 0, .int .u64 0, .string { data := #[] }, .slice none 0 0, .slice (some ⟨w4.heap.size + 1, 0, none⟩) 2 2, .slice none 0 0, .int .i64 1, .int .i64 (lo : Int), .int .i64 ((lo : Int) + (hi : Int)), .int .i64 0, .int .u64 0, .string { data := #[] }, .slice none 0 0, .slice none 0 0, .slice none 0 0, .int .i64 1, .int .i64 ((lo : Int) - (mo : Int)), .int .i64 ((lo : Int) + (hi : Int) + (mo : Int)), .int .i64 0, .int .u64 0, .string { data := #[] }, .slice none 0 0, .slice none 0 0, .slice none 0 0] by
      rw [← hw6]
      have := Blk.new ((w4.alloc (.cells #[.int .i64 1, .int .i64 2, .int .i64 3] 3)).alloc (.cells #[.int .i64 1, .int .i64 2] 3)) 54 #[.int .i64 10, .int .i64 0, .int .i64 0, .int .i64 0, .int .u64 0, .string { data := #[] }, .slice none 0 0, .slice (some ⟨w4.heap.size + 1, 0, none⟩) 2 2, .slice none 0 0, .int .i64 1, .int .i64 (lo : Int), .int .i64 ((lo : Int) + (hi : Int)), .int .i64 0, .int .u64 0, .string { data := #[] }, .slice none 0 0, .slice none 0 0, .slice none 0 0, .int .i64 1, .int .i64 ((lo : Int) - (mo : Int)), .int .i64 ((lo : Int) + (hi : Int) + (mo : Int)), .int .i64 0, .int .u64 0, .string { data := #[] }, .slice none 0 0, .slice none 0 0, .slice none 0 0]
      rw [World.size_alloc, World.size_alloc] at this
      exact this.alloc _)
    have HB3 := hid (show Blk w6 (w4.heap.size + 1 + 1 + 1) 42 #[.slice (some ⟨w4.heap.size + 1 + 1, 0, none⟩) 3 3] by
      rw [← hw6]
      have := Blk.new (((w4.alloc (.cells #[.int .i64 1, .int .i64 2, .int .i64 3] 3)).alloc (.cells #[.int .i64 1, .int .i64 2] 3)).alloc (.cells #[.int .i64 10, .int .i64 0, .int .i64 0, .int .i64 0, .int .u64 0, .string { data := #[] }, .slice none 0 0, .slice (some ⟨w4.heap.size + 1, 0, none⟩) 2 2, .slice none 0 0, .int .i64 1, .int .i64 (lo : Int), .int .i64 ((lo : Int) + (hi : Int)), .int .i64 0, .int .u64 0, .string { data := #[] }, .slice none 0 0, .slice none 0 0, .slice none 0 0, .int .i64 1, .int .i64 ((lo : Int) - (mo : Int)), .int .i64 ((lo : Int) + (hi : Int) + (mo : Int)), .int .i64 0, .int .u64 0, .string { data := #[] }, .slice none 0 0, .slice none 0 0, .slice none 0 0] 54)) 42 #[.slice (some ⟨w4.heap.size + 1 + 1, 0, none⟩) 3 3]
      rwa [World.size_alloc, World.size_alloc, World.size_alloc] at this)
    have HRD := hid (bd_at w6 _ _ 1 (lo : Int) ((lo : Int) + (hi : Int)) ((lo : Int) - (mo : Int)) ((lo : Int) + (hi : Int) + (mo : Int)) (by omega) (by omega) (by omega) (by omega) (by omega) HB1.out HB2.out)
    have HW6 := hid hw6
    clear hw6 hm0 hm1 hm2 him
    have HS := hid (show ∀ w', Fr (fun _ => False) w6 w' → w'.cell? ⟨w4.heap.size + 1 + 1 + 1, 0, none⟩ = some (.slice (some ⟨w4.heap.size + 1 + 1, 0, none⟩) 3 3) ∧ w'.cell? ⟨w.heap.size, 0, none⟩ = some (.int .i64 xk) ∧ w'.cell? ⟨w.heap.size, 1, none⟩ = some (.int .u64 xn) ∧ w'.cell? ⟨w.heap.size, 2, none⟩ = some (.string xs) ∧ w'.cell? ⟨w.heap.size, 3, none⟩ = some (.slice Ax xm cx) ∧ Fr (fun _ => False) w6 w' from fun w' hf => by
      obtain ⟨a0, a1, a2, a3⟩ := HSX.out w' (HF6w.out.trans hf)
      exact ⟨(blk1 (HB3.out.fr hf (fun h => h))).1, a0, a1, a2, a3, hf⟩)
    have HC0 := hid (fun wx (hf : wx.cell? ⟨w4.heap.size + 1 + 1 + 1, 0, none⟩ = some (.slice (some ⟨w4.heap.size + 1 + 1, 0, none⟩) 3 3) ∧ wx.cell? ⟨w.heap.size, 0, none⟩ = some (.int .i64 xk) ∧ wx.cell? ⟨w.heap.size, 1, none⟩ = some (.int .u64 xn) ∧ wx.cell? ⟨w.heap.size, 2, none⟩ = some (.string xs) ∧ wx.cell? ⟨w.heap.size, 3, none⟩ = some (.slice Ax xm cx) ∧ Fr (fun _ => False) w6 wx) => (mat_calls (bd 1 (lo : Int) ((lo : Int) + (hi : Int)) ((lo : Int) - (mo : Int)) ((lo : Int) + (hi : Int) + (mo : Int))) (some ⟨w4.heap.size + 1 + 1, 0, none⟩) 3 3 0 wx (HDD.out.fr0 (HF6.out.trans hf.2.2.2.2.2)) rfl (Nat.le_refl _) (by decide) (HRD.out.fr0 hf.2.2.2.2.2) 0 x HXZ.out 0 w.heap.size _ (Nat.le_trans HF6.out.size hf.2.2.2.2.2.size) (HAT.out.fr0 (HF6.out.trans hf.2.2.2.2.2) (Nat.le_refl _))).mono (R' := fun e w' => e = .returned (.bool (r1 || r2)) ∧ w'.cell? ⟨w4.heap.size + 1 + 1 + 1, 0, none⟩ = some (.slice (some ⟨w4.heap.size + 1 + 1, 0, none⟩) 3 3) ∧ w'.cell? ⟨w.heap.size, 0, none⟩ = some (.int .i64 xk) ∧ w'.cell? ⟨w.heap.size, 1, none⟩ = some (.int .u64 xn) ∧ w'.cell? ⟨w.heap.size, 2, none⟩ = some (.string xs) ∧ w'.cell? ⟨w.heap.size, 3, none⟩ = some (.slice Ax xm cx) ∧ Fr (fun _ => False) w6 w') (fun e w' g => ⟨by rw [g.1, HM0.out], HS.out w' (hf.2.2.2.2.2.then_ g.2 (fun _ _ h => h))⟩))
    have HC1 := hid (fun wx (hf : wx.cell? ⟨w4.heap.size + 1 + 1 + 1, 0, none⟩ = some (.slice (some ⟨w4.heap.size + 1 + 1, 0, none⟩) 3 3) ∧ wx.cell? ⟨w.heap.size, 0, none⟩ = some (.int .i64 xk) ∧ wx.cell? ⟨w.heap.size, 1, none⟩ = some (.int .u64 xn) ∧ wx.cell? ⟨w.heap.size, 2, none⟩ = some (.string xs) ∧ wx.cell? ⟨w.heap.size, 3, none⟩ = some (.slice Ax xm cx) ∧ Fr (fun _ => False) w6 wx) => (mat_calls (bd 1 (lo : Int) ((lo : Int) + (hi : Int)) ((lo : Int) - (mo : Int)) ((lo : Int) + (hi : Int) + (mo : Int))) (some ⟨w4.heap.size + 1 + 1, 0, none⟩) 3 3 0 wx (HDD.out.fr0 (HF6.out.trans hf.2.2.2.2.2)) rfl (Nat.le_refl _) (by decide) (HRD.out.fr0 hf.2.2.2.2.2) 1 x HXZ.out 0 w.heap.size _ (Nat.le_trans HF6.out.size hf.2.2.2.2.2.size) (HAT.out.fr0 (HF6.out.trans hf.2.2.2.2.2) (Nat.le_refl _))).mono (R' := fun e w' => e = .returned (.bool r1) ∧ w'.cell? ⟨w4.heap.size + 1 + 1 + 1, 0, none⟩ = some (.slice (some ⟨w4.heap.size + 1 + 1, 0, none⟩) 3 3) ∧ w'.cell? ⟨w.heap.size, 0, none⟩ = some (.int .i64 xk) ∧ w'.cell? ⟨w.heap.size, 1, none⟩ = some (.int .u64 xn) ∧ w'.cell? ⟨w.heap.size, 2, none⟩ = some (.string xs) ∧ w'.cell? ⟨w.heap.size, 3, none⟩ = some (.slice Ax xm cx) ∧ Fr (fun _ => False) w6 w') (fun e w' g => ⟨by rw [g.1, HM1.out], HS.out w' (hf.2.2.2.2.2.then_ g.2 (fun _ _ h => h))⟩))
    have HC2 := hid (fun wx (hf : wx.cell? ⟨w4.heap.size + 1 + 1 + 1, 0, none⟩ = some (.slice (some ⟨w4.heap.size + 1 + 1, 0, none⟩) 3 3) ∧ wx.cell? ⟨w.heap.size, 0, none⟩ = some (.int .i64 xk) ∧ wx.cell? ⟨w.heap.size, 1, none⟩ = some (.int .u64 xn) ∧ wx.cell? ⟨w.heap.size, 2, none⟩ = some (.string xs) ∧ wx.cell? ⟨w.heap.size, 3, none⟩ = some (.slice Ax xm cx) ∧ Fr (fun _ => False) w6 wx) => (mat_calls (bd 1 (lo : Int) ((lo : Int) + (hi : Int)) ((lo : Int) - (mo : Int)) ((lo : Int) + (hi : Int) + (mo : Int))) (some ⟨w4.heap.size + 1 + 1, 0, none⟩) 3 3 0 wx (HDD.out.fr0 (HF6.out.trans hf.2.2.2.2.2)) rfl (Nat.le_refl _) (by decide) (HRD.out.fr0 hf.2.2.2.2.2) 2 x HXZ.out 0 w.heap.size _ (Nat.le_trans HF6.out.size hf.2.2.2.2.2.size) (HAT.out.fr0 (HF6.out.trans hf.2.2.2.2.2) (Nat.le_refl _))).mono (R' := fun e w' => e = .returned (.bool r2) ∧ w'.cell? ⟨w4.heap.size + 1 + 1 + 1, 0, none⟩ = some (.slice (some ⟨w4.heap.size + 1 + 1, 0, none⟩) 3 3) ∧ w'.cell? ⟨w.heap.size, 0, none⟩ = some (.int .i64 xk) ∧ w'.cell? ⟨w.heap.size, 1, none⟩ = some (.int .u64 xn) ∧ w'.cell? ⟨w.heap.size, 2, none⟩ = some (.string xs) ∧ w'.cell? ⟨w.heap.size, 3, none⟩ = some (.slice Ax xm cx) ∧ Fr (fun _ => False) w6 w') (fun e w' g => ⟨by rw [g.1, HM2.out], HS.out w' (hf.2.2.2.2.2.then_ g.2 (fun _ _ h => h))⟩))
    go_wp2_with fail
    rw [HW6.out]
    go_region_held3 (fun w' => w'.cell? ⟨w4.heap.size + 1 + 1 + 1, 0, none⟩ = some (.slice (some ⟨w4.heap.size + 1 + 1, 0, none⟩) 3 3) ∧ w'.cell? ⟨w.heap.size, 0, none⟩ = some (.int .i64 xk) ∧ w'.cell? ⟨w.heap.size, 1, none⟩ = some (.int .u64 xn) ∧ w'.cell? ⟨w.heap.size, 2, none⟩ = some (.string xs) ∧ w'.cell? ⟨w.heap.size, 3, none⟩ = some (.slice Ax xm cx) ∧ Fr (fun _ => False) w6 w')
      (first | exact HS.out _ (Fr.refl _ _) | exact HS.out _ (Fr.refl _ _).drew | assumption)
      (first
        | ((go_at_call 46; with_reducible refine (HC0.out _ (by assumption)).mono ?_; rintro e' w8 ⟨rfl, hS⟩))
        | ((go_at_call 46; with_reducible refine (HC1.out _ (by assumption)).mono ?_; rintro e' w8 ⟨rfl, hS⟩))
        | ((go_at_call 46; with_reducible refine (HC2.out _ (by assumption)).mono ?_; rintro e' w8 ⟨rfl, hS⟩)))
    all_goals
      have HFE := hid (HF6.out.trans hS.2.2.2.2.2)
      clear hS
      cases r1
      all_goals
        cases r2
        all_goals
          first
          | (go_wp2_with fail
             go_ret
             exact ⟨rfl, HFE.out⟩)
          | (have := HIM.out rfl; cases this)
  · have hb : (ce != 0) = true := bne_iff_ne.2 h0
    clear h0
    go_wp2_with fail
    go_ret
    exact ⟨rfl, HF1.out.trans HF4.out⟩

set_option maxRecDepth 100000 in
set_option maxHeartbeats 8000000 in
theorem law_01 (x : It) (hxz : x.size ≤ 2000000) (cs : List Value) (kk lo hi mo q : Nat) (hkk : kk = 3 * q + 0) (hkk2 : kk ≤ 255) (hlo : lo ≤ 255) (hhi : hi ≤ 255) (hmo : mo ≤ 255) (ht : (lo : Int) - (mo : Int) = 0) (w : World) (hD : Dbl w) (hat : ItAt w 0 w.heap.size x cs) :
    Calls Tryd.prog 8 #[.agg cs.toArray, .int .u8 (kk : Int), .int .u8 (lo : Int), .int .u8 (hi : Int), .int .u8 (mo : Int)] w fun e w' => e = .returned (.bool true) ∧ Fr (fun _ => False) w w' := by
  have HDD := hid hD
  have HXZ := hid hxz
  have HTT := hid ht
  have hat' := hat
  obtain ⟨xk, xn, xs, xl⟩ := x
  obtain ⟨Ax, cx, rfl, hxc, hxk, hxn, hxss, hxl, hL⟩ := hat
  have HAT := hid hat'
  obtain ⟨xm, hxm⟩ : ∃ m, xl.length = m := ⟨_, rfl⟩
  rw [hxm] at HAT ⊢
  obtain ⟨x, hxx⟩ : ∃ x, x = It.mk xk xn xs xl := ⟨_, rfl⟩
  rw [← hxx] at HAT HXZ
  have htm : Int.tmod (kk : Int) 3 = 0 := by rw [Int.tmod_eq_emod_of_nonneg (by omega)]; omega
  have hk1 : IntKind.i64.wrap (kk : Int) = (kk : Int) := i64_in _ (by omega)
  have hk2 : IntKind.i64.wrap (lo : Int) = (lo : Int) := i64_in _ (by omega)
  have hk3 : IntKind.i64.wrap (hi : Int) = (hi : Int) := i64_in _ (by omega)
  have hk4 : IntKind.i64.wrap (mo : Int) = (mo : Int) := i64_in _ (by omega)
  have hk5 : IntKind.i64.wrap ((lo : Int) + (hi : Int)) = (lo : Int) + (hi : Int) := i64_in _ (by omega)
  have hk6 : IntKind.i64.wrap ((lo : Int) - (mo : Int)) = (lo : Int) - (mo : Int) := i64_in _ (by omega)
  have hk7 : IntKind.i64.wrap ((lo : Int) + (hi : Int) + (mo : Int)) = (lo : Int) + (hi : Int) + (mo : Int) := i64_in _ (by omega)
  
  
  
  obtain ⟨w1, hw1⟩ : ∃ w1, w.alloc (.cells #[.int .i64 xk, .int .u64 xn, .string xs, .slice Ax xm cx] 25) = w1 := ⟨_, rfl⟩
  have HF1 := hid (show Fr (fun _ => False) w w1 by rw [← hw1]; exact (Fr.refl _ w).alloc _)
  have HBX := hid (show Blk w1 w.heap.size 25 #[.int .i64 xk, .int .u64 xn, .string xs, .slice Ax xm cx] by rw [← hw1]; exact Blk.new _ _ _)
  have HW1 := hid hw1
  have HSX := hid (show ∀ w', Fr (fun _ => False) w1 w' → w'.cell? ⟨w.heap.size, 0, none⟩ = some (.int .i64 xk) ∧ w'.cell? ⟨w.heap.size, 1, none⟩ = some (.int .u64 xn) ∧ w'.cell? ⟨w.heap.size, 2, none⟩ = some (.string xs) ∧ w'.cell? ⟨w.heap.size, 3, none⟩ = some (.slice Ax xm cx) from fun w' hf => by
    have hB := HBX.out.fr hf (fun h => h)
    have e0 := hB.cell 0
    have e1 := hB.cell 1
    have e2 := hB.cell 2
    have e3 := hB.cell 3
    simp at e0 e1 e2 e3
    exact ⟨e0, e1, e2, e3⟩)
  clear hD hxz hat' hxm hxx hL hw1 hkk
  go_enter Tryd.func8, Tryd.ntmps8
  go_wp2_with fail
  rw [HW1.out]
  refine (DenY.awake_calls w1 (HDD.out.fr0 HF1.out)).mono ?_
  rintro e w2 ⟨rfl, hf⟩
  have HF2 := hid hf
  obtain ⟨c0, c1, c2, c3⟩ := HSX.out w2 hf
  clear hf
  go_wp2_with fail
  refine (great_calls x HXZ.out 0 w.heap.size _ w2 (HF1.out.trans HF2.out).size (HAT.out.fr0 (HF1.out.trans HF2.out) (Nat.le_refl _))).mono ?_
  rintro e w3 ⟨⟨g, rfl⟩, hf⟩
  have HF3 := hid (HF2.out.then_ hf (fun _ _ h => h))
  clear hf c0 c1 c2 c3
  cases g with
  | true =>
    go_wp2_with fail
    go_ret
    exact ⟨rfl, HF1.out.trans HF3.out⟩
  | false =>
  obtain ⟨c0, c1, c2, c3⟩ := HSX.out w3 HF3.out
  go_wp2_with fail
  refine (refcheck_calls x HXZ.out 0 w.heap.size _ w3 (HF1.out.trans HF3.out).size (HAT.out.fr0 (HF1.out.trans HF3.out) (Nat.le_refl _))).mono ?_
  rintro e w4 ⟨rfl, hf⟩
  have HF4 := hid (HF3.out.then_ hf (fun _ _ h => h))
  obtain ⟨ce, hce⟩ : ∃ ce, x.check = ce := ⟨_, rfl⟩
  have HCE := hid hce
  rw [hce]
  clear hf hce c0 c1 c2 c3
  by_cases h0 : ce = 0
  · subst h0
    obtain ⟨r1, r2, hm0, hm1, hm2, him⟩ := bd_mat (k := 1) (a := (lo : Int)) (b := ((lo : Int) + (hi : Int))) (a' := 0) (b' := ((lo : Int) + (hi : Int) + (mo : Int))) (by omega) (by omega) (by omega) (by omega) HCE.out
    have HM0 := hid hm0
    have HM1 := hid hm1
    have HM2 := hid hm2
    have HIM := hid him
    obtain ⟨w6, hw6⟩ : ∃ w6, (((w4.alloc (.cells #[.int .i64 1, .int .i64 2, .int .i64 3] 3)).alloc (.cells #[.int .i64 1, .int .i64 2] 3)).alloc (.cells #[.int .i64 10, .int .i64 0, .int .i64 0, .int .i64 0, .int .u64 0, .string { data := #[] }, .slice none 0 0, .slice (some ⟨w4.heap.size + 1, 0, none⟩) 2 2, .slice none 0 0, .int .i64 1, .int .i64 (lo : Int), .int .i64 ((lo : Int) + (hi : Int)), .int .i64 0, .int .u64 0, .string { data := #[] }, .slice none 0 0, .slice none 0 0, .slice none 0 0, .int .i64 1, .int .i64 0, .int .i64 ((lo : Int) + (hi : Int) + (mo : Int)), .int .i64 0, .int .u64 0, .string { data := #[] }, .slice none 0 0, .slice none 0 0, .slice none 0 0] 54)).alloc (.cells #[.slice (some ⟨w4.heap.size + 1 + 1, 0, none⟩) 3 3] 42) = w6 := ⟨_, rfl⟩
    have HF6w := hid (show Fr (fun _ => False) w1 w6 by rw [← hw6]; exact ((((HF4.out.alloc _).alloc _).alloc _).alloc _))
    have HF6 := hid (HF1.out.trans HF6w.out)
    have HB1 := hid (show Blk w6 (w4.heap.size + 1) 3 #[.int .i64 1, .int .i64 2] by
      rw [← hw6]
      have := Blk.new (w4.alloc (.cells #[.int .i64 1, .int .i64 2, .int .i64 3] 3)) 3 #[.int .i64 1, .int .i64 2]
      rw [World.size_alloc] at this
      exact (this.alloc _).alloc _)
    have HB2 := hid (show Blk w6 (w4.heap.size + 1 + 1) 54 #[.int .i64 10, .int .i64 0, .int .i64 0, .int .i64 0, .int .u64 0, .string { data := #[] }, .slice none 0 0, .slice (some ⟨w4.heap.size + 1, 0, none⟩) 2 2, .slice none 0 0, .int .i64 1, .int .i64 (lo : Int), .int .i64 ((lo : Int) + (hi : Int)), .int .i64 0, .int .u64 0, .string { data := #[] }, .slice none 0 0, .slice none 0 0, .slice none 0 0, .int .i64 1, .int .i64 0, .int .i64 ((lo : Int) + (hi : Int) + (mo : Int)), .int .i64 0, .int .u64 0, .string { data := #[] }, .slice none 0 0, .slice none 0 0, .slice none 0 0] by
      rw [← hw6]
      have := Blk.new ((w4.alloc (.cells #[.int .i64 1, .int .i64 2, .int .i64 3] 3)).alloc (.cells #[.int .i64 1, .int .i64 2] 3)) 54 #[.int .i64 10, .int .i64 0, .int .i64 0, .int .i64 0, .int .u64 0, .string { data := #[] }, .slice none 0 0, .slice (some ⟨w4.heap.size + 1, 0, none⟩) 2 2, .slice none 0 0, .int .i64 1, .int .i64 (lo : Int), .int .i64 ((lo : Int) + (hi : Int)), .int .i64 0, .int .u64 0, .string { data := #[] }, .slice none 0 0, .slice none 0 0, .slice none 0 0, .int .i64 1, .int .i64 0, .int .i64 ((lo : Int) + (hi : Int) + (mo : Int)), .int .i64 0, .int .u64 0, .string { data := #[] }, .slice none 0 0, .slice none 0 0, .slice none 0 0]
      rw [World.size_alloc, World.size_alloc] at this
      exact this.alloc _)
    have HB3 := hid (show Blk w6 (w4.heap.size + 1 + 1 + 1) 42 #[.slice (some ⟨w4.heap.size + 1 + 1, 0, none⟩) 3 3] by
      rw [← hw6]
      have := Blk.new (((w4.alloc (.cells #[.int .i64 1, .int .i64 2, .int .i64 3] 3)).alloc (.cells #[.int .i64 1, .int .i64 2] 3)).alloc (.cells #[.int .i64 10, .int .i64 0, .int .i64 0, .int .i64 0, .int .u64 0, .string { data := #[] }, .slice none 0 0, .slice (some ⟨w4.heap.size + 1, 0, none⟩) 2 2, .slice none 0 0, .int .i64 1, .int .i64 (lo : Int), .int .i64 ((lo : Int) + (hi : Int)), .int .i64 0, .int .u64 0, .string { data := #[] }, .slice none 0 0, .slice none 0 0, .slice none 0 0, .int .i64 1, .int .i64 0, .int .i64 ((lo : Int) + (hi : Int) + (mo : Int)), .int .i64 0, .int .u64 0, .string { data := #[] }, .slice none 0 0, .slice none 0 0, .slice none 0 0] 54)) 42 #[.slice (some ⟨w4.heap.size + 1 + 1, 0, none⟩) 3 3]
      rwa [World.size_alloc, World.size_alloc, World.size_alloc] at this)
    have HRD := hid (bd_at w6 _ _ 1 (lo : Int) ((lo : Int) + (hi : Int)) 0 ((lo : Int) + (hi : Int) + (mo : Int)) (by omega) (by omega) (by omega) (by omega) (by omega) HB1.out HB2.out)
    have HW6 := hid hw6
    clear hw6 hm0 hm1 hm2 him
    have HS := hid (show ∀ w', Fr (fun _ => False) w6 w' → w'.cell? ⟨w4.heap.size + 1 + 1 + 1, 0, none⟩ = some (.slice (some ⟨w4.heap.size + 1 + 1, 0, none⟩) 3 3) ∧ w'.cell? ⟨w.heap.size, 0, none⟩ = some (.int .i64 xk) ∧ w'.cell? ⟨w.heap.size, 1, none⟩ = some (.int .u64 xn) ∧ w'.cell? ⟨w.heap.size, 2, none⟩ = some (.string xs) ∧ w'.cell? ⟨w.heap.size, 3, none⟩ = some (.slice Ax xm cx) ∧ Fr (fun _ => False) w6 w' from fun w' hf => by
      obtain ⟨a0, a1, a2, a3⟩ := HSX.out w' (HF6w.out.trans hf)
      exact ⟨(blk1 (HB3.out.fr hf (fun h => h))).1, a0, a1, a2, a3, hf⟩)
    have HC0 := hid (fun wx (hf : wx.cell? ⟨w4.heap.size + 1 + 1 + 1, 0, none⟩ = some (.slice (some ⟨w4.heap.size + 1 + 1, 0, none⟩) 3 3) ∧ wx.cell? ⟨w.heap.size, 0, none⟩ = some (.int .i64 xk) ∧ wx.cell? ⟨w.heap.size, 1, none⟩ = some (.int .u64 xn) ∧ wx.cell? ⟨w.heap.size, 2, none⟩ = some (.string xs) ∧ wx.cell? ⟨w.heap.size, 3, none⟩ = some (.slice Ax xm cx) ∧ Fr (fun _ => False) w6 wx) => (mat_calls (bd 1 (lo : Int) ((lo : Int) + (hi : Int)) 0 ((lo : Int) + (hi : Int) + (mo : Int))) (some ⟨w4.heap.size + 1 + 1, 0, none⟩) 3 3 0 wx (HDD.out.fr0 (HF6.out.trans hf.2.2.2.2.2)) rfl (Nat.le_refl _) (by decide) (HRD.out.fr0 hf.2.2.2.2.2) 0 x HXZ.out 0 w.heap.size _ (Nat.le_trans HF6.out.size hf.2.2.2.2.2.size) (HAT.out.fr0 (HF6.out.trans hf.2.2.2.2.2) (Nat.le_refl _))).mono (R' := fun e w' => e = .returned (.bool (r1 || r2)) ∧ w'.cell? ⟨w4.heap.size + 1 + 1 + 1, 0, none⟩ = some (.slice (some ⟨w4.heap.size + 1 + 1, 0, none⟩) 3 3) ∧ w'.cell? ⟨w.heap.size, 0, none⟩ = some (.int .i64 xk) ∧ w'.cell? ⟨w.heap.size, 1, none⟩ = some (.int .u64 xn) ∧ w'.cell? ⟨w.heap.size, 2, none⟩ = some (.string xs) ∧ w'.cell? ⟨w.heap.size, 3, none⟩ = some (.slice Ax xm cx) ∧ Fr (fun _ => False) w6 w') (fun e w' g => ⟨by rw [g.1, HM0.out], HS.out w' (hf.2.2.2.2.2.then_ g.2 (fun _ _ h => h))⟩))
    have HC1 := hid (fun wx (hf : wx.cell? ⟨w4.heap.size + 1 + 1 + 1, 0, none⟩ = some (.slice (some ⟨w4.heap.size + 1 + 1, 0, none⟩) 3 3) ∧ wx.cell? ⟨w.heap.size, 0, none⟩ = some (.int .i64 xk) ∧ wx.cell? ⟨w.heap.size, 1, none⟩ = some (.int .u64 xn) ∧ wx.cell? ⟨w.heap.size, 2, none⟩ = some (.string xs) ∧ wx.cell? ⟨w.heap.size, 3, none⟩ = some (.slice Ax xm cx) ∧ Fr (fun _ => False) w6 wx) => (mat_calls (bd 1 (lo : Int) ((lo : Int) + (hi : Int)) 0 ((lo : Int) + (hi : Int) + (mo : Int))) (some ⟨w4.heap.size + 1 + 1, 0, none⟩) 3 3 0 wx (HDD.out.fr0 (HF6.out.trans hf.2.2.2.2.2)) rfl (Nat.le_refl _) (by decide) (HRD.out.fr0 hf.2.2.2.2.2) 1 x HXZ.out 0 w.heap.size _ (Nat.le_trans HF6.out.size hf.2.2.2.2.2.size) (HAT.out.fr0 (HF6.out.trans hf.2.2.2.2.2) (Nat.le_refl _))).mono (R' := fun e w' => e = .returned (.bool r1) ∧ w'.cell? ⟨w4.heap.size + 1 + 1 + 1, 0, none⟩ = some (.slice (some ⟨w4.heap.size + 1 + 1, 0, none⟩) 3 3) ∧ w'.cell? ⟨w.heap.size, 0, none⟩ = some (.int .i64 xk) ∧ w'.cell? ⟨w.heap.size, 1, none⟩ = some (.int .u64 xn) ∧ w'.cell? ⟨w.heap.size, 2, none⟩ = some (.string xs) ∧ w'.cell? ⟨w.heap.size, 3, none⟩ = some (.slice Ax xm cx) ∧ Fr (fun _ => False) w6 w') (fun e w' g => ⟨by rw [g.1, HM1.out], HS.out w' (hf.2.2.2.2.2.then_ g.2 (fun _ _ h => h))⟩))
    have HC2 := hid (fun wx (hf : wx.cell? ⟨w4.heap.size + 1 + 1 + 1, 0, none⟩ = some (.slice (some ⟨w4.heap.size + 1 + 1, 0, none⟩) 3 3) ∧ wx.cell? ⟨w.heap.size, 0, none⟩ = some (.int .i64 xk) ∧ wx.cell? ⟨w.heap.size, 1, none⟩ = some (.int .u64 xn) ∧ wx.cell? ⟨w.heap.size, 2, none⟩ = some (.string xs) ∧ wx.cell? ⟨w.heap.size, 3, none⟩ = some (.slice Ax xm cx) ∧ Fr (fun _ => False) w6 wx) => (mat_calls (bd 1 (lo : Int) ((lo : Int) + (hi : Int)) 0 ((lo : Int) + (hi : Int) + (mo : Int))) (some ⟨w4.heap.size + 1 + 1, 0, none⟩) 3 3 0 wx (HDD.out.fr0 (HF6.out.trans hf.2.2.2.2.2)) rfl (Nat.le_refl _) (by decide) (HRD.out.fr0 hf.2.2.2.2.2) 2 x HXZ.out 0 w.heap.size _ (Nat.le_trans HF6.out.size hf.2.2.2.2.2.size) (HAT.out.fr0 (HF6.out.trans hf.2.2.2.2.2) (Nat.le_refl _))).mono (R' := fun e w' => e = .returned (.bool r2) ∧ w'.cell? ⟨w4.heap.size + 1 + 1 + 1, 0, none⟩ = some (.slice (some ⟨w4.heap.size + 1 + 1, 0, none⟩) 3 3) ∧ w'.cell? ⟨w.heap.size, 0, none⟩ = some (.int .i64 xk) ∧ w'.cell? ⟨w.heap.size, 1, none⟩ = some (.int .u64 xn) ∧ w'.cell? ⟨w.heap.size, 2, none⟩ = some (.string xs) ∧ w'.cell? ⟨w.heap.size, 3, none⟩ = some (.slice Ax xm cx) ∧ Fr (fun _ => False) w6 w') (fun e w' g => ⟨by rw [g.1, HM2.out], HS.out w' (hf.2.2.2.2.2.then_ g.2 (fun _ _ h => h))⟩))
    go_wp2_with fail
    rw [HW6.out]
    go_region_held3 (fun w' => w'.cell? ⟨w4.heap.size + 1 + 1 + 1, 0, none⟩ = some (.slice (some ⟨w4.heap.size + 1 + 1, 0, none⟩) 3 3) ∧ w'.cell? ⟨w.heap.size, 0, none⟩ = some (.int .i64 xk) ∧ w'.cell? ⟨w.heap.size, 1, none⟩ = some (.int .u64 xn) ∧ w'.cell? ⟨w.heap.size, 2, none⟩ = some (.string xs) ∧ w'.cell? ⟨w.heap.size, 3, none⟩ = some (.slice Ax xm cx) ∧ Fr (fun _ => False) w6 w')
      (first | exact HS.out _ (Fr.refl _ _) | exact HS.out _ (Fr.refl _ _).drew | assumption)
      (first
        | ((go_at_call 46; with_reducible refine (HC0.out _ (by assumption)).mono ?_; rintro e' w8 ⟨rfl, hS⟩))
        | ((go_at_call 46; with_reducible refine (HC1.out _ (by assumption)).mono ?_; rintro e' w8 ⟨rfl, hS⟩))
        | ((go_at_call 46; with_reducible refine (HC2.out _ (by assumption)).mono ?_; rintro e' w8 ⟨rfl, hS⟩)))
    all_goals
      have HFE := hid (HF6.out.trans hS.2.2.2.2.2)
      clear hS
      cases r1
      all_goals
        cases r2
        all_goals
          first
          | (go_wp2_with fail
             go_ret
             exact ⟨rfl, HFE.out⟩)
          | (have := HIM.out rfl; cases this)
  · have hb : (ce != 0) = true := bne_iff_ne.2 h0
    clear h0
    go_wp2_with fail
    go_ret
    exact ⟨rfl, HF1.out.trans HF4.out⟩

set_option maxRecDepth 100000 in
set_option maxHeartbeats 8000000 in
theorem law_02 (x : It) (hxz : x.size ≤ 2000000) (cs : List Value) (kk lo hi mo q : Nat) (hkk : kk = 3 * q + 0) (hkk2 : kk ≤ 255) (hlo : lo ≤ 255) (hhi : hi ≤ 255) (hmo : mo ≤ 255) (ht : (lo : Int) - (mo : Int) < 0) (w : World) (hD : Dbl w) (hat : ItAt w 0 w.heap.size x cs) :
    Calls Tryd.prog 8 #[.agg cs.toArray, .int .u8 (kk : Int), .int .u8 (lo : Int), .int .u8 (hi : Int), .int .u8 (mo : Int)] w fun e w' => e = .returned (.bool true) ∧ Fr (fun _ => False) w w' := by
  have HDD := hid hD
  have HXZ := hid hxz
  have HTT := hid ht
  have hat' := hat
  obtain ⟨xk, xn, xs, xl⟩ := x
  obtain ⟨Ax, cx, rfl, hxc, hxk, hxn, hxss, hxl, hL⟩ := hat
  have HAT := hid hat'
  obtain ⟨xm, hxm⟩ : ∃ m, xl.length = m := ⟨_, rfl⟩
  rw [hxm] at HAT ⊢
  obtain ⟨x, hxx⟩ : ∃ x, x = It.mk xk xn xs xl := ⟨_, rfl⟩
  rw [← hxx] at HAT HXZ
  have htm : Int.tmod (kk : Int) 3 = 0 := by rw [Int.tmod_eq_emod_of_nonneg (by omega)]; omega
  have hk1 : IntKind.i64.wrap (kk : Int) = (kk : Int) := i64_in _ (by omega)
  have hk2 : IntKind.i64.wrap (lo : Int) = (lo : Int) := i64_in _ (by omega)
  have hk3 : IntKind.i64.wrap (hi : Int) = (hi : Int) := i64_in _ (by omega)
  have hk4 : IntKind.i64.wrap (mo : Int) = (mo : Int) := i64_in _ (by omega)
  have hk5 : IntKind.i64.wrap ((lo : Int) + (hi : Int)) = (lo : Int) + (hi : Int) := i64_in _ (by omega)
  have hk6 : IntKind.i64.wrap ((lo : Int) - (mo : Int)) = (lo : Int) - (mo : Int) := i64_in _ (by omega)
  have hk7 : IntKind.i64.wrap ((lo : Int) + (hi : Int) + (mo : Int)) = (lo : Int) + (hi : Int) + (mo : Int) := i64_in _ (by omega)
  have ht1 : ¬ 0 ≤ (lo : Int) - (mo : Int) := by omega
  have ht2 : ¬ 0 < (lo : Int) - (mo : Int) := by omega
  have ht3 : (lo : Int) - (mo : Int) ≤ 0 := by omega
  obtain ⟨w1, hw1⟩ : ∃ w1, w.alloc (.cells #[.int .i64 xk, .int .u64 xn, .string xs, .slice Ax xm cx] 25) = w1 := ⟨_, rfl⟩
  have HF1 := hid (show Fr (fun _ => False) w w1 by rw [← hw1]; exact (Fr.refl _ w).alloc _)
  have HBX := hid (show Blk w1 w.heap.size 25 #[.int .i64 xk, .int .u64 xn, .string xs, .slice Ax xm cx] by rw [← hw1]; exact Blk.new _ _ _)
  have HW1 := hid hw1
  have HSX := hid (show ∀ w', Fr (fun _ => False) w1 w' → w'.cell? ⟨w.heap.size, 0, none⟩ = some (.int .i64 xk) ∧ w'.cell? ⟨w.heap.size, 1, none⟩ = some (.int .u64 xn) ∧ w'.cell? ⟨w.heap.size, 2, none⟩ = some (.string xs) ∧ w'.cell? ⟨w.heap.size, 3, none⟩ = some (.slice Ax xm cx) from fun w' hf => by
    have hB := HBX.out.fr hf (fun h => h)
    have e0 := hB.cell 0
    have e1 := hB.cell 1
    have e2 := hB.cell 2
    have e3 := hB.cell 3
    simp at e0 e1 e2 e3
    exact ⟨e0, e1, e2, e3⟩)
  clear hD hxz hat' hxm hxx hL hw1 hkk
  go_enter Tryd.func8, Tryd.ntmps8
  go_wp2_with fail
  rw [HW1.out]
  refine (DenY.awake_calls w1 (HDD.out.fr0 HF1.out)).mono ?_
  rintro e w2 ⟨rfl, hf⟩
  have HF2 := hid hf
  obtain ⟨c0, c1, c2, c3⟩ := HSX.out w2 hf
  clear hf
  go_wp2_with fail
  refine (great_calls x HXZ.out 0 w.heap.size _ w2 (HF1.out.trans HF2.out).size (HAT.out.fr0 (HF1.out.trans HF2.out) (Nat.le_refl _))).mono ?_
  rintro e w3 ⟨⟨g, rfl⟩, hf⟩
  have HF3 := hid (HF2.out.then_ hf (fun _ _ h => h))
  clear hf c0 c1 c2 c3
  cases g with
  | true =>
    go_wp2_with fail
    go_ret
    exact ⟨rfl, HF1.out.trans HF3.out⟩
  | false =>
  obtain ⟨c0, c1, c2, c3⟩ := HSX.out w3 HF3.out
  go_wp2_with fail
  refine (refcheck_calls x HXZ.out 0 w.heap.size _ w3 (HF1.out.trans HF3.out).size (HAT.out.fr0 (HF1.out.trans HF3.out) (Nat.le_refl _))).mono ?_
  rintro e w4 ⟨rfl, hf⟩
  have HF4 := hid (HF3.out.then_ hf (fun _ _ h => h))
  obtain ⟨ce, hce⟩ : ∃ ce, x.check = ce := ⟨_, rfl⟩
  have HCE := hid hce
  rw [hce]
  clear hf hce c0 c1 c2 c3
  by_cases h0 : ce = 0
  · subst h0
    obtain ⟨r1, r2, hm0, hm1, hm2, him⟩ := bd_mat (k := 1) (a := (lo : Int)) (b := ((lo : Int) + (hi : Int))) (a' := 0) (b' := ((lo : Int) + (hi : Int) + (mo : Int))) (by omega) (by omega) (by omega) (by omega) HCE.out
    have HM0 := hid hm0
    have HM1 := hid hm1
    have HM2 := hid hm2
    have HIM := hid him
    obtain ⟨w6, hw6⟩ : ∃ w6, (((w4.alloc (.cells #[.int .i64 1, .int .i64 2, .int .i64 3] 3)).alloc (.cells #[.int .i64 1, .int .i64 2] 3)).alloc (.cells #[.int .i64 10, .int .i64 0, .int .i64 0, .int .i64 0, .int .u64 0, .string { data := #[] }, .slice none 0 0, .slice (some ⟨w4.heap.size + 1, 0, none⟩) 2 2, .slice none 0 0, .int .i64 1, .int .i64 (lo : Int), .int .i64 ((lo : Int) + (hi : Int)), .int .i64 0, .int .u64 0, .string { data := #[] }, .slice none 0 0, .slice none 0 0, .slice none 0 0, .int .i64 1, .int .i64 0, .int .i64 ((lo : Int) + (hi : Int) + (mo : Int)), .int .i64 0, .int .u64 0, .string { data := #[] }, .slice none 0 0, .slice none 0 0, .slice none 0 0] 54)).alloc (.cells #[.slice (some ⟨w4.heap.size + 1 + 1, 0, none⟩) 3 3] 42) = w6 := ⟨_, rfl⟩
    have HF6w := hid (show Fr (fun _ => False) w1 w6 by rw [← hw6]; exact ((((HF4.out.alloc _).alloc _).alloc _).alloc _))
    have HF6 := hid (HF1.out.trans HF6w.out)
    have HB1 := hid (show Blk w6 (w4.heap.size + 1) 3 #[.int .i64 1, .int .i64 2] by
      rw [← hw6]
      have := Blk.new (w4.alloc (.cells #[.int .i64 1, .int .i64 2, .int .i64 3] 3)) 3 #[.int .i64 1, .int .i64 2]
      rw [World.size_alloc] at this
      exact (this.alloc _).alloc _)
    have HB2 := hid (show Blk w6 (w4.heap.size + 1 + 1) 54 #[.int .i64 10, .int .i64 0, .int .i64 0, .int .i64 0, .int .u64 0, .string { data := #[] }, .slice none 0 0, .slice (some ⟨w4.heap.size + 1, 0, none⟩) 2 2, .slice none 0 0, .int .i64 1, .int .i64 (lo : Int), .int .i64 ((lo : Int) + (hi : Int)), .int .i64 0, .int .u64 0, .string { data := #[] }, .slice none 0 0, .slice none 0 0, .slice none 0 0, .int .i64 1, .int .i64 0, .int .i64 ((lo : Int) + (hi : Int) + (mo : Int)), .int .i64 0, .int .u64 0, .string { data := #[] }, .slice none 0 0, .slice none 0 0, .slice none 0 0] by
      rw [← hw6]
      have := Blk.new ((w4.alloc (.cells #[.int .i64 1, .int .i64 2, .int .i64 3] 3)).alloc (.cells #[.int .i64 1, .int .i64 2] 3)) 54 #[.int .i64 10, .int .i64 0, .int .i64 0, .int .i64 0, .int .u64 0, .string { data := #[] }, .slice none 0 0, .slice (some ⟨w4.heap.size + 1, 0, none⟩) 2 2, .slice none 0 0, .int .i64 1, .int .i64 (lo : Int), .int .i64 ((lo : Int) + (hi : Int)), .int .i64 0, .int .u64 0, .string { data := #[] }, .slice none 0 0, .slice none 0 0, .slice none 0 0, .int .i64 1, .int .i64 0, .int .i64 ((lo : Int) + (hi : Int) + (mo : Int)), .int .i64 0, .int .u64 0, .string { data := #[] }, .slice none 0 0, .slice none 0 0, .slice none 0 0]
      rw [World.size_alloc, World.size_alloc] at this
      exact this.alloc _)
    have HB3 := hid (show Blk w6 (w4.heap.size + 1 + 1 + 1) 42 #[.slice (some ⟨w4.heap.size + 1 + 1, 0, none⟩) 3 3] by
      rw [← hw6]
      have := Blk.new (((w4.alloc (.cells #[.int .i64 1, .int .i64 2, .int .i64 3] 3)).alloc (.cells #[.int .i64 1, .int .i64 2] 3)).alloc (.cells #[.int .i64 10, .int .i64 0, .int .i64 0, .int .i64 0, .int .u64 0, .string { data := #[] }, .slice none 0 0, .slice (some ⟨w4.heap.size + 1, 0, none⟩) 2 2, .slice none 0 0, .int .i64 1, .int .i64 (lo : Int), .int .i64 ((lo : Int) + (hi : Int)), .int .i64 0, .int .u64 0, .string { data := #[] }, .slice none 0 0, .slice none 0 0, .slice none 0 0, .int .i64 1, .int .i64 0, .int .i64 ((lo : Int) + (hi : Int) + (mo : Int)), .int .i64 0, .int .u64 0, .string { data := #[] }, .slice none 0 0, .slice none 0 0, .slice none 0 0] 54)) 42 #[.slice (some ⟨w4.heap.size + 1 + 1, 0, none⟩) 3 3]
      rwa [World.size_alloc, World.size_alloc, World.size_alloc] at this)
    have HRD := hid (bd_at w6 _ _ 1 (lo : Int) ((lo : Int) + (hi : Int)) 0 ((lo : Int) + (hi : Int) + (mo : Int)) (by omega) (by omega) (by omega) (by omega) (by omega) HB1.out HB2.out)
    have HW6 := hid hw6
    clear hw6 hm0 hm1 hm2 him
    have HS := hid (show ∀ w', Fr (fun _ => False) w6 w' → w'.cell? ⟨w4.heap.size + 1 + 1 + 1, 0, none⟩ = some (.slice (some ⟨w4.heap.size + 1 + 1, 0, none⟩) 3 3) ∧ w'.cell? ⟨w.heap.size, 0, none⟩ = some (.int .i64 xk) ∧ w'.cell? ⟨w.heap.size, 1, none⟩ = some (.int .u64 xn) ∧ w'.cell? ⟨w.heap.size, 2, none⟩ = some (.string xs) ∧ w'.cell? ⟨w.heap.size, 3, none⟩ = some (.slice Ax xm cx) ∧ Fr (fun _ => False) w6 w' from fun w' hf => by
      obtain ⟨a0, a1, a2, a3⟩ := HSX.out w' (HF6w.out.trans hf)
      exact ⟨(blk1 (HB3.out.fr hf (fun h => h))).1, a0, a1, a2, a3, hf⟩)
    have HC0 := hid (fun wx (hf : wx.cell? ⟨w4.heap.size + 1 + 1 + 1, 0, none⟩ = some (.slice (some ⟨w4.heap.size + 1 + 1, 0, none⟩) 3 3) ∧ wx.cell? ⟨w.heap.size, 0, none⟩ = some (.int .i64 xk) ∧ wx.cell? ⟨w.heap.size, 1, none⟩ = some (.int .u64 xn) ∧ wx.cell? ⟨w.heap.size, 2, none⟩ = some (.string xs) ∧ wx.cell? ⟨w.heap.size, 3, none⟩ = some (.slice Ax xm cx) ∧ Fr (fun _ => False) w6 wx) => (mat_calls (bd 1 (lo : Int) ((lo : Int) + (hi : Int)) 0 ((lo : Int) + (hi : Int) + (mo : Int))) (some ⟨w4.heap.size + 1 + 1, 0, none⟩) 3 3 0 wx (HDD.out.fr0 (HF6.out.trans hf.2.2.2.2.2)) rfl (Nat.le_refl _) (by decide) (HRD.out.fr0 hf.2.2.2.2.2) 0 x HXZ.out 0 w.heap.size _ (Nat.le_trans HF6.out.size hf.2.2.2.2.2.size) (HAT.out.fr0 (HF6.out.trans hf.2.2.2.2.2) (Nat.le_refl _))).mono (R' := fun e w' => e = .returned (.bool (r1 || r2)) ∧ w'.cell? ⟨w4.heap.size + 1 + 1 + 1, 0, none⟩ = some (.slice (some ⟨w4.heap.size + 1 + 1, 0, none⟩) 3 3) ∧ w'.cell? ⟨w.heap.size, 0, none⟩ = some (.int .i64 xk) ∧ w'.cell? ⟨w.heap.size, 1, none⟩ = some (.int .u64 xn) ∧ w'.cell? ⟨w.heap.size, 2, none⟩ = some (.string xs) ∧ w'.cell? ⟨w.heap.size, 3, none⟩ = some (.slice Ax xm cx) ∧ Fr (fun _ => False) w6 w') (fun e w' g => ⟨by rw [g.1, HM0.out], HS.out w' (hf.2.2.2.2.2.then_ g.2 (fun _ _ h => h))⟩))
    have HC1 := hid (fun wx (hf : wx.cell? ⟨w4.heap.size + 1 + 1 + 1, 0, none⟩ = some (.slice (some ⟨w4.heap.size + 1 + 1, 0, none⟩) 3 3) ∧ wx.cell? ⟨w.heap.size, 0, none⟩ = some (.int .i64 xk) ∧ wx.cell? ⟨w.heap.size, 1, none⟩ = some (.int .u64 xn) ∧ wx.cell? ⟨w.heap.size, 2, none⟩ = some (.string xs) ∧ wx.cell? ⟨w.heap.size, 3, none⟩ = some (.slice Ax xm cx) ∧ Fr (fun _ => False) w6 wx) => (mat_calls (bd 1 (lo : Int) ((lo : Int) + (hi : Int)) 0 ((lo : Int) + (hi : Int) + (mo : Int))) (some ⟨w4.heap.size + 1 + 1, 0, none⟩) 3 3 0 wx (HDD.out.fr0 (HF6.out.trans hf.2.2.2.2.2)) rfl (Nat.le_refl _) (by decide) (HRD.out.fr0 hf.2.2.2.2.2) 1 x HXZ.out 0 w.heap.size _ (Nat.le_trans HF6.out.size hf.2.2.2.2.2.size) (HAT.out.fr0 (HF6.out.trans hf.2.2.2.2.2) (Nat.le_refl _))).mono (R' := fun e w' => e = .returned (.bool r1) ∧ w'.cell? ⟨w4.heap.size + 1 + 1 + 1, 0, none⟩ = some (.slice (some ⟨w4.heap.size + 1 + 1, 0, none⟩) 3 3) ∧ w'.cell? ⟨w.heap.size, 0, none⟩ = some (.int .i64 xk) ∧ w'.cell? ⟨w.heap.size, 1, none⟩ = some (.int .u64 xn) ∧ w'.cell? ⟨w.heap.size, 2, none⟩ = some (.string xs) ∧ w'.cell? ⟨w.heap.size, 3, none⟩ = some (.slice Ax xm cx) ∧ Fr (fun _ => False) w6 w') (fun e w' g => ⟨by rw [g.1, HM1.out], HS.out w' (hf.2.2.2.2.2.then_ g.2 (fun _ _ h => h))⟩))
    have HC2 := hid (fun wx (hf : wx.cell? ⟨w4.heap.size + 1 + 1 + 1, 0, none⟩ = some (.slice (some ⟨w4.heap.size + 1 + 1, 0, none⟩) 3 3) ∧ wx.cell? ⟨w.heap.size, 0, none⟩ = some (.int .i64 xk) ∧ wx.cell? ⟨w.heap.size, 1, none⟩ = some (.int .u64 xn) ∧ wx.cell? ⟨w.heap.size, 2, none⟩ = some (.string xs) ∧ wx.cell? ⟨w.heap.size, 3, none⟩ = some (.slice Ax xm cx) ∧ Fr (fun _ => False) w6 wx) => (mat_calls (bd 1 (lo : Int) ((lo : Int) + (hi : Int)) 0 ((lo : Int) + (hi : Int) + (mo : Int))) (some ⟨w4.heap.size + 1 + 1, 0, none⟩) 3 3 0 wx (HDD.out.fr0 (HF6.out.trans hf.2.2.2.2.2)) rfl (Nat.le_refl _) (by decide) (HRD.out.fr0 hf.2.2.2.2.2) 2 x HXZ.out 0 w.heap.size _ (Nat.le_trans HF6.out.size hf.2.2.2.2.2.size) (HAT.out.fr0 (HF6.out.trans hf.2.2.2.2.2) (Nat.le_refl _))).mono (R' := fun e w' => e = .returned (.bool r2) ∧ w'.cell? ⟨w4.heap.size + 1 + 1 + 1, 0, none⟩ = some (.slice (some ⟨w4.heap.size + 1 + 1, 0, none⟩) 3 3) ∧ w'.cell? ⟨w.heap.size, 0, none⟩ = some (.int .i64 xk) ∧ w'.cell? ⟨w.heap.size, 1, none⟩ = some (.int .u64 xn) ∧ w'.cell? ⟨w.heap.size, 2, none⟩ = some (.string xs) ∧ w'.cell? ⟨w.heap.size, 3, none⟩ = some (.slice Ax xm cx) ∧ Fr (fun _ => False) w6 w') (fun e w' g => ⟨by rw [g.1, HM2.out], HS.out w' (hf.2.2.2.2.2.then_ g.2 (fun _ _ h => h))⟩))
    go_wp2_with fail
    rw [HW6.out]
    go_region_held3 (fun w' => w'.cell? ⟨w4.heap.size + 1 + 1 + 1, 0, none⟩ = some (.slice (some ⟨w4.heap.size + 1 + 1, 0, none⟩) 3 3) ∧ w'.cell? ⟨w.heap.size, 0, none⟩ = some (.int .i64 xk) ∧ w'.cell? ⟨w.heap.size, 1, none⟩ = some (.int .u64 xn) ∧ w'.cell? ⟨w.heap.size, 2, none⟩ = some (.string xs) ∧ w'.cell? ⟨w.heap.size, 3, none⟩ = some (.slice Ax xm cx) ∧ Fr (fun _ => False) w6 w')
      (first | exact HS.out _ (Fr.refl _ _) | exact HS.out _ (Fr.refl _ _).drew | assumption)
      (first
        | ((go_at_call 46; with_reducible refine (HC0.out _ (by assumption)).mono ?_; rintro e' w8 ⟨rfl, hS⟩))
        | ((go_at_call 46; with_reducible refine (HC1.out _ (by assumption)).mono ?_; rintro e' w8 ⟨rfl, hS⟩))
        | ((go_at_call 46; with_reducible refine (HC2.out _ (by assumption)).mono ?_; rintro e' w8 ⟨rfl, hS⟩)))
    all_goals
      have HFE := hid (HF6.out.trans hS.2.2.2.2.2)
      clear hS
      cases r1
      all_goals
        cases r2
        all_goals
          first
          | (go_wp2_with fail
             go_ret
             exact ⟨rfl, HFE.out⟩)
          | (have := HIM.out rfl; cases this)
  · have hb : (ce != 0) = true := bne_iff_ne.2 h0
    clear h0
    go_wp2_with fail
    go_ret
    exact ⟨rfl, HF1.out.trans HF4.out⟩

set_option maxRecDepth 100000 in
set_option maxHeartbeats 8000000 in
theorem law_10 (x : It) (hxz : x.size ≤ 2000000) (cs : List Value) (kk lo hi mo q : Nat) (hkk : kk = 3 * q + 1) (hkk2 : kk ≤ 255) (hlo : lo ≤ 255) (hhi : hi ≤ 255) (hmo : mo ≤ 255) (ht : 0 < (lo : Int) - (mo : Int)) (w : World) (hD : Dbl w) (hat : ItAt w 0 w.heap.size x cs) :
    Calls Tryd.prog 8 #[.agg cs.toArray, .int .u8 (kk : Int), .int .u8 (lo : Int), .int .u8 (hi : Int), .int .u8 (mo : Int)] w fun e w' => e = .returned (.bool true) ∧ Fr (fun _ => False) w w' := by
  have HDD := hid hD
  have HXZ := hid hxz
  have HTT := hid ht
  have hat' := hat
  obtain ⟨xk, xn, xs, xl⟩ := x
  obtain ⟨Ax, cx, rfl, hxc, hxk, hxn, hxss, hxl, hL⟩ := hat
  have HAT := hid hat'
  obtain ⟨xm, hxm⟩ : ∃ m, xl.length = m := ⟨_, rfl⟩
  rw [hxm] at HAT ⊢
  obtain ⟨x, hxx⟩ : ∃ x, x = It.mk xk xn xs xl := ⟨_, rfl⟩
  rw [← hxx] at HAT HXZ
  have htm : Int.tmod (kk : Int) 3 = 1 := by rw [Int.tmod_eq_emod_of_nonneg (by omega)]; omega
  have hk1 : IntKind.i64.wrap (kk : Int) = (kk : Int) := i64_in _ (by omega)
  have hk2 : IntKind.i64.wrap (lo : Int) = (lo : Int) := i64_in _ (by omega)
  have hk3 : IntKind.i64.wrap (hi : Int) = (hi : Int) := i64_in _ (by omega)
  have hk4 : IntKind.i64.wrap (mo : Int) = (mo : Int) := i64_in _ (by omega)
  have hk5 : IntKind.i64.wrap ((lo : Int) + (hi : Int)) = (lo : Int) + (hi : Int) := i64_in _ (by omega)
  have hk6 : IntKind.i64.wrap ((lo : Int) - (mo : Int)) = (lo : Int) - (mo : Int) := i64_in _ (by omega)
  have hk7 : IntKind.i64.wrap ((lo : Int) + (hi : Int) + (mo : Int)) = (lo : Int) + (hi : Int) + (mo : Int) := i64_in _ (by omega)
  have ht1 : ¬ (lo : Int) - (mo : Int) ≤ 0 := by omega
  have ht2 : ¬ (lo : Int) - (mo : Int) < 0 := by omega
  have ht3 : 0 ≤ (lo : Int) - (mo : Int) := by omega
  obtain ⟨w1, hw1⟩ : ∃ w1, w.alloc (.cells #[.int .i64 xk, .int .u64 xn, .string xs, .slice Ax xm cx] 25) = w1 := ⟨_, rfl⟩
  have HF1 := hid (show Fr (fun _ => False) w w1 by rw [← hw1]; exact (Fr.refl _ w).alloc _)
  have HBX := hid (show Blk w1 w.heap.size 25 #[.int .i64 xk, .int .u64 xn, .string xs, .slice Ax xm cx] by rw [← hw1]; exact Blk.new _ _ _)
  have HW1 := hid hw1
  have HSX := hid (show ∀ w', Fr (fun _ => False) w1 w' → w'.cell? ⟨w.heap.size, 0, none⟩ = some (.int .i64 xk) ∧ w'.cell? ⟨w.heap.size, 1, none⟩ = some (.int .u64 xn) ∧ w'.cell? ⟨w.heap.size, 2, none⟩ = some (.string xs) ∧ w'.cell? ⟨w.heap.size, 3, none⟩ = some (.slice Ax xm cx) from fun w' hf => by
    have hB := HBX.out.fr hf (fun h => h)
    have e0 := hB.cell 0
    have e1 := hB.cell 1
    have e2 := hB.cell 2
    have e3 := hB.cell 3
    simp at e0 e1 e2 e3
    exact ⟨e0, e1, e2, e3⟩)
  clear hD hxz hat' hxm hxx hL hw1 hkk
  go_enter Tryd.func8, Tryd.ntmps8
  go_wp2_with fail
  rw [HW1.out]
  refine (DenY.awake_calls w1 (HDD.out.fr0 HF1.out)).mono ?_
  rintro e w2 ⟨rfl, hf⟩
  have HF2 := hid hf
  obtain ⟨c0, c1, c2, c3⟩ := HSX.out w2 hf
  clear hf
  go_wp2_with fail
  refine (great_calls x HXZ.out 0 w.heap.size _ w2 (HF1.out.trans HF2.out).size (HAT.out.fr0 (HF1.out.trans HF2.out) (Nat.le_refl _))).mono ?_
  rintro e w3 ⟨⟨g, rfl⟩, hf⟩
  have HF3 := hid (HF2.out.then_ hf (fun _ _ h => h))
  clear hf c0 c1 c2 c3
  cases g with
  | true =>
    go_wp2_with fail
    go_ret
    exact ⟨rfl, HF1.out.trans HF3.out⟩
  | false =>
  obtain ⟨c0, c1, c2, c3⟩ := HSX.out w3 HF3.out
  go_wp2_with fail
  refine (refcheck_calls x HXZ.out 0 w.heap.size _ w3 (HF1.out.trans HF3.out).size (HAT.out.fr0 (HF1.out.trans HF3.out) (Nat.le_refl _))).mono ?_
  rintro e w4 ⟨rfl, hf⟩
  have HF4 := hid (HF3.out.then_ hf (fun _ _ h => h))
  obtain ⟨ce, hce⟩ : ∃ ce, x.check = ce := ⟨_, rfl⟩
  have HCE := hid hce
  rw [hce]
  clear hf hce c0 c1 c2 c3
  by_cases h0 : ce = 0
  · subst h0
    obtain ⟨r1, r2, hm0, hm1, hm2, him⟩ := bd_mat (k := 2) (a := (lo : Int)) (b := ((lo : Int) + (hi : Int))) (a' := ((lo : Int) - (mo : Int))) (b' := ((lo : Int) + (hi : Int) + (mo : Int))) (by omega) (by omega) (by omega) (by omega) HCE.out
    have HM0 := hid hm0
    have HM1 := hid hm1
    have HM2 := hid hm2
    have HIM := hid him
    obtain ⟨w6, hw6⟩ : ∃ w6, (((w4.alloc (.cells #[.int .i64 1, .int .i64 2, .int .i64 3] 3)).alloc (.cells #[.int .i64 1, .int .i64 2] 3)).alloc (.cells #[.int .i64 10, .int .i64 0, .int .i64 0, .int .i64 0, .int .u64 0, .string { data := #[] }, .slice none 0 0, .slice (some ⟨w4.heap.size + 1, 0, none⟩) 2 2, .slice none 0 0, .int .i64 2, .int .i64 (lo : Int), .int .i64 ((lo : Int) + (hi : Int)), .int .i64 0, .int .u64 0, .string { data := #[] }, .slice none 0 0, .slice none 0 0, .slice none 0 0, .int .i64 2, .int .i64 ((lo : Int) - (mo : Int)), .int .i64 ((lo : Int) + (hi : Int) + (mo : Int)), .int .i64 0, .int .u64 0, .string { data := #[] }, .slice none 0 0, .slice none 0 0, .slice none 0 0] 54)).alloc (.cells #[.slice (some ⟨w4.heap.size + 1 + 1, 0, none⟩) 3 3] 42) = w6 := ⟨_, rfl⟩
    have HF6w := hid (show Fr (fun _ => False) w1 w6 by rw [← hw6]; exact ((((HF4.out.alloc _).alloc _).alloc _).alloc _))
    have HF6 := hid (HF1.out.trans HF6w.out)
    have HB1 := hid (show Blk w6 (w4.heap.size + 1) 3 #[.int .i64 1, .int .i64 2] by
      rw [← hw6]
      have := Blk.new (w4.alloc (.cells #[.int .i64 1, .int .i64 2, .int .i64 3] 3)) 3 #[.int .i64 1, .int .i64 2]
      rw [World.size_alloc] at this
      exact (this.alloc _).alloc _)
    have HB2 := hid (show Blk w6 (w4.heap.size + 1 + 1) 54 #[.int .i64 10, .int .i64 0, .int .i64 0, .int .i64 0, .int .u64 0, .string { data := #[] }, .slice none 0 0, .slice (some ⟨w4.heap.size + 1, 0, none⟩) 2 2, .slice none 0 0, .int .i64 2, .int .i64 (lo : Int), .int .i64 ((lo : Int) + (hi : Int)), .int .i64 0, .int .u64 0, .string { data := #[] }, .slice none 0 0, .slice none 0 0, .slice none 0 0, .int .i64 2, .int .i64 ((lo : Int) - (mo : Int)), .int .i64 ((lo : Int) + (hi : Int) + (mo : Int)), .int .i64 0, .int .u64 0, .string { data := #[] }, .slice none 0 0, .slice none 0 0, .slice none 0 0] by
      rw [← hw6]
      have := Blk.new ((w4.alloc (.cells #[.int .i64 1, .int .i64 2, .int .i64 3] 3)).alloc (.cells #[.int .i64 1, .int .i64 2] 3)) 54 #[.int .i64 10, .int .i64 0, .int .i64 0, .int .i64 0, .int .u64 0, .string { data := #[] }, .slice none 0 0, .slice (some ⟨w4.heap.size + 1, 0, none⟩) 2 2, .slice none 0 0, .int .i64 2, .int .i64 (lo : Int), .int .i64 ((lo : Int) + (hi : Int)), .int .i64 0, .int .u64 0, .string { data := #[] }, .slice none 0 0, .slice none 0 0, .slice none 0 0, .int .i64 2, .int .i64 ((lo : Int) - (mo : Int)), .int .i64 ((lo : Int) + (hi : Int) + (mo : Int)), .int .i64 0, .int .u64 0, .string { data := #[] }, .slice none 0 0, .slice none 0 0, .slice none 0 0]
      rw [World.size_alloc, World.size_alloc] at this
      exact this.alloc _)
    have HB3 := hid (show Blk w6 (w4.heap.size + 1 + 1 + 1) 42 #[.slice (some ⟨w4.heap.size + 1 + 1, 0, none⟩) 3 3] by
      rw [← hw6]
      have := Blk.new (((w4.alloc (.cells #[.int .i64 1, .int .i64 2, .int .i64 3] 3)).alloc (.cells #[.int .i64 1, .int .i64 2] 3)).alloc (.cells #[.int .i64 10, .int .i64 0, .int .i64 0, .int .i64 0, .int .u64 0, .string { data := #[] }, .slice none 0 0, .slice (some ⟨w4.heap.size + 1, 0, none⟩) 2 2, .slice none 0 0, .int .i64 2, .int .i64 (lo : Int), .int .i64 ((lo : Int) + (hi : Int)), .int .i64 0, .int .u64 0, .string { data := #[] }, .slice none 0 0, .slice none 0 0, .slice none 0 0, .int .i64 2, .int .i64 ((lo : Int) - (mo : Int)), .int .i64 ((lo : Int) + (hi : Int) + (mo : Int)), .int .i64 0, .int .u64 0, .string { data := #[] }, .slice none 0 0, .slice none 0 0, .slice none 0 0] 54)) 42 #[.slice (some ⟨w4.heap.size + 1 + 1, 0, none⟩) 3 3]
      rwa [World.size_alloc, World.size_alloc, World.size_alloc] at this)
    have HRD := hid (bd_at w6 _ _ 2 (lo : Int) ((lo : Int) + (hi : Int)) ((lo : Int) - (mo : Int)) ((lo : Int) + (hi : Int) + (mo : Int)) (by omega) (by omega) (by omega) (by omega) (by omega) HB1.out HB2.out)
    have HW6 := hid hw6
    clear hw6 hm0 hm1 hm2 him
    have HS := hid (show ∀ w', Fr (fun _ => False) w6 w' → w'.cell? ⟨w4.heap.size + 1 + 1 + 1, 0, none⟩ = some (.slice (some ⟨w4.heap.size + 1 + 1, 0, none⟩) 3 3) ∧ w'.cell? ⟨w.heap.size, 0, none⟩ = some (.int .i64 xk) ∧ w'.cell? ⟨w.heap.size, 1, none⟩ = some (.int .u64 xn) ∧ w'.cell? ⟨w.heap.size, 2, none⟩ = some (.string xs) ∧ w'.cell? ⟨w.heap.size, 3, none⟩ = some (.slice Ax xm cx) ∧ Fr (fun _ => False) w6 w' from fun w' hf => by
      obtain ⟨a0, a1, a2, a3⟩ := HSX.out w' (HF6w.out.trans hf)
      exact ⟨(blk1 (HB3.out.fr hf (fun h => h))).1, a0, a1, a2, a3, hf⟩)
    have HC0 := hid (fun wx (hf : wx.cell? ⟨w4.heap.size + 1 + 1 + 1, 0, none⟩ = some (.slice (some ⟨w4.heap.size + 1 + 1, 0, none⟩) 3 3) ∧ wx.cell? ⟨w.heap.size, 0, none⟩ = some (.int .i64 xk) ∧ wx.cell? ⟨w.heap.size, 1, none⟩ = some (.int .u64 xn) ∧ wx.cell? ⟨w.heap.size, 2, none⟩ = some (.string xs) ∧ wx.cell? ⟨w.heap.size, 3, none⟩ = some (.slice Ax xm cx) ∧ Fr (fun _ => False) w6 wx) => (mat_calls (bd 2 (lo : Int) ((lo : Int) + (hi : Int)) ((lo : Int) - (mo : Int)) ((lo : Int) + (hi : Int) + (mo : Int))) (some ⟨w4.heap.size + 1 + 1, 0, none⟩) 3 3 0 wx (HDD.out.fr0 (HF6.out.trans hf.2.2.2.2.2)) rfl (Nat.le_refl _) (by decide) (HRD.out.fr0 hf.2.2.2.2.2) 0 x HXZ.out 0 w.heap.size _ (Nat.le_trans HF6.out.size hf.2.2.2.2.2.size) (HAT.out.fr0 (HF6.out.trans hf.2.2.2.2.2) (Nat.le_refl _))).mono (R' := fun e w' => e = .returned (.bool (r1 || r2)) ∧ w'.cell? ⟨w4.heap.size + 1 + 1 + 1, 0, none⟩ = some (.slice (some ⟨w4.heap.size + 1 + 1, 0, none⟩) 3 3) ∧ w'.cell? ⟨w.heap.size, 0, none⟩ = some (.int .i64 xk) ∧ w'.cell? ⟨w.heap.size, 1, none⟩ = some (.int .u64 xn) ∧ w'.cell? ⟨w.heap.size, 2, none⟩ = some (.string xs) ∧ w'.cell? ⟨w.heap.size, 3, none⟩ = some (.slice Ax xm cx) ∧ Fr (fun _ => False) w6 w') (fun e w' g => ⟨by rw [g.1, HM0.out], HS.out w' (hf.2.2.2.2.2.then_ g.2 (fun _ _ h => h))⟩))
    have HC1 := hid (fun wx (hf : wx.cell? ⟨w4.heap.size + 1 + 1 + 1, 0, none⟩ = some (.slice (some ⟨w4.heap.size + 1 + 1, 0, none⟩) 3 3) ∧ wx.cell? ⟨w.heap.size, 0, none⟩ = some (.int .i64 xk) ∧ wx.cell? ⟨w.heap.size, 1, none⟩ = some (.int .u64 xn) ∧ wx.cell? ⟨w.heap.size, 2, none⟩ = some (.string xs) ∧ wx.cell? ⟨w.heap.size, 3, none⟩ = some (.slice Ax xm cx) ∧ Fr (fun _ => False) w6 wx) => (mat_calls (bd 2 (lo : Int) ((lo : Int) + (hi : Int)) ((lo : Int) - (mo : Int)) ((lo : Int) + (hi : Int) + (mo : Int))) (some ⟨w4.heap.size + 1 + 1, 0, none⟩) 3 3 0 wx (HDD.out.fr0 (HF6.out.trans hf.2.2.2.2.2)) rfl (Nat.le_refl _) (by decide) (HRD.out.fr0 hf.2.2.2.2.2) 1 x HXZ.out 0 w.heap.size _ (Nat.le_trans HF6.out.size hf.2.2.2.2.2.size) (HAT.out.fr0 (HF6.out.trans hf.2.2.2.2.2) (Nat.le_refl _))).mono (R' := fun e w' => e = .returned (.bool r1) ∧ w'.cell? ⟨w4.heap.size + 1 + 1 + 1, 0, none⟩ = some (.slice (some ⟨w4.heap.size + 1 + 1, 0, none⟩) 3 3) ∧ w'.cell? ⟨w.heap.size, 0, none⟩ = some (.int .i64 xk) ∧ w'.cell? ⟨w.heap.size, 1, none⟩ = some (.int .u64 xn) ∧ w'.cell? ⟨w.heap.size, 2, none⟩ = some (.string xs) ∧ w'.cell? ⟨w.heap.size, 3, none⟩ = some (.slice Ax xm cx) ∧ Fr (fun _ => False) w6 w') (fun e w' g => ⟨by rw [g.1, HM1.out], HS.out w' (hf.2.2.2.2.2.then_ g.2 (fun _ _ h => h))⟩))
    have HC2 := hid (fun wx (hf : wx.cell? ⟨w4.heap.size + 1 + 1 + 1, 0, none⟩ = some (.slice (some ⟨w4.heap.size + 1 + 1, 0, none⟩) 3 3) ∧ wx.cell? ⟨w.heap.size, 0, none⟩ = some (.int .i64 xk) ∧ wx.cell? ⟨w.heap.size, 1, none⟩ = some (.int .u64 xn) ∧ wx.cell? ⟨w.heap.size, 2, none⟩ = some (.string xs) ∧ wx.cell? ⟨w.heap.size, 3, none⟩ = some (.slice Ax xm cx) ∧ Fr (fun _ => False) w6 wx) => (mat_calls (bd 2 (lo : Int) ((lo : Int) + (hi : Int)) ((lo : Int) - (mo : Int)) ((lo : Int) + (hi : Int) + (mo : Int))) (some ⟨w4.heap.size + 1 + 1, 0, none⟩) 3 3 0 wx (HDD.out.fr0 (HF6.out.trans hf.2.2.2.2.2)) rfl (Nat.le_refl _) (by decide) (HRD.out.fr0 hf.2.2.2.2.2) 2 x HXZ.out 0 w.heap.size _ (Nat.le_trans HF6.out.size hf.2.2.2.2.2.size) (HAT.out.fr0 (HF6.out.trans hf.2.2.2.2.2) (Nat.le_refl _))).mono (R' := fun e w' => e = .returned (.bool r2) ∧ w'.cell? ⟨w4.heap.size + 1 + 1 + 1, 0, none⟩ = some (.slice (some ⟨w4.heap.size + 1 + 1, 0, none⟩) 3 3) ∧ w'.cell? ⟨w.heap.size, 0, none⟩ = some (.int .i64 xk) ∧ w'.cell? ⟨w.heap.size, 1, none⟩ = some (.int .u64 xn) ∧ w'.cell? ⟨w.heap.size, 2, none⟩ = some (.string xs) ∧ w'.cell? ⟨w.heap.size, 3, none⟩ = some (.slice Ax xm cx) ∧ Fr (fun _ => False) w6 w') (fun e w' g => ⟨by rw [g.1, HM2.out], HS.out w' (hf.2.2.2.2.2.then_ g.2 (fun _ _ h => h))⟩))
    go_wp2_with fail
    rw [HW6.out]
    go_region_held3 (fun w' => w'.cell? ⟨w4.heap.size + 1 + 1 + 1, 0, none⟩ = some (.slice (some ⟨w4.heap.size + 1 + 1, 0, none⟩) 3 3) ∧ w'.cell? ⟨w.heap.size, 0, none⟩ = some (.int .i64 xk) ∧ w'.cell? ⟨w.heap.size, 1, none⟩ = some (.int .u64 xn) ∧ w'.cell? ⟨w.heap.size, 2, none⟩ = some (.string xs) ∧ w'.cell? ⟨w.heap.size, 3, none⟩ = some (.slice Ax xm cx) ∧ Fr (fun _ => False) w6 w')
      (first | exact HS.out _ (Fr.refl _ _) | exact HS.out _ (Fr.refl _ _).drew | assumption)
      (first
        | ((go_at_call 46; with_reducible refine (HC0.out _ (by assumption)).mono ?_; rintro e' w8 ⟨rfl, hS⟩))
        | ((go_at_call 46; with_reducible refine (HC1.out _ (by assumption)).mono ?_; rintro e' w8 ⟨rfl, hS⟩))
        | ((go_at_call 46; with_reducible refine (HC2.out _ (by assumption)).mono ?_; rintro e' w8 ⟨rfl, hS⟩)))
    all_goals
      have HFE := hid (HF6.out.trans hS.2.2.2.2.2)
      clear hS
      cases r1
      all_goals
        cases r2
        all_goals
          first
          | (go_wp2_with fail
             go_ret
             exact ⟨rfl, HFE.out⟩)
          | (have := HIM.out rfl; cases this)
  · have hb : (ce != 0) = true := bne_iff_ne.2 h0
    clear h0
    go_wp2_with fail
    go_ret
    exact ⟨rfl, HF1.out.trans HF4.out⟩

set_option maxRecDepth 100000 in
set_option maxHeartbeats 8000000 in
theorem law_11 (x : It) (hxz : x.size ≤ 2000000) (cs : List Value) (kk lo hi mo q : Nat) (hkk : kk = 3 * q + 1) (hkk2 : kk ≤ 255) (hlo : lo ≤ 255) (hhi : hi ≤ 255) (hmo : mo ≤ 255) (ht : (lo : Int) - (mo : Int) = 0) (w : World) (hD : Dbl w) (hat : ItAt w 0 w.heap.size x cs) :
    Calls Tryd.prog 8 #[.agg cs.toArray, .int .u8 (kk : Int), .int .u8 (lo : Int), .int .u8 (hi : Int), .int .u8 (mo : Int)] w fun e w' => e = .returned (.bool true) ∧ Fr (fun _ => False) w w' := by
  have HDD := hid hD
  have HXZ := hid hxz
  have HTT := hid ht
  have hat' := hat
  obtain ⟨xk, xn, xs, xl⟩ := x
  obtain ⟨Ax, cx, rfl, hxc, hxk, hxn, hxss, hxl, hL⟩ := hat
  have HAT := hid hat'
  obtain ⟨xm, hxm⟩ : ∃ m, xl.length = m := ⟨_, rfl⟩
  rw [hxm] at HAT ⊢
  obtain ⟨x, hxx⟩ : ∃ x, x = It.mk xk xn xs xl := ⟨_, rfl⟩
  rw [← hxx] at HAT HXZ
  have htm : Int.tmod (kk : Int) 3 = 1 := by rw [Int.tmod_eq_emod_of_nonneg (by omega)]; omega
  have hk1 : IntKind.i64.wrap (kk : Int) = (kk : Int) := i64_in _ (by omega)
  have hk2 : IntKind.i64.wrap (lo : Int) = (lo : Int) := i64_in _ (by omega)
  have hk3 : IntKind.i64.wrap (hi : Int) = (hi : Int) := i64_in _ (by omega)
  have hk4 : IntKind.i64.wrap (mo : Int) = (mo : Int) := i64_in _ (by omega)
  have hk5 : IntKind.i64.wrap ((lo : Int) + (hi : Int)) = (lo : Int) + (hi : Int) := i64_in _ (by omega)
  have hk6 : IntKind.i64.wrap ((lo : Int) - (mo : Int)) = (lo : Int) - (mo : Int) := i64_in _ (by omega)
  have hk7 : IntKind.i64.wrap ((lo : Int) + (hi : Int) + (mo : Int)) = (lo : Int) + (hi : Int) + (mo : Int) := i64_in _ (by omega)
  
  
  
  obtain ⟨w1, hw1⟩ : ∃ w1, w.alloc (.cells #[.int .i64 xk, .int .u64 xn, .string xs, .slice Ax xm cx] 25) = w1 := ⟨_, rfl⟩
  have HF1 := hid (show Fr (fun _ => False) w w1 by rw [← hw1]; exact (Fr.refl _ w).alloc _)
  have HBX := hid (show Blk w1 w.heap.size 25 #[.int .i64 xk, .int .u64 xn, .string xs, .slice Ax xm cx] by rw [← hw1]; exact Blk.new _ _ _)
  have HW1 := hid hw1
  have HSX := hid (show ∀ w', Fr (fun _ => False) w1 w' → w'.cell? ⟨w.heap.size, 0, none⟩ = some (.int .i64 xk) ∧ w'.cell? ⟨w.heap.size, 1, none⟩ = some (.int .u64 xn) ∧ w'.cell? ⟨w.heap.size, 2, none⟩ = some (.string xs) ∧ w'.cell? ⟨w.heap.size, 3, none⟩ = some (.slice Ax xm cx) from fun w' hf => by
    have hB := HBX.out.fr hf (fun h => h)
    have e0 := hB.cell 0
    have e1 := hB.cell 1
    have e2 := hB.cell 2
    have e3 := hB.cell 3
    simp at e0 e1 e2 e3
    exact ⟨e0, e1, e2, e3⟩)
  clear hD hxz hat' hxm hxx hL hw1 hkk
  go_enter Tryd.func8, Tryd.ntmps8
  go_wp2_with fail
  rw [HW1.out]
  refine (DenY.awake_calls w1 (HDD.out.fr0 HF1.out)).mono ?_
  rintro e w2 ⟨rfl, hf⟩
  have HF2 := hid hf
  obtain ⟨c0, c1, c2, c3⟩ := HSX.out w2 hf
  clear hf
  go_wp2_with fail
  refine (great_calls x HXZ.out 0 w.heap.size _ w2 (HF1.out.trans HF2.out).size (HAT.out.fr0 (HF1.out.trans HF2.out) (Nat.le_refl _))).mono ?_
  rintro e w3 ⟨⟨g, rfl⟩, hf⟩
  have HF3 := hid (HF2.out.then_ hf (fun _ _ h => h))
  clear hf c0 c1 c2 c3
  cases g with
  | true =>
    go_wp2_with fail
    go_ret
    exact ⟨rfl, HF1.out.trans HF3.out⟩
  | false =>
  obtain ⟨c0, c1, c2, c3⟩ := HSX.out w3 HF3.out
  go_wp2_with fail
  refine (refcheck_calls x HXZ.out 0 w.heap.size _ w3 (HF1.out.trans HF3.out).size (HAT.out.fr0 (HF1.out.trans HF3.out) (Nat.le_refl _))).mono ?_
  rintro e w4 ⟨rfl, hf⟩
  have HF4 := hid (HF3.out.then_ hf (fun _ _ h => h))
  obtain ⟨ce, hce⟩ : ∃ ce, x.check = ce := ⟨_, rfl⟩
  have HCE := hid hce
  rw [hce]
  clear hf hce c0 c1 c2 c3
  by_cases h0 : ce = 0
  · subst h0
    obtain ⟨r1, r2, hm0, hm1, hm2, him⟩ := bd_mat (k := 2) (a := (lo : Int)) (b := ((lo : Int) + (hi : Int))) (a' := 0) (b' := ((lo : Int) + (hi : Int) + (mo : Int))) (by omega) (by omega) (by omega) (by omega) HCE.out
    have HM0 := hid hm0
    have HM1 := hid hm1
    have HM2 := hid hm2
    have HIM := hid him
    obtain ⟨w6, hw6⟩ : ∃ w6, (((w4.alloc (.cells #[.int .i64 1, .int .i64 2, .int .i64 3] 3)).alloc (.cells #[.int .i64 1, .int .i64 2] 3)).alloc (.cells #[.int .i64 10, .int .i64 0, .int .i64 0, .int .i64 0, .int .u64 0, .string { data := #[] }, .slice none 0 0, .slice (some ⟨w4.heap.size + 1, 0, none⟩) 2 2, .slice none 0 0, .int .i64 2, .int .i64 (lo : Int), .int .i64 ((lo : Int) + (hi : Int)), .int .i64 0, .int .u64 0, .string { data := #[] }, .slice none 0 0, .slice none 0 0, .slice none 0 0, .int .i64 2, .int .i64 0, .int .i64 ((lo : Int) + (hi : Int) + (mo : Int)), .int .i64 0, .int .u64 0, .string { data := #[] }, .slice none 0 0, .slice none 0 0, .slice none 0 0] 54)).alloc (.cells #[.slice (some ⟨w4.heap.size + 1 + 1, 0, none⟩) 3 3] 42) = w6 := ⟨_, rfl⟩
    have HF6w := hid (show Fr (fun _ => False) w1 w6 by rw [← hw6]; exact ((((HF4.out.alloc _).alloc _).alloc _).alloc _))
    have HF6 := hid (HF1.out.trans HF6w.out)
    have HB1 := hid (show Blk w6 (w4.heap.size + 1) 3 #[.int .i64 1, .int .i64 2] by
      rw [← hw6]
      have := Blk.new (w4.alloc (.cells #[.int .i64 1, .int .i64 2, .int .i64 3] 3)) 3 #[.int .i64 1, .int .i64 2]
      rw [World.size_alloc] at this
      exact (this.alloc _).alloc _)
    have HB2 := hid (show Blk w6 (w4.heap.size + 1 + 1) 54 #[.int .i64 10, .int .i64 0, .int .i64 0, .int .i64 0, .int .u64 0, .string { data := #[] }, .slice none 0 0, .slice (some ⟨w4.heap.size + 1, 0, none⟩) 2 2, .slice none 0 0, .int .i64 2, .int .i64 (lo : Int), .int .i64 ((lo : Int) + (hi : Int)), .int .i64 0, .int .u64 0, .string { data := #[] }, .slice none 0 0, .slice none 0 0, .slice none 0 0, .int .i64 2, .int .i64 0, .int .i64 ((lo : Int) + (hi : Int) + (mo : Int)), .int .i64 0, .int .u64 0, .string { data := #[] }, .slice none 0 0, .slice none 0 0, .slice none 0 0] by
      rw [← hw6]
      have := Blk.new ((w4.alloc (.cells #[.int .i64 1, .int .i64 2, .int .i64 3] 3)).alloc (.cells #[.int .i64 1, .int .i64 2] 3)) 54 #[.int .i64 10, .int .i64 0, .int .i64 0, .int .i64 0, .int .u64 0, .string { data := #[] }, .slice none 0 0, .slice (some ⟨w4.heap.size + 1, 0, none⟩) 2 2, .slice none 0 0, .int .i64 2, .int .i64 (lo : Int), .int .i64 ((lo : Int) + (hi : Int)), .int .i64 0, .int .u64 0, .string { data := #[] }, .slice none 0 0, .slice none 0 0, .slice none 0 0, .int .i64 2, .int .i64 0, .int .i64 ((lo : Int) + (hi : Int) + (mo : Int)), .int .i64 0, .int .u64 0, .string { data := #[] }, .slice none 0 0, .slice none 0 0, .slice none 0 0]
      rw [World.size_alloc, World.size_alloc] at this
      exact this.alloc _)
    have HB3 := hid (show Blk w6 (w4.heap.size + 1 + 1 + 1) 42 #[.slice (some ⟨w4.heap.size + 1 + 1, 0, none⟩) 3 3] by
      rw [← hw6]
      have := Blk.new (((w4.alloc (.cells #[.int .i64 1, .int .i64 2, .int .i64 3] 3)).alloc (.cells #[.int .i64 1, .int .i64 2] 3)).alloc (.cells #[.int .i64 10, .int .i64 0, .int .i64 0, .int .i64 0, .int .u64 0, .string { data := #[] }, .slice none 0 0, .slice (some ⟨w4.heap.size + 1, 0, none⟩) 2 2, .slice none 0 0, .int .i64 2, .int .i64 (lo : Int), .int .i64 ((lo : Int) + (hi : Int)), .int .i64 0, .int .u64 0, .string { data := #[] }, .slice none 0 0, .slice none 0 0, .slice none 0 0, .int .i64 2, .int .i64 0, .int .i64 ((lo : Int) + (hi : Int) + (mo : Int)), .int .i64 0, .int .u64 0, .string { data := #[] }, .slice none 0 0, .slice none 0 0, .slice none 0 0] 54)) 42 #[.slice (some ⟨w4.heap.size + 1 + 1, 0, none⟩) 3 3]
      rwa [World.size_alloc, World.size_alloc, World.size_alloc] at this)
    have HRD := hid (bd_at w6 _ _ 2 (lo : Int) ((lo : Int) + (hi : Int)) 0 ((lo : Int) + (hi : Int) + (mo : Int)) (by omega) (by omega) (by omega) (by omega) (by omega) HB1.out HB2.out)
    have HW6 := hid hw6
    clear hw6 hm0 hm1 hm2 him
    have HS := hid (show ∀ w', Fr (fun _ => False) w6 w' → w'.cell? ⟨w4.heap.size + 1 + 1 + 1, 0, none⟩ = some (.slice (some ⟨w4.heap.size + 1 + 1, 0, none⟩) 3 3) ∧ w'.cell? ⟨w.heap.size, 0, none⟩ = some (.int .i64 xk) ∧ w'.cell? ⟨w.heap.size, 1, none⟩ = some (.int .u64 xn) ∧ w'.cell? ⟨w.heap.size, 2, none⟩ = some (.string xs) ∧ w'.cell? ⟨w.heap.size, 3, none⟩ = some (.slice Ax xm cx) ∧ Fr (fun _ => False) w6 w' from fun w' hf => by
      obtain ⟨a0, a1, a2, a3⟩ := HSX.out w' (HF6w.out.trans hf)
      exact ⟨(blk1 (HB3.out.fr hf (fun h => h))).1, a0, a1, a2, a3, hf⟩)
    have HC0 := hid (fun wx (hf : wx.cell? ⟨w4.heap.size + 1 + 1 + 1, 0, none⟩ = some (.slice (some ⟨w4.heap.size + 1 + 1, 0, none⟩) 3 3) ∧ wx.cell? ⟨w.heap.size, 0, none⟩ = some (.int .i64 xk) ∧ wx.cell? ⟨w.heap.size, 1, none⟩ = some (.int .u64 xn) ∧ wx.cell? ⟨w.heap.size, 2, none⟩ = some (.string xs) ∧ wx.cell? ⟨w.heap.size, 3, none⟩ = some (.slice Ax xm cx) ∧ Fr (fun _ => False) w6 wx) => (mat_calls (bd 2 (lo : Int) ((lo : Int) + (hi : Int)) 0 ((lo : Int) + (hi : Int) + (mo : Int))) (some ⟨w4.heap.size + 1 + 1, 0, none⟩) 3 3 0 wx (HDD.out.fr0 (HF6.out.trans hf.2.2.2.2.2)) rfl (Nat.le_refl _) (by decide) (HRD.out.fr0 hf.2.2.2.2.2) 0 x HXZ.out 0 w.heap.size _ (Nat.le_trans HF6.out.size hf.2.2.2.2.2.size) (HAT.out.fr0 (HF6.out.trans hf.2.2.2.2.2) (Nat.le_refl _))).mono (R' := fun e w' => e = .returned (.bool (r1 || r2)) ∧ w'.cell? ⟨w4.heap.size + 1 + 1 + 1, 0, none⟩ = some (.slice (some ⟨w4.heap.size + 1 + 1, 0, none⟩) 3 3) ∧ w'.cell? ⟨w.heap.size, 0, none⟩ = some (.int .i64 xk) ∧ w'.cell? ⟨w.heap.size, 1, none⟩ = some (.int .u64 xn) ∧ w'.cell? ⟨w.heap.size, 2, none⟩ = some (.string xs) ∧ w'.cell? ⟨w.heap.size, 3, none⟩ = some (.slice Ax xm cx) ∧ Fr (fun _ => False) w6 w') (fun e w' g => ⟨by rw [g.1, HM0.out], HS.out w' (hf.2.2.2.2.2.then_ g.2 (fun _ _ h => h))⟩))
    have HC1 := hid (fun wx (hf : wx.cell? ⟨w4.heap.size + 1 + 1 + 1, 0, none⟩ = some (.slice (some ⟨w4.heap.size + 1 + 1, 0, none⟩) 3 3) ∧ wx.cell? ⟨w.heap.size, 0, none⟩ = some (.int .i64 xk) ∧ wx.cell? ⟨w.heap.size, 1, none⟩ = some (.int .u64 xn) ∧ wx.cell? ⟨w.heap.size, 2, none⟩ = some (.string xs) ∧ wx.cell? ⟨w.heap.size, 3, none⟩ = some (.slice Ax xm cx) ∧ Fr (fun _ => False) w6 wx) => (mat_calls (bd 2 (lo : Int) ((lo : Int) + (hi : Int)) 0 ((lo : Int) + (hi : Int) + (mo : Int))) (some ⟨w4.heap.size + 1 + 1, 0, none⟩) 3 3 0 wx (HDD.out.fr0 (HF6.out.trans hf.2.2.2.2.2)) rfl (Nat.le_refl _) (by decide) (HRD.out.fr0 hf.2.2.2.2.2) 1 x HXZ.out 0 w.heap.size _ (Nat.le_trans HF6.out.size hf.2.2.2.2.2.size) (HAT.out.fr0 (HF6.out.trans hf.2.2.2.2.2) (Nat.le_refl _))).mono (R' := fun e w' => e = .returned (.bool r1) ∧ w'.cell? ⟨w4.heap.size + 1 + 1 + 1, 0, none⟩ = some (.slice (some ⟨w4.heap.size + 1 + 1, 0, none⟩) 3 3) ∧ w'.cell? ⟨w.heap.size, 0, none⟩ = some (.int .i64 xk) ∧ w'.cell? ⟨w.heap.size, 1, none⟩ = some (.int .u64 xn) ∧ w'.cell? ⟨w.heap.size, 2, none⟩ = some (.string xs) ∧ w'.cell? ⟨w.heap.size, 3, none⟩ = some (.slice Ax xm cx) ∧ Fr (fun _ => False) w6 w') (fun e w' g => ⟨by rw [g.1, HM1.out], HS.out w' (hf.2.2.2.2.2.then_ g.2 (fun _ _ h => h))⟩))
    have HC2 := hid (fun wx (hf : wx.cell? ⟨w4.heap.size + 1 + 1 + 1, 0, none⟩ = some (.slice (some ⟨w4.heap.size + 1 + 1, 0, none⟩) 3 3) ∧ wx.cell? ⟨w.heap.size, 0, none⟩ = some (.int .i64 xk) ∧ wx.cell? ⟨w.heap.size, 1, none⟩ = some (.int .u64 xn) ∧ wx.cell? ⟨w.heap.size, 2, none⟩ = some (.string xs) ∧ wx.cell? ⟨w.heap.size, 3, none⟩ = some (.slice Ax xm cx) ∧ Fr (fun _ => False) w6 wx) => (mat_calls (bd 2 (lo : Int) ((lo : Int) + (hi : Int)) 0 ((lo : Int) + (hi : Int) + (mo : Int))) (some ⟨w4.heap.size + 1 + 1, 0, none⟩) 3 3 0 wx (HDD.out.fr0 (HF6.out.trans hf.2.2.2.2.2)) rfl (Nat.le_refl _) (by decide) (HRD.out.fr0 hf.2.2.2.2.2) 2 x HXZ.out 0 w.heap.size _ (Nat.le_trans HF6.out.size hf.2.2.2.2.2.size) (HAT.out.fr0 (HF6.out.trans hf.2.2.2.2.2) (Nat.le_refl _))).mono (R' := fun e w' => e = .returned (.bool r2) ∧ w'.cell? ⟨w4.heap.size + 1 + 1 + 1, 0, none⟩ = some (.slice (some ⟨w4.heap.size + 1 + 1, 0, none⟩) 3 3) ∧ w'.cell? ⟨w.heap.size, 0, none⟩ = some (.int .i64 xk) ∧ w'.cell? ⟨w.heap.size, 1, none⟩ = some (.int .u64 xn) ∧ w'.cell? ⟨w.heap.size, 2, none⟩ = some (.string xs) ∧ w'.cell? ⟨w.heap.size, 3, none⟩ = some (.slice Ax xm cx) ∧ Fr (fun _ => False) w6 w') (fun e w' g => ⟨by rw [g.1, HM2.out], HS.out w' (hf.2.2.2.2.2.then_ g.2 (fun _ _ h => h))⟩))
    go_wp2_with fail
    rw [HW6.out]
    go_region_held3 (fun w' => w'.cell? ⟨w4.heap.size + 1 + 1 + 1, 0, none⟩ = some (.slice (some ⟨w4.heap.size + 1 + 1, 0, none⟩) 3 3) ∧ w'.cell? ⟨w.heap.size, 0, none⟩ = some (.int .i64 xk) ∧ w'.cell? ⟨w.heap.size, 1, none⟩ = some (.int .u64 xn) ∧ w'.cell? ⟨w.heap.size, 2, none⟩ = some (.string xs) ∧ w'.cell? ⟨w.heap.size, 3, none⟩ = some (.slice Ax xm cx) ∧ Fr (fun _ => False) w6 w')
      (first | exact HS.out _ (Fr.refl _ _) | exact HS.out _ (Fr.refl _ _).drew | assumption)
      (first
        | ((go_at_call 46; with_reducible refine (HC0.out _ (by assumption)).mono ?_; rintro e' w8 ⟨rfl, hS⟩))
        | ((go_at_call 46; with_reducible refine (HC1.out _ (by assumption)).mono ?_; rintro e' w8 ⟨rfl, hS⟩))
        | ((go_at_call 46; with_reducible refine (HC2.out _ (by assumption)).mono ?_; rintro e' w8 ⟨rfl, hS⟩)))
    all_goals
      have HFE := hid (HF6.out.trans hS.2.2.2.2.2)
      clear hS
      cases r1
      all_goals
        cases r2
        all_goals
          first
          | (go_wp2_with fail
             go_ret
             exact ⟨rfl, HFE.out⟩)
          | (have := HIM.out rfl; cases this)
  · have hb : (ce != 0) = true := bne_iff_ne.2 h0
    clear h0
    go_wp2_with fail
    go_ret
    exact ⟨rfl, HF1.out.trans HF4.out⟩

set_option maxRecDepth 100000 in
set_option maxHeartbeats 8000000 in
theorem law_12 (x : It) (hxz : x.size ≤ 2000000) (cs : List Value) (kk lo hi mo q : Nat) (hkk : kk = 3 * q + 1) (hkk2 : kk ≤ 255) (hlo : lo ≤ 255) (hhi : hi ≤ 255) (hmo : mo ≤ 255) (ht : (lo : Int) - (mo : Int) < 0) (w : World) (hD : Dbl w) (hat : ItAt w 0 w.heap.size x cs) :
    Calls Tryd.prog 8 #[.agg cs.toArray, .int .u8 (kk : Int), .int .u8 (lo : Int), .int .u8 (hi : Int), .int .u8 (mo : Int)] w fun e w' => e = .returned (.bool true) ∧ Fr (fun _ => False) w w' := by
  have HDD := hid hD
  have HXZ := hid hxz
  have HTT := hid ht
  have hat' := hat
  obtain ⟨xk, xn, xs, xl⟩ := x
  obtain ⟨Ax, cx, rfl, hxc, hxk, hxn, hxss, hxl, hL⟩ := hat
  have HAT := hid hat'
  obtain ⟨xm, hxm⟩ : ∃ m, xl.length = m := ⟨_, rfl⟩
  rw [hxm] at HAT ⊢
  obtain ⟨x, hxx⟩ : ∃ x, x = It.mk xk xn xs xl := ⟨_, rfl⟩
  rw [← hxx] at HAT HXZ
  have htm : Int.tmod (kk : Int) 3 = 1 := by rw [Int.tmod_eq_emod_of_nonneg (by omega)]; omega
  have hk1 : IntKind.i64.wrap (kk : Int) = (kk : Int) := i64_in _ (by omega)
  have hk2 : IntKind.i64.wrap (lo : Int) = (lo : Int) := i64_in _ (by omega)
  have hk3 : IntKind.i64.wrap (hi : Int) = (hi : Int) := i64_in _ (by omega)
  have hk4 : IntKind.i64.wrap (mo : Int) = (mo : Int) := i64_in _ (by omega)
  have hk5 : IntKind.i64.wrap ((lo : Int) + (hi : Int)) = (lo : Int) + (hi : Int) := i64_in _ (by omega)
  have hk6 : IntKind.i64.wrap ((lo : Int) - (mo : Int)) = (lo : Int) - (mo : Int) := i64_in _ (by omega)
  have hk7 : IntKind.i64.wrap ((lo : Int) + (hi : Int) + (mo : Int)) = (lo : Int) + (hi : Int) + (mo : Int) := i64_in _ (by omega)
  have ht1 : ¬ 0 ≤ (lo : Int) - (mo : Int) := by omega
  have ht2 : ¬ 0 < (lo : Int) - (mo : Int) := by omega
  have ht3 : (lo : Int) - (mo : Int) ≤ 0 := by omega
  obtain ⟨w1, hw1⟩ : ∃ w1, w.alloc (.cells #[.int .i64 xk, .int .u64 xn, .string xs, .slice Ax xm cx] 25) = w1 := ⟨_, rfl⟩
  have HF1 := hid (show Fr (fun _ => False) w w1 by rw [← hw1]; exact (Fr.refl _ w).alloc _)
  have HBX := hid (show Blk w1 w.heap.size 25 #[.int .i64 xk, .int .u64 xn, .string xs, .slice Ax xm cx] by rw [← hw1]; exact Blk.new _ _ _)
  have HW1 := hid hw1
  have HSX := hid (show ∀ w', Fr (fun _ => False) w1 w' → w'.cell? ⟨w.heap.size, 0, none⟩ = some (.int .i64 xk) ∧ w'.cell? ⟨w.heap.size, 1, none⟩ = some (.int .u64 xn) ∧ w'.cell? ⟨w.heap.size, 2, none⟩ = some (.string xs) ∧ w'.cell? ⟨w.heap.size, 3, none⟩ = some (.slice Ax xm cx) from fun w' hf => by
    have hB := HBX.out.fr hf (fun h => h)
    have e0 := hB.cell 0
    have e1 := hB.cell 1
    have e2 := hB.cell 2
    have e3 := hB.cell 3
    simp at e0 e1 e2 e3
    exact ⟨e0, e1, e2, e3⟩)
  clear hD hxz hat' hxm hxx hL hw1 hkk
  go_enter Tryd.func8, Tryd.ntmps8
  go_wp2_with fail
  rw [HW1.out]
  refine (DenY.awake_calls w1 (HDD.out.fr0 HF1.out)).mono ?_
  rintro e w2 ⟨rfl, hf⟩
  have HF2 := hid hf
  obtain ⟨c0, c1, c2, c3⟩ := HSX.out w2 hf
  clear hf
  go_wp2_with fail
  refine (great_calls x HXZ.out 0 w.heap.size _ w2 (HF1.out.trans HF2.out).size (HAT.out.fr0 (HF1.out.trans HF2.out) (Nat.le_refl _))).mono ?_
  rintro e w3 ⟨⟨g, rfl⟩, hf⟩
  have HF3 := hid (HF2.out.then_ hf (fun _ _ h => h))
  clear hf c0 c1 c2 c3
  cases g with
  | true =>
    go_wp2_with fail
    go_ret
    exact ⟨rfl, HF1.out.trans HF3.out⟩
  | false =>
  obtain ⟨c0, c1, c2, c3⟩ := HSX.out w3 HF3.out
  go_wp2_with fail
  refine (refcheck_calls x HXZ.out 0 w.heap.size _ w3 (HF1.out.trans HF3.out).size (HAT.out.fr0 (HF1.out.trans HF3.out) (Nat.le_refl _))).mono ?_
  rintro e w4 ⟨rfl, hf⟩
  have HF4 := hid (HF3.out.then_ hf (fun _ _ h => h))
  obtain ⟨ce, hce⟩ : ∃ ce, x.check = ce := ⟨_, rfl⟩
  have HCE := hid hce
  rw [hce]
  clear hf hce c0 c1 c2 c3
  by_cases h0 : ce = 0
  · subst h0
    obtain ⟨r1, r2, hm0, hm1, hm2, him⟩ := bd_mat (k := 2) (a := (lo : Int)) (b := ((lo : Int) + (hi : Int))) (a' := 0) (b' := ((lo : Int) + (hi : Int) + (mo : Int))) (by omega) (by omega) (by omega) (by omega) HCE.out
    have HM0 := hid hm0
    have HM1 := hid hm1
    have HM2 := hid hm2
    have HIM := hid him
    obtain ⟨w6, hw6⟩ : ∃ w6, (((w4.alloc (.cells #[.int .i64 1, .int .i64 2, .int .i64 3] 3)).alloc (.cells #[.int .i64 1, .int .i64 2] 3)).alloc (.cells #[.int .i64 10, .int .i64 0, .int .i64 0, .int .i64 0, .int .u64 0, .string { data := #[] }, .slice none 0 0, .slice (some ⟨w4.heap.size + 1, 0, none⟩) 2 2, .slice none 0 0, .int .i64 2, .int .i64 (lo : Int), .int .i64 ((lo : Int) + (hi : Int)), .int .i64 0, .int .u64 0, .string { data := #[] }, .slice none 0 0, .slice none 0 0, .slice none 0 0, .int .i64 2, .int .i64 0, .int .i64 ((lo : Int) + (hi : Int) + (mo : Int)), .int .i64 0, .int .u64 0, .string { data := #[] }, .slice none 0 0, .slice none 0 0, .slice none 0 0] 54)).alloc (.cells #[.slice (some ⟨w4.heap.size + 1 + 1, 0, none⟩) 3 3] 42) = w6 := ⟨_, rfl⟩
    have HF6w := hid (show Fr (fun _ => False) w1 w6 by rw [← hw6]; exact ((((HF4.out.alloc _).alloc _).alloc _).alloc _))
    have HF6 := hid (HF1.out.trans HF6w.out)
    have HB1 := hid (show Blk w6 (w4.heap.size + 1) 3 #[.int .i64 1, .int .i64 2] by
      rw [← hw6]
      have := Blk.new (w4.alloc (.cells #[.int .i64 1, .int .i64 2, .int .i64 3] 3)) 3 #[.int .i64 1, .int .i64 2]
      rw [World.size_alloc] at this
      exact (this.alloc _).alloc _)
    have HB2 := hid (show Blk w6 (w4.heap.size + 1 + 1) 54 #[.int .i64 10, .int .i64 0, .int .i64 0, .int .i64 0, .int .u64 0, .string { data := #[] }, .slice none 0 0, .slice (some ⟨w4.heap.size + 1, 0, none⟩) 2 2, .slice none 0 0, .int .i64 2, .int .i64 (lo : Int), .int .i64 ((lo : Int) + (hi : Int)), .int .i64 0, .int .u64 0, .string { data := #[] }, .slice none 0 0, .slice none 0 0, .slice none 0 0, .int .i64 2, .int .i64 0, .int .i64 ((lo : Int) + (hi : Int) + (mo : Int)), .int .i64 0, .int .u64 0, .string { data := #[] }, .slice none 0 0, .slice none 0 0, .slice none 0 0] by
      rw [← hw6]
      have := Blk.new ((w4.alloc (.cells #[.int .i64 1, .int .i64 2, .int .i64 3] 3)).alloc (.cells #[.int .i64 1, .int .i64 2] 3)) 54 #[.int .i64 10, .int .i64 0, .int .i64 0, .int .i64 0, .int .u64 0, .string { data := #[] }, .slice none 0 0, .slice (some ⟨w4.heap.size + 1, 0, none⟩) 2 2, .slice none 0 0, .int .i64 2, .int .i64 (lo : Int), .int .i64 ((lo : Int) + (hi : Int)), .int .i64 0, .int .u64 0, .string { data := #[] }, .slice none 0 0, .slice none 0 0, .slice none 0 0, .int .i64 2, .int .i64 0, .int .i64 ((lo : Int) + (hi : Int) + (mo : Int)), .int .i64 0, .int .u64 0, .string { data := #[] }, .slice none 0 0, .slice none 0 0, .slice none 0 0]
      rw [World.size_alloc, World.size_alloc] at this
      exact this.alloc _)
    have HB3 := hid (show Blk w6 (w4.heap.size + 1 + 1 + 1) 42 #[.slice (some ⟨w4.heap.size + 1 + 1, 0, none⟩) 3 3] by
      rw [← hw6]
      have := Blk.new (((w4.alloc (.cells #[.int .i64 1, .int .i64 2, .int .i64 3] 3)).alloc (.cells #[.int .i64 1, .int .i64 2] 3)).alloc (.cells #[.int .i64 10, .int .i64 0, .int .i64 0, .int .i64 0, .int .u64 0, .string { data := #[] }, .slice none 0 0, .slice (some ⟨w4.heap.size + 1, 0, none⟩) 2 2, .slice none 0 0, .int .i64 2, .int .i64 (lo : Int), .int .i64 ((lo : Int) + (hi : Int)), .int .i64 0, .int .u64 0, .string { data := #[] }, .slice none 0 0, .slice none 0 0, .slice none 0 0, .int .i64 2, .int .i64 0, .int .i64 ((lo : Int) + (hi : Int) + (mo : Int)), .int .i64 0, .int .u64 0, .string { data := #[] }, .slice none 0 0, .slice none 0 0, .slice none 0 0] 54)) 42 #[.slice (some ⟨w4.heap.size + 1 + 1, 0, none⟩) 3 3]
      rwa [World.size_alloc, World.size_alloc, World.size_alloc] at this)
    have HRD := hid (bd_at w6 _ _ 2 (lo : Int) ((lo : Int) + (hi : Int)) 0 ((lo : Int) + (hi : Int) + (mo : Int)) (by omega) (by omega) (by omega) (by omega) (by omega) HB1.out HB2.out)
    have HW6 := hid hw6
    clear hw6 hm0 hm1 hm2 him
    have HS := hid (show ∀ w', Fr (fun _ => False) w6 w' → w'.cell? ⟨w4.heap.size + 1 + 1 + 1, 0, none⟩ = some (.slice (some ⟨w4.heap.size + 1 + 1, 0, none⟩) 3 3) ∧ w'.cell? ⟨w.heap.size, 0, none⟩ = some (.int .i64 xk) ∧ w'.cell? ⟨w.heap.size, 1, none⟩ = some (.int .u64 xn) ∧ w'.cell? ⟨w.heap.size, 2, none⟩ = some (.string xs) ∧ w'.cell? ⟨w.heap.size, 3, none⟩ = some (.slice Ax xm cx) ∧ Fr (fun _ => False) w6 w' from fun w' hf => by
      obtain ⟨a0, a1, a2, a3⟩ := HSX.out w' (HF6w.out.trans hf)
      exact ⟨(blk1 (HB3.out.fr hf (fun h => h))).1, a0, a1, a2, a3, hf⟩)
    have HC0 := hid (fun wx (hf : wx.cell? ⟨w4.heap.size + 1 + 1 + 1, 0, none⟩ = some (.slice (some ⟨w4.heap.size + 1 + 1, 0, none⟩) 3 3) ∧ wx.cell? ⟨w.heap.size, 0, none⟩ = some (.int .i64 xk) ∧ wx.cell? ⟨w.heap.size, 1, none⟩ = some (.int .u64 xn) ∧ wx.cell? ⟨w.heap.size, 2, none⟩ = some (.string xs) ∧ wx.cell? ⟨w.heap.size, 3, none⟩ = some (.slice Ax xm cx) ∧ Fr (fun _ => False) w6 wx) => (mat_calls (bd 2 (lo : Int) ((lo : Int) + (hi : Int)) 0 ((lo : Int) + (hi : Int) + (mo : Int))) (some ⟨w4.heap.size + 1 + 1, 0, none⟩) 3 3 0 wx (HDD.out.fr0 (HF6.out.trans hf.2.2.2.2.2)) rfl (Nat.le_refl _) (by decide) (HRD.out.fr0 hf.2.2.2.2.2) 0 x HXZ.out 0 w.heap.size _ (Nat.le_trans HF6.out.size hf.2.2.2.2.2.size) (HAT.out.fr0 (HF6.out.trans hf.2.2.2.2.2) (Nat.le_refl _))).mono (R' := fun e w' => e = .returned (.bool (r1 || r2)) ∧ w'.cell? ⟨w4.heap.size + 1 + 1 + 1, 0, none⟩ = some (.slice (some ⟨w4.heap.size + 1 + 1, 0, none⟩) 3 3) ∧ w'.cell? ⟨w.heap.size, 0, none⟩ = some (.int .i64 xk) ∧ w'.cell? ⟨w.heap.size, 1, none⟩ = some (.int .u64 xn) ∧ w'.cell? ⟨w.heap.size, 2, none⟩ = some (.string xs) ∧ w'.cell? ⟨w.heap.size, 3, none⟩ = some (.slice Ax xm cx) ∧ Fr (fun _ => False) w6 w') (fun e w' g => ⟨by rw [g.1, HM0.out], HS.out w' (hf.2.2.2.2.2.then_ g.2 (fun _ _ h => h))⟩))
    have HC1 := hid (fun wx (hf : wx.cell? ⟨w4.heap.size + 1 + 1 + 1, 0, none⟩ = some (.slice (some ⟨w4.heap.size + 1 + 1, 0, none⟩) 3 3) ∧ wx.cell? ⟨w.heap.size, 0, none⟩ = some (.int .i64 xk) ∧ wx.cell? ⟨w.heap.size, 1, none⟩ = some (.int .u64 xn) ∧ wx.cell? ⟨w.heap.size, 2, none⟩ = some (.string xs) ∧ wx.cell? ⟨w.heap.size, 3, none⟩ = some (.slice Ax xm cx) ∧ Fr (fun _ => False) w6 wx) => (mat_calls (bd 2 (lo : Int) ((lo : Int) + (hi : Int)) 0 ((lo : Int) + (hi : Int) + (mo : Int))) (some ⟨w4.heap.size + 1 + 1, 0, none⟩) 3 3 0 wx (HDD.out.fr0 (HF6.out.trans hf.2.2.2.2.2)) rfl (Nat.le_refl _) (by decide) (HRD.out.fr0 hf.2.2.2.2.2) 1 x HXZ.out 0 w.heap.size _ (Nat.le_trans HF6.out.size hf.2.2.2.2.2.size) (HAT.out.fr0 (HF6.out.trans hf.2.2.2.2.2) (Nat.le_refl _))).mono (R' := fun e w' => e = .returned (.bool r1) ∧ w'.cell? ⟨w4.heap.size + 1 + 1 + 1, 0, none⟩ = some (.slice (some ⟨w4.heap.size + 1 + 1, 0, none⟩) 3 3) ∧ w'.cell? ⟨w.heap.size, 0, none⟩ = some (.int .i64 xk) ∧ w'.cell? ⟨w.heap.size, 1, none⟩ = some (.int .u64 xn) ∧ w'.cell? ⟨w.heap.size, 2, none⟩ = some (.string xs) ∧ w'.cell? ⟨w.heap.size, 3, none⟩ = some (.slice Ax xm cx) ∧ Fr (fun _ => False) w6 w') (fun e w' g => ⟨by rw [g.1, HM1.out], HS.out w' (hf.2.2.2.2.2.then_ g.2 (fun _ _ h => h))⟩))
    have HC2 := hid (fun wx (hf : wx.cell? ⟨w4.heap.size + 1 + 1 + 1, 0, none⟩ = some (.slice (some ⟨w4.heap.size + 1 + 1, 0, none⟩) 3 3) ∧ wx.cell? ⟨w.heap.size, 0, none⟩ = some (.int .i64 xk) ∧ wx.cell? ⟨w.heap.size, 1, none⟩ = some (.int .u64 xn) ∧ wx.cell? ⟨w.heap.size, 2, none⟩ = some (.string xs) ∧ wx.cell? ⟨w.heap.size, 3, none⟩ = some (.slice Ax xm cx) ∧ Fr (fun _ => False) w6 wx) => (mat_calls (bd 2 (lo : Int) ((lo : Int) + (hi : Int)) 0 ((lo : Int) + (hi : Int) + (mo : Int))) (some ⟨w4.heap.size + 1 + 1, 0, none⟩) 3 3 0 wx (HDD.out.fr0 (HF6.out.trans hf.2.2.2.2.2)) rfl (Nat.le_refl _) (by decide) (HRD.out.fr0 hf.2.2.2.2.2) 2 x HXZ.out 0 w.heap.size _ (Nat.le_trans HF6.out.size hf.2.2.2.2.2.size) (HAT.out.fr0 (HF6.out.trans hf.2.2.2.2.2) (Nat.le_refl _))).mono (R' := fun e w' => e = .returned (.bool r2) ∧ w'.cell? ⟨w4.heap.size + 1 + 1 + 1, 0, none⟩ = some (.slice (some ⟨w4.heap.size + 1 + 1, 0, none⟩) 3 3) ∧ w'.cell? ⟨w.heap.size, 0, none⟩ = some (.int .i64 xk) ∧ w'.cell? ⟨w.heap.size, 1, none⟩ = some (.int .u64 xn) ∧ w'.cell? ⟨w.heap.size, 2, none⟩ = some (.string xs) ∧ w'.cell? ⟨w.heap.size, 3, none⟩ = some (.slice Ax xm cx) ∧ Fr (fun _ => False) w6 w') (fun e w' g => ⟨by rw [g.1, HM2.out], HS.out w' (hf.2.2.2.2.2.then_ g.2 (fun _ _ h => h))⟩))
    go_wp2_with fail
    rw [HW6.out]
    go_region_held3 (fun w' => w'.cell? ⟨w4.heap.size + 1 + 1 + 1, 0, none⟩ = some (.slice (some ⟨w4.heap.size + 1 + 1, 0, none⟩) 3 3) ∧ w'.cell? ⟨w.heap.size, 0, none⟩ = some (.int .i64 xk) ∧ w'.cell? ⟨w.heap.size, 1, none⟩ = some (.int .u64 xn) ∧ w'.cell? ⟨w.heap.size, 2, none⟩ = some (.string xs) ∧ w'.cell? ⟨w.heap.size, 3, none⟩ = some (.slice Ax xm cx) ∧ Fr (fun _ => False) w6 w')
      (first | exact HS.out _ (Fr.refl _ _) | exact HS.out _ (Fr.refl _ _).drew | assumption)
      (first
        | ((go_at_call 46; with_reducible refine (HC0.out _ (by assumption)).mono ?_; rintro e' w8 ⟨rfl, hS⟩))
        | ((go_at_call 46; with_reducible refine (HC1.out _ (by assumption)).mono ?_; rintro e' w8 ⟨rfl, hS⟩))
        | ((go_at_call 46; with_reducible refine (HC2.out _ (by assumption)).mono ?_; rintro e' w8 ⟨rfl, hS⟩)))
    all_goals
      have HFE := hid (HF6.out.trans hS.2.2.2.2.2)
      clear hS
      cases r1
      all_goals
        cases r2
        all_goals
          first
          | (go_wp2_with fail
             go_ret
             exact ⟨rfl, HFE.out⟩)
          | (have := HIM.out rfl; cases this)
  · have hb : (ce != 0) = true := bne_iff_ne.2 h0
    clear h0
    go_wp2_with fail
    go_ret
    exact ⟨rfl, HF1.out.trans HF4.out⟩

set_option maxRecDepth 100000 in
set_option maxHeartbeats 8000000 in
theorem law_20 (x : It) (hxz : x.size ≤ 2000000) (cs : List Value) (kk lo hi mo q : Nat) (hkk : kk = 3 * q + 2) (hkk2 : kk ≤ 255) (hlo : lo ≤ 255) (hhi : hi ≤ 255) (hmo : mo ≤ 255) (ht : 0 < (lo : Int) - (mo : Int)) (w : World) (hD : Dbl w) (hat : ItAt w 0 w.heap.size x cs) :
    Calls Tryd.prog 8 #[.agg cs.toArray, .int .u8 (kk : Int), .int .u8 (lo : Int), .int .u8 (hi : Int), .int .u8 (mo : Int)] w fun e w' => e = .returned (.bool true) ∧ Fr (fun _ => False) w w' := by
  have HDD := hid hD
  have HXZ := hid hxz
  have HTT := hid ht
  have hat' := hat
  obtain ⟨xk, xn, xs, xl⟩ := x
  obtain ⟨Ax, cx, rfl, hxc, hxk, hxn, hxss, hxl, hL⟩ := hat
  have HAT := hid hat'
  obtain ⟨xm, hxm⟩ : ∃ m, xl.length = m := ⟨_, rfl⟩
  rw [hxm] at HAT ⊢
  obtain ⟨x, hxx⟩ : ∃ x, x = It.mk xk xn xs xl := ⟨_, rfl⟩
  rw [← hxx] at HAT HXZ
  have htm : Int.tmod (kk : Int) 3 = 2 := by rw [Int.tmod_eq_emod_of_nonneg (by omega)]; omega
  have hk1 : IntKind.i64.wrap (kk : Int) = (kk : Int) := i64_in _ (by omega)
  have hk2 : IntKind.i64.wrap (lo : Int) = (lo : Int) := i64_in _ (by omega)
  have hk3 : IntKind.i64.wrap (hi : Int) = (hi : Int) := i64_in _ (by omega)
  have hk4 : IntKind.i64.wrap (mo : Int) = (mo : Int) := i64_in _ (by omega)
  have hk5 : IntKind.i64.wrap ((lo : Int) + (hi : Int)) = (lo : Int) + (hi : Int) := i64_in _ (by omega)
  have hk6 : IntKind.i64.wrap ((lo : Int) - (mo : Int)) = (lo : Int) - (mo : Int) := i64_in _ (by omega)
  have hk7 : IntKind.i64.wrap ((lo : Int) + (hi : Int) + (mo : Int)) = (lo : Int) + (hi : Int) + (mo : Int) := i64_in _ (by omega)
  have ht1 : ¬ (lo : Int) - (mo : Int) ≤ 0 := by omega
  have ht2 : ¬ (lo : Int) - (mo : Int) < 0 := by omega
  have ht3 : 0 ≤ (lo : Int) - (mo : Int) := by omega
  obtain ⟨w1, hw1⟩ : ∃ w1, w.alloc (.cells #[.int .i64 xk, .int .u64 xn, .string xs, .slice Ax xm cx] 25) = w1 := ⟨_, rfl⟩
  have HF1 := hid (show Fr (fun _ => False) w w1 by rw [← hw1]; exact (Fr.refl _ w).alloc _)
  have HBX := hid (show Blk w1 w.heap.size 25 #[.int .i64 xk, .int .u64 xn, .string xs, .slice Ax xm cx] by rw [← hw1]; exact Blk.new _ _ _)
  have HW1 := hid hw1
  have HSX := hid (show ∀ w', Fr (fun _ => False) w1 w' → w'.cell? ⟨w.heap.size, 0, none⟩ = some (.int .i64 xk) ∧ w'.cell? ⟨w.heap.size, 1, none⟩ = some (.int .u64 xn) ∧ w'.cell? ⟨w.heap.size, 2, none⟩ = some (.string xs) ∧ w'.cell? ⟨w.heap.size, 3, none⟩ = some (.slice Ax xm cx) from fun w' hf => by
    have hB := HBX.out.fr hf (fun h => h)
    have e0 := hB.cell 0
    have e1 := hB.cell 1
    have e2 := hB.cell 2
    have e3 := hB.cell 3
    simp at e0 e1 e2 e3
    exact ⟨e0, e1, e2, e3⟩)
  clear hD hxz hat' hxm hxx hL hw1 hkk
  go_enter Tryd.func8, Tryd.ntmps8
  go_wp2_with fail
  rw [HW1.out]
  refine (DenY.awake_calls w1 (HDD.out.fr0 HF1.out)).mono ?_
  rintro e w2 ⟨rfl, hf⟩
  have HF2 := hid hf
  obtain ⟨c0, c1, c2, c3⟩ := HSX.out w2 hf
  clear hf
  go_wp2_with fail
  refine (great_calls x HXZ.out 0 w.heap.size _ w2 (HF1.out.trans HF2.out).size (HAT.out.fr0 (HF1.out.trans HF2.out) (Nat.le_refl _))).mono ?_
  rintro e w3 ⟨⟨g, rfl⟩, hf⟩
  have HF3 := hid (HF2.out.then_ hf (fun _ _ h => h))
  clear hf c0 c1 c2 c3
  cases g with
  | true =>
    go_wp2_with fail
    go_ret
    exact ⟨rfl, HF1.out.trans HF3.out⟩
  | false =>
  obtain ⟨c0, c1, c2, c3⟩ := HSX.out w3 HF3.out
  go_wp2_with fail
  refine (refcheck_calls x HXZ.out 0 w.heap.size _ w3 (HF1.out.trans HF3.out).size (HAT.out.fr0 (HF1.out.trans HF3.out) (Nat.le_refl _))).mono ?_
  rintro e w4 ⟨rfl, hf⟩
  have HF4 := hid (HF3.out.then_ hf (fun _ _ h => h))
  obtain ⟨ce, hce⟩ : ∃ ce, x.check = ce := ⟨_, rfl⟩
  have HCE := hid hce
  rw [hce]
  clear hf hce c0 c1 c2 c3
  by_cases h0 : ce = 0
  · subst h0
    obtain ⟨r1, r2, hm0, hm1, hm2, him⟩ := bd_mat (k := 3) (a := (lo : Int)) (b := ((lo : Int) + (hi : Int))) (a' := ((lo : Int) - (mo : Int))) (b' := ((lo : Int) + (hi : Int) + (mo : Int))) (by omega) (by omega) (by omega) (by omega) HCE.out
    have HM0 := hid hm0
    have HM1 := hid hm1
    have HM2 := hid hm2
    have HIM := hid him
    obtain ⟨w6, hw6⟩ : ∃ w6, (((w4.alloc (.cells #[.int .i64 1, .int .i64 2, .int .i64 3] 3)).alloc (.cells #[.int .i64 1, .int .i64 2] 3)).alloc (.cells #[.int .i64 10, .int .i64 0, .int .i64 0, .int .i64 0, .int .u64 0, .string { data := #[] }, .slice none 0 0, .slice (some ⟨w4.heap.size + 1, 0, none⟩) 2 2, .slice none 0 0, .int .i64 3, .int .i64 (lo : Int), .int .i64 ((lo : Int) + (hi : Int)), .int .i64 0, .int .u64 0, .string { data := #[] }, .slice none 0 0, .slice none 0 0, .slice none 0 0, .int .i64 3, .int .i64 ((lo : Int) - (mo : Int)), .int .i64 ((lo : Int) + (hi : Int) + (mo : Int)), .int .i64 0, .int .u64 0, .string { data := #[] }, .slice none 0 0, .slice none 0 0, .slice none 0 0] 54)).alloc (.cells #[.slice (some ⟨w4.heap.size + 1 + 1, 0, none⟩) 3 3] 42) = w6 := ⟨_, rfl⟩
    have HF6w := hid (show Fr (fun _ => False) w1 w6 by rw [← hw6]; exact ((((HF4.out.alloc _).alloc _).alloc _).alloc _))
    have HF6 := hid (HF1.out.trans HF6w.out)
    have HB1 := hid (show Blk w6 (w4.heap.size + 1) 3 #[.int .i64 1, .int .i64 2] by
      rw [← hw6]
      have := Blk.new (w4.alloc (.cells #[.int .i64 1, .int .i64 2, .int .i64 3] 3)) 3 #[.int .i64 1, .int .i64 2]
      rw [World.size_alloc] at this
      exact (this.alloc _).alloc _)
    have HB2 := hid (show Blk w6 (w4.heap.size + 1 + 1) 54 #[.int .i64 10, .int .i64 0, .int .i64 0, .int .i64 0, .int .u64 0, .string { data := #[] }, .slice none 0 0, .slice (some ⟨w4.heap.size + 1, 0, none⟩) 2 2, .slice none 0 0, .int .i64 3, .int .i64 (lo : Int), .int .i64 ((lo : Int) + (hi : Int)), .int .i64 0, .int .u64 0, .string { data := #[] }, .slice none 0 0, .slice none 0 0, .slice none 0 0, .int .i64 3, .int .i64 ((lo : Int) - (mo : Int)), .int .i64 ((lo : Int) + (hi : Int) + (mo : Int)), .int .i64 0, .int .u64 0, .string { data := #[] }, .slice none 0 0, .slice none 0 0, .slice none 0 0] by
      rw [← hw6]
      have := Blk.new ((w4.alloc (.cells #[.int .i64 1, .int .i64 2, .int .i64 3] 3)).alloc (.cells #[.int .i64 1, .int .i64 2] 3)) 54 #[.int .i64 10, .int .i64 0, .int .i64 0, .int .i64 0, .int .u64 0, .string { data := #[] }, .slice none 0 0, .slice (some ⟨w4.heap.size + 1, 0, none⟩) 2 2, .slice none 0 0, .int .i64 3, .int .i64 (lo : Int), .int .i64 ((lo : Int) + (hi : Int)), .int .i64 0, .int .u64 0, .string { data := #[] }, .slice none 0 0, .slice none 0 0, .slice none 0 0, .int .i64 3, .int .i64 ((lo : Int) - (mo : Int)), .int .i64 ((lo : Int) + (hi : Int) + (mo : Int)), .int .i64 0, .int .u64 0, .string { data := #[] }, .slice none 0 0, .slice none 0 0, .slice none 0 0]
      rw [World.size_alloc, World.size_alloc] at this
      exact this.alloc _)
    have HB3 := hid (show Blk w6 (w4.heap.size + 1 + 1 + 1) 42 #[.slice (some ⟨w4.heap.size + 1 + 1, 0, none⟩) 3 3] by
      rw [← hw6]
      have := Blk.new (((w4.alloc (.cells #[.int .i64 1, .int .i64 2, .int .i64 3] 3)).alloc (.cells #[.int .i64 1, .int .i64 2] 3)).alloc (.cells #[.int .i64 10, .int .i64 0, .int .i64 0, .int .i64 0, .int .u64 0, .string { data := #[] }, .slice none 0 0, .slice (some ⟨w4.heap.size + 1, 0, none⟩) 2 2, .slice none 0 0, .int .i64 3, .int .i64 (lo : Int), .int .i64 ((lo : Int) + (hi : Int)), .int .i64 0, .int .u64 0, .string { data := #[] }, .slice none 0 0, .slice none 0 0, .slice none 0 0, .int .i64 3, .int .i64 ((lo : Int) - (mo : Int)), .int .i64 ((lo : Int) + (hi : Int) + (mo : Int)), .int .i64 0, .int .u64 0, .string { data := #[] }, .slice none 0 0, .slice none 0 0, .slice none 0 0] 54)) 42 #[.slice (some ⟨w4.heap.size + 1 + 1, 0, none⟩) 3 3]
      rwa [World.size_alloc, World.size_alloc, World.size_alloc] at this)
    have HRD := hid (bd_at w6 _ _ 3 (lo : Int) ((lo : Int) + (hi : Int)) ((lo : Int) - (mo : Int)) ((lo : Int) + (hi : Int) + (mo : Int)) (by omega) (by omega) (by omega) (by omega) (by omega) HB1.out HB2.out)
    have HW6 := hid hw6
    clear hw6 hm0 hm1 hm2 him
    have HS := hid (show ∀ w', Fr (fun _ => False) w6 w' → w'.cell? ⟨w4.heap.size + 1 + 1 + 1, 0, none⟩ = some (.slice (some ⟨w4.heap.size + 1 + 1, 0, none⟩) 3 3) ∧ w'.cell? ⟨w.heap.size, 0, none⟩ = some (.int .i64 xk) ∧ w'.cell? ⟨w.heap.size, 1, none⟩ = some (.int .u64 xn) ∧ w'.cell? ⟨w.heap.size, 2, none⟩ = some (.string xs) ∧ w'.cell? ⟨w.heap.size, 3, none⟩ = some (.slice Ax xm cx) ∧ Fr (fun _ => False) w6 w' from fun w' hf => by
      obtain ⟨a0, a1, a2, a3⟩ := HSX.out w' (HF6w.out.trans hf)
      exact ⟨(blk1 (HB3.out.fr hf (fun h => h))).1, a0, a1, a2, a3, hf⟩)
    have HC0 := hid (fun wx (hf : wx.cell? ⟨w4.heap.size + 1 + 1 + 1, 0, none⟩ = some (.slice (some ⟨w4.heap.size + 1 + 1, 0, none⟩) 3 3) ∧ wx.cell? ⟨w.heap.size, 0, none⟩ = some (.int .i64 xk) ∧ wx.cell? ⟨w.heap.size, 1, none⟩ = some (.int .u64 xn) ∧ wx.cell? ⟨w.heap.size, 2, none⟩ = some (.string xs) ∧ wx.cell? ⟨w.heap.size, 3, none⟩ = some (.slice Ax xm cx) ∧ Fr (fun _ => False) w6 wx) => (mat_calls (bd 3 (lo : Int) ((lo : Int) + (hi : Int)) ((lo : Int) - (mo : Int)) ((lo : Int) + (hi : Int) + (mo : Int))) (some ⟨w4.heap.size + 1 + 1, 0, none⟩) 3 3 0 wx (HDD.out.fr0 (HF6.out.trans hf.2.2.2.2.2)) rfl (Nat.le_refl _) (by decide) (HRD.out.fr0 hf.2.2.2.2.2) 0 x HXZ.out 0 w.heap.size _ (Nat.le_trans HF6.out.size hf.2.2.2.2.2.size) (HAT.out.fr0 (HF6.out.trans hf.2.2.2.2.2) (Nat.le_refl _))).mono (R' := fun e w' => e = .returned (.bool (r1 || r2)) ∧ w'.cell? ⟨w4.heap.size + 1 + 1 + 1, 0, none⟩ = some (.slice (some ⟨w4.heap.size + 1 + 1, 0, none⟩) 3 3) ∧ w'.cell? ⟨w.heap.size, 0, none⟩ = some (.int .i64 xk) ∧ w'.cell? ⟨w.heap.size, 1, none⟩ = some (.int .u64 xn) ∧ w'.cell? ⟨w.heap.size, 2, none⟩ = some (.string xs) ∧ w'.cell? ⟨w.heap.size, 3, none⟩ = some (.slice Ax xm cx) ∧ Fr (fun _ => False) w6 w') (fun e w' g => ⟨by rw [g.1, HM0.out], HS.out w' (hf.2.2.2.2.2.then_ g.2 (fun _ _ h => h))⟩))
    have HC1 := hid (fun wx (hf : wx.cell? ⟨w4.heap.size + 1 + 1 + 1, 0, none⟩ = some (.slice (some ⟨w4.heap.size + 1 + 1, 0, none⟩) 3 3) ∧ wx.cell? ⟨w.heap.size, 0, none⟩ = some (.int .i64 xk) ∧ wx.cell? ⟨w.heap.size, 1, none⟩ = some (.int .u64 xn) ∧ wx.cell? ⟨w.heap.size, 2, none⟩ = some (.string xs) ∧ wx.cell? ⟨w.heap.size, 3, none⟩ = some (.slice Ax xm cx) ∧ Fr (fun _ => False) w6 wx) => (mat_calls (bd 3 (lo : Int) ((lo : Int) + (hi : Int)) ((lo : Int) - (mo : Int)) ((lo : Int) + (hi : Int) + (mo : Int))) (some ⟨w4.heap.size + 1 + 1, 0, none⟩) 3 3 0 wx (HDD.out.fr0 (HF6.out.trans hf.2.2.2.2.2)) rfl (Nat.le_refl _) (by decide) (HRD.out.fr0 hf.2.2.2.2.2) 1 x HXZ.out 0 w.heap.size _ (Nat.le_trans HF6.out.size hf.2.2.2.2.2.size) (HAT.out.fr0 (HF6.out.trans hf.2.2.2.2.2) (Nat.le_refl _))).mono (R' := fun e w' => e = .returned (.bool r1) ∧ w'.cell? ⟨w4.heap.size + 1 + 1 + 1, 0, none⟩ = some (.slice (some ⟨w4.heap.size + 1 + 1, 0, none⟩) 3 3) ∧ w'.cell? ⟨w.heap.size, 0, none⟩ = some (.int .i64 xk) ∧ w'.cell? ⟨w.heap.size, 1, none⟩ = some (.int .u64 xn) ∧ w'.cell? ⟨w.heap.size, 2, none⟩ = some (.string xs) ∧ w'.cell? ⟨w.heap.size, 3, none⟩ = some (.slice Ax xm cx) ∧ Fr (fun _ => False) w6 w') (fun e w' g => ⟨by rw [g.1, HM1.out], HS.out w' (hf.2.2.2.2.2.then_ g.2 (fun _ _ h => h))⟩))
    have HC2 := hid (fun wx (hf : wx.cell? ⟨w4.heap.size + 1 + 1 + 1, 0, none⟩ = some (.slice (some ⟨w4.heap.size + 1 + 1, 0, none⟩) 3 3) ∧ wx.cell? ⟨w.heap.size, 0, none⟩ = some (.int .i64 xk) ∧ wx.cell? ⟨w.heap.size, 1, none⟩ = some (.int .u64 xn) ∧ wx.cell? ⟨w.heap.size, 2, none⟩ = some (.string xs) ∧ wx.cell? ⟨w.heap.size, 3, none⟩ = some (.slice Ax xm cx) ∧ Fr (fun _ => False) w6 wx) => (mat_calls (bd 3 (lo : Int) ((lo : Int) + (hi : Int)) ((lo : Int) - (mo : Int)) ((lo : Int) + (hi : Int) + (mo : Int))) (some ⟨w4.heap.size + 1 + 1, 0, none⟩) 3 3 0 wx (HDD.out.fr0 (HF6.out.trans hf.2.2.2.2.2)) rfl (Nat.le_refl _) (by decide) (HRD.out.fr0 hf.2.2.2.2.2) 2 x HXZ.out 0 w.heap.size _ (Nat.le_trans HF6.out.size hf.2.2.2.2.2.size) (HAT.out.fr0 (HF6.out.trans hf.2.2.2.2.2) (Nat.le_refl _))).mono (R' := fun e w' => e = .returned (.bool r2) ∧ w'.cell? ⟨w4.heap.size + 1 + 1 + 1, 0, none⟩ = some (.slice (some ⟨w4.heap.size + 1 + 1, 0, none⟩) 3 3) ∧ w'.cell? ⟨w.heap.size, 0, none⟩ = some (.int .i64 xk) ∧ w'.cell? ⟨w.heap.size, 1, none⟩ = some (.int .u64 xn) ∧ w'.cell? ⟨w.heap.size, 2, none⟩ = some (.string xs) ∧ w'.cell? ⟨w.heap.size, 3, none⟩ = some (.slice Ax xm cx) ∧ Fr (fun _ => False) w6 w') (fun e w' g => ⟨by rw [g.1, HM2.out], HS.out w' (hf.2.2.2.2.2.then_ g.2 (fun _ _ h => h))⟩))
    go_wp2_with fail
    rw [HW6.out]
    go_region_held3 (fun w' => w'.cell? ⟨w4.heap.size + 1 + 1 + 1, 0, none⟩ = some (.slice (some ⟨w4.heap.size + 1 + 1, 0, none⟩) 3 3) ∧ w'.cell? ⟨w.heap.size, 0, none⟩ = some (.int .i64 xk) ∧ w'.cell? ⟨w.heap.size, 1, none⟩ = some (.int .u64 xn) ∧ w'.cell? ⟨w.heap.size, 2, none⟩ = some (.string xs) ∧ w'.cell? ⟨w.heap.size, 3, none⟩ = some (.slice Ax xm cx) ∧ Fr (fun _ => False) w6 w')
      (first | exact HS.out _ (Fr.refl _ _) | exact HS.out _ (Fr.refl _ _).drew | assumption)
      (first
        | ((go_at_call 46; with_reducible refine (HC0.out _ (by assumption)).mono ?_; rintro e' w8 ⟨rfl, hS⟩))
        | ((go_at_call 46; with_reducible refine (HC1.out _ (by assumption)).mono ?_; rintro e' w8 ⟨rfl, hS⟩))
        | ((go_at_call 46; with_reducible refine (HC2.out _ (by assumption)).mono ?_; rintro e' w8 ⟨rfl, hS⟩)))
    all_goals
      have HFE := hid (HF6.out.trans hS.2.2.2.2.2)
      clear hS
      cases r1
      all_goals
        cases r2
        all_goals
          first
          | (go_wp2_with fail
             go_ret
             exact ⟨rfl, HFE.out⟩)
          | (have := HIM.out rfl; cases this)
  · have hb : (ce != 0) = true := bne_iff_ne.2 h0
    clear h0
    go_wp2_with fail
    go_ret
    exact ⟨rfl, HF1.out.trans HF4.out⟩

set_option maxRecDepth 100000 in
set_option maxHeartbeats 8000000 in
theorem law_21 (x : It) (hxz : x.size ≤ 2000000) (cs : List Value) (kk lo hi mo q : Nat) (hkk : kk = 3 * q + 2) (hkk2 : kk ≤ 255) (hlo : lo ≤ 255) (hhi : hi ≤ 255) (hmo : mo ≤ 255) (ht : (lo : Int) - (mo : Int) = 0) (w : World) (hD : Dbl w) (hat : ItAt w 0 w.heap.size x cs) :
    Calls Tryd.prog 8 #[.agg cs.toArray, .int .u8 (kk : Int), .int .u8 (lo : Int), .int .u8 (hi : Int), .int .u8 (mo : Int)] w fun e w' => e = .returned (.bool true) ∧ Fr (fun _ => False) w w' := by
  have HDD := hid hD
  have HXZ := hid hxz
  have HTT := hid ht
  have hat' := hat
  obtain ⟨xk, xn, xs, xl⟩ := x
  obtain ⟨Ax, cx, rfl, hxc, hxk, hxn, hxss, hxl, hL⟩ := hat
  have HAT := hid hat'
  obtain ⟨xm, hxm⟩ : ∃ m, xl.length = m := ⟨_, rfl⟩
  rw [hxm] at HAT ⊢
  obtain ⟨x, hxx⟩ : ∃ x, x = It.mk xk xn xs xl := ⟨_, rfl⟩
  rw [← hxx] at HAT HXZ
  have htm : Int.tmod (kk : Int) 3 = 2 := by rw [Int.tmod_eq_emod_of_nonneg (by omega)]; omega
  have hk1 : IntKind.i64.wrap (kk : Int) = (kk : Int) := i64_in _ (by omega)
  have hk2 : IntKind.i64.wrap (lo : Int) = (lo : Int) := i64_in _ (by omega)
  have hk3 : IntKind.i64.wrap (hi : Int) = (hi : Int) := i64_in _ (by omega)
  have hk4 : IntKind.i64.wrap (mo : Int) = (mo : Int) := i64_in _ (by omega)
  have hk5 : IntKind.i64.wrap ((lo : Int) + (hi : Int)) = (lo : Int) + (hi : Int) := i64_in _ (by omega)
  have hk6 : IntKind.i64.wrap ((lo : Int) - (mo : Int)) = (lo : Int) - (mo : Int) := i64_in _ (by omega)
  have hk7 : IntKind.i64.wrap ((lo : Int) + (hi : Int) + (mo : Int)) = (lo : Int) + (hi : Int) + (mo : Int) := i64_in _ (by omega)
  
  
  
  obtain ⟨w1, hw1⟩ : ∃ w1, w.alloc (.cells #[.int .i64 xk, .int .u64 xn, .string xs, .slice Ax xm cx] 25) = w1 := ⟨_, rfl⟩
  have HF1 := hid (show Fr (fun _ => False) w w1 by rw [← hw1]; exact (Fr.refl _ w).alloc _)
  have HBX := hid (show Blk w1 w.heap.size 25 #[.int .i64 xk, .int .u64 xn, .string xs, .slice Ax xm cx] by rw [← hw1]; exact Blk.new _ _ _)
  have HW1 := hid hw1
  have HSX := hid (show ∀ w', Fr (fun _ => False) w1 w' → w'.cell? ⟨w.heap.size, 0, none⟩ = some (.int .i64 xk) ∧ w'.cell? ⟨w.heap.size, 1, none⟩ = some (.int .u64 xn) ∧ w'.cell? ⟨w.heap.size, 2, none⟩ = some (.string xs) ∧ w'.cell? ⟨w.heap.size, 3, none⟩ = some (.slice Ax xm cx) from fun w' hf => by
    have hB := HBX.out.fr hf (fun h => h)
    have e0 := hB.cell 0
    have e1 := hB.cell 1
    have e2 := hB.cell 2
    have e3 := hB.cell 3
    simp at e0 e1 e2 e3
    exact ⟨e0, e1, e2, e3⟩)
  clear hD hxz hat' hxm hxx hL hw1 hkk
  go_enter Tryd.func8, Tryd.ntmps8
  go_wp2_with fail
  rw [HW1.out]
  refine (DenY.awake_calls w1 (HDD.out.fr0 HF1.out)).mono ?_
  rintro e w2 ⟨rfl, hf⟩
  have HF2 := hid hf
  obtain ⟨c0, c1, c2, c3⟩ := HSX.out w2 hf
  clear hf
  go_wp2_with fail
  refine (great_calls x HXZ.out 0 w.heap.size _ w2 (HF1.out.trans HF2.out).size (HAT.out.fr0 (HF1.out.trans HF2.out) (Nat.le_refl _))).mono ?_
  rintro e w3 ⟨⟨g, rfl⟩, hf⟩
  have HF3 := hid (HF2.out.then_ hf (fun _ _ h => h))
  clear hf c0 c1 c2 c3
  cases g with
  | true =>
    go_wp2_with fail
    go_ret
    exact ⟨rfl, HF1.out.trans HF3.out⟩
  | false =>
  obtain ⟨c0, c1, c2, c3⟩ := HSX.out w3 HF3.out
  go_wp2_with fail
  refine (refcheck_calls x HXZ.out 0 w.heap.size _ w3 (HF1.out.trans HF3.out).size (HAT.out.fr0 (HF1.out.trans HF3.out) (Nat.le_refl _))).mono ?_
  rintro e w4 ⟨rfl, hf⟩
  have HF4 := hid (HF3.out.then_ hf (fun _ _ h => h))
  obtain ⟨ce, hce⟩ : ∃ ce, x.check = ce := ⟨_, rfl⟩
  have HCE := hid hce
  rw [hce]
  clear hf hce c0 c1 c2 c3
  by_cases h0 : ce = 0
  · subst h0
    obtain ⟨r1, r2, hm0, hm1, hm2, him⟩ := bd_mat (k := 3) (a := (lo : Int)) (b := ((lo : Int) + (hi : Int))) (a' := 0) (b' := ((lo : Int) + (hi : Int) + (mo : Int))) (by omega) (by omega) (by omega) (by omega) HCE.out
    have HM0 := hid hm0
    have HM1 := hid hm1
    have HM2 := hid hm2
    have HIM := hid him
    obtain ⟨w6, hw6⟩ : ∃ w6, (((w4.alloc (.cells #[.int .i64 1, .int .i64 2, .int .i64 3] 3)).alloc (.cells #[.int .i64 1, .int .i64 2] 3)).alloc (.cells #[.int .i64 10, .int .i64 0, .int .i64 0, .int .i64 0, .int .u64 0, .string { data := #[] }, .slice none 0 0, .slice (some ⟨w4.heap.size + 1, 0, none⟩) 2 2, .slice none 0 0, .int .i64 3, .int .i64 (lo : Int), .int .i64 ((lo : Int) + (hi : Int)), .int .i64 0, .int .u64 0, .string { data := #[] }, .slice none 0 0, .slice none 0 0, .slice none 0 0, .int .i64 3, .int .i64 0, .int .i64 ((lo : Int) + (hi : Int) + (mo : Int)), .int .i64 0, .int .u64 0, .string { data := #[] }, .slice none 0 0, .slice none 0 0, .slice none 0 0] 54)).alloc (.cells #[.slice (some ⟨w4.heap.size + 1 + 1, 0, none⟩) 3 3] 42) = w6 := ⟨_, rfl⟩
    have HF6w := hid (show Fr (fun _ => False) w1 w6 by rw [← hw6]; exact ((((HF4.out.alloc _).alloc _).alloc _).alloc _))
    have HF6 := hid (HF1.out.trans HF6w.out)
    have HB1 := hid (show Blk w6 (w4.heap.size + 1) 3 #[.int .i64 1, .int .i64 2] by
      rw [← hw6]
      have := Blk.new (w4.alloc (.cells #[.int .i64 1, .int .i64 2, .int .i64 3] 3)) 3 #[.int .i64 1, .int .i64 2]
      rw [World.size_alloc] at this
      exact (this.alloc _).alloc _)
    have HB2 := hid (show Blk w6 (w4.heap.size + 1 + 1) 54 #[.int .i64 10, .int .i64 0, .int .i64 0, .int .i64 0, .int .u64 0, .string { data := #[] }, .slice none 0 0, .slice (some ⟨w4.heap.size + 1, 0, none⟩) 2 2, .slice none 0 0, .int .i64 3, .int .i64 (lo : Int), .int .i64 ((lo : Int) + (hi : Int)), .int .i64 0, .int .u64 0, .string { data := #[] }, .slice none 0 0, .slice none 0 0, .slice none 0 0, .int .i64 3, .int .i64 0, .int .i64 ((lo : Int) + (hi : Int) + (mo : Int)), .int .i64 0, .int .u64 0, .string { data := #[] }, .slice none 0 0, .slice none 0 0, .slice none 0 0] by
      rw [← hw6]
      have := Blk.new ((w4.alloc (.cells #[.int .i64 1, .int .i64 2, .int .i64 3] 3)).alloc (.cells #[.int .i64 1, .int .i64 2] 3)) 54 #[.int .i64 10, .int .i64 0, .int .i64 0, .int .i64 0, .int .u64 0, .string { data := #[] }, .slice none 0 0, .slice (some ⟨w4.heap.size + 1, 0, none⟩) 2 2, .slice none 0 0, .int .i64 3, .int .i64 (lo : Int), .int .i64 ((lo : Int) + (hi : Int)), .int .i64 0, .int .u64 0, .string { data := #[] }, .slice none 0 0, .slice none 0 0, .slice none 0 0, .int .i64 3, .int .i64 0, .int .i64 ((lo : Int) + (hi : Int) + (mo : Int)), .int .i64 0, .int .u64 0, .string { data := #[] }, .slice none 0 0, .slice none 0 0, .slice none 0 0]
      rw [World.size_alloc, World.size_alloc] at this
      exact this.alloc _)
    have HB3 := hid (show Blk w6 (w4.heap.size + 1 + 1 + 1) 42 #[.slice (some ⟨w4.heap.size + 1 + 1, 0, none⟩) 3 3] by
      rw [← hw6]
      have := Blk.new (((w4.alloc (.cells #[.int .i64 1, .int .i64 2, .int .i64 3] 3)).alloc (.cells #[.int .i64 1, .int .i64 2] 3)).alloc (.cells #[.int .i64 10, .int .i64 0, .int .i64 0, .int .i64 0, .int .u64 0, .string { data := #[] }, .slice none 0 0, .slice (some ⟨w4.heap.size + 1, 0, none⟩) 2 2, .slice none 0 0, .int .i64 3, .int .i64 (lo : Int), .int .i64 ((lo : Int) + (hi : Int)), .int .i64 0, .int .u64 0, .string { data := #[] }, .slice none 0 0, .slice none 0 0, .slice none 0 0, .int .i64 3, .int .i64 0, .int .i64 ((lo : Int) + (hi : Int) + (mo : Int)), .int .i64 0, .int .u64 0, .string { data := #[] }, .slice none 0 0, .slice none 0 0, .slice none 0 0] 54)) 42 #[.slice (some ⟨w4.heap.size + 1 + 1, 0, none⟩) 3 3]
      rwa [World.size_alloc, World.size_alloc, World.size_alloc] at this)
    have HRD := hid (bd_at w6 _ _ 3 (lo : Int) ((lo : Int) + (hi : Int)) 0 ((lo : Int) + (hi : Int) + (mo : Int)) (by omega) (by omega) (by omega) (by omega) (by omega) HB1.out HB2.out)
    have HW6 := hid hw6
    clear hw6 hm0 hm1 hm2 him
    have HS := hid (show ∀ w', Fr (fun _ => False) w6 w' → w'.cell? ⟨w4.heap.size + 1 + 1 + 1, 0, none⟩ = some (.slice (some ⟨w4.heap.size + 1 + 1, 0, none⟩) 3 3) ∧ w'.cell? ⟨w.heap.size, 0, none⟩ = some (.int .i64 xk) ∧ w'.cell? ⟨w.heap.size, 1, none⟩ = some (.int .u64 xn) ∧ w'.cell? ⟨w.heap.size, 2, none⟩ = some (.string xs) ∧ w'.cell? ⟨w.heap.size, 3, none⟩ = some (.slice Ax xm cx) ∧ Fr (fun _ => False) w6 w' from fun w' hf => by
      obtain ⟨a0, a1, a2, a3⟩ := HSX.out w' (HF6w.out.trans hf)
      exact ⟨(blk1 (HB3.out.fr hf (fun h => h))).1, a0, a1, a2, a3, hf⟩)
    have HC0 := hid (fun wx (hf : wx.cell? ⟨w4.heap.size + 1 + 1 + 1, 0, none⟩ = some (.slice (some ⟨w4.heap.size + 1 + 1, 0, none⟩) 3 3) ∧ wx.cell? ⟨w.heap.size, 0, none⟩ = some (.int .i64 xk) ∧ wx.cell? ⟨w.heap.size, 1, none⟩ = some (.int .u64 xn) ∧ wx.cell? ⟨w.heap.size, 2, none⟩ = some (.string xs) ∧ wx.cell? ⟨w.heap.size, 3, none⟩ = some (.slice Ax xm cx) ∧ Fr (fun _ => False) w6 wx) => (mat_calls (bd 3 (lo : Int) ((lo : Int) + (hi : Int)) 0 ((lo : Int) + (hi : Int) + (mo : Int))) (some ⟨w4.heap.size + 1 + 1, 0, none⟩) 3 3 0 wx (HDD.out.fr0 (HF6.out.trans hf.2.2.2.2.2)) rfl (Nat.le_refl _) (by decide) (HRD.out.fr0 hf.2.2.2.2.2) 0 x HXZ.out 0 w.heap.size _ (Nat.le_trans HF6.out.size hf.2.2.2.2.2.size) (HAT.out.fr0 (HF6.out.trans hf.2.2.2.2.2) (Nat.le_refl _))).mono (R' := fun e w' => e = .returned (.bool (r1 || r2)) ∧ w'.cell? ⟨w4.heap.size + 1 + 1 + 1, 0, none⟩ = some (.slice (some ⟨w4.heap.size + 1 + 1, 0, none⟩) 3 3) ∧ w'.cell? ⟨w.heap.size, 0, none⟩ = some (.int .i64 xk) ∧ w'.cell? ⟨w.heap.size, 1, none⟩ = some (.int .u64 xn) ∧ w'.cell? ⟨w.heap.size, 2, none⟩ = some (.string xs) ∧ w'.cell? ⟨w.heap.size, 3, none⟩ = some (.slice Ax xm cx) ∧ Fr (fun _ => False) w6 w') (fun e w' g => ⟨by rw [g.1, HM0.out], HS.out w' (hf.2.2.2.2.2.then_ g.2 (fun _ _ h => h))⟩))
    have HC1 := hid (fun wx (hf : wx.cell? ⟨w4.heap.size + 1 + 1 + 1, 0, none⟩ = some (.slice (some ⟨w4.heap.size + 1 + 1, 0, none⟩) 3 3) ∧ wx.cell? ⟨w.heap.size, 0, none⟩ = some (.int .i64 xk) ∧ wx.cell? ⟨w.heap.size, 1, none⟩ = some (.int .u64 xn) ∧ wx.cell? ⟨w.heap.size, 2, none⟩ = some (.string xs) ∧ wx.cell? ⟨w.heap.size, 3, none⟩ = some (.slice Ax xm cx) ∧ Fr (fun _ => False) w6 wx) => (mat_calls (bd 3 (lo : Int) ((lo : Int) + (hi : Int)) 0 ((lo : Int) + (hi : Int) + (mo : Int))) (some ⟨w4.heap.size + 1 + 1, 0, none⟩) 3 3 0 wx (HDD.out.fr0 (HF6.out.trans hf.2.2.2.2.2)) rfl (Nat.le_refl _) (by decide) (HRD.out.fr0 hf.2.2.2.2.2) 1 x HXZ.out 0 w.heap.size _ (Nat.le_trans HF6.out.size hf.2.2.2.2.2.size) (HAT.out.fr0 (HF6.out.trans hf.2.2.2.2.2) (Nat.le_refl _))).mono (R' := fun e w' => e = .returned (.bool r1) ∧ w'.cell? ⟨w4.heap.size + 1 + 1 + 1, 0, none⟩ = some (.slice (some ⟨w4.heap.size + 1 + 1, 0, none⟩) 3 3) ∧ w'.cell? ⟨w.heap.size, 0, none⟩ = some (.int .i64 xk) ∧ w'.cell? ⟨w.heap.size, 1, none⟩ = some (.int .u64 xn) ∧ w'.cell? ⟨w.heap.size, 2, none⟩ = some (.string xs) ∧ w'.cell? ⟨w.heap.size, 3, none⟩ = some (.slice Ax xm cx) ∧ Fr (fun _ => False) w6 w') (fun e w' g => ⟨by rw [g.1, HM1.out], HS.out w' (hf.2.2.2.2.2.then_ g.2 (fun _ _ h => h))⟩))
    have HC2 := hid (fun wx (hf : wx.cell? ⟨w4.heap.size + 1 + 1 + 1, 0, none⟩ = some (.slice (some ⟨w4.heap.size + 1 + 1, 0, none⟩) 3 3) ∧ wx.cell? ⟨w.heap.size, 0, none⟩ = some (.int .i64 xk) ∧ wx.cell? ⟨w.heap.size, 1, none⟩ = some (.int .u64 xn) ∧ wx.cell? ⟨w.heap.size, 2, none⟩ = some (.string xs) ∧ wx.cell? ⟨w.heap.size, 3, none⟩ = some (.slice Ax xm cx) ∧ Fr (fun _ => False) w6 wx) => (mat_calls (bd 3 (lo : Int) ((lo : Int) + (hi : Int)) 0 ((lo : Int) + (hi : Int) + (mo : Int))) (some ⟨w4.heap.size + 1 + 1, 0, none⟩) 3 3 0 wx (HDD.out.fr0 (HF6.out.trans hf.2.2.2.2.2)) rfl (Nat.le_refl _) (by decide) (HRD.out.fr0 hf.2.2.2.2.2) 2 x HXZ.out 0 w.heap.size _ (Nat.le_trans HF6.out.size hf.2.2.2.2.2.size) (HAT.out.fr0 (HF6.out.trans hf.2.2.2.2.2) (Nat.le_refl _))).mono (R' := fun e w' => e = .returned (.bool r2) ∧ w'.cell? ⟨w4.heap.size + 1 + 1 + 1, 0, none⟩ = some (.slice (some ⟨w4.heap.size + 1 + 1, 0, none⟩) 3 3) ∧ w'.cell? ⟨w.heap.size, 0, none⟩ = some (.int .i64 xk) ∧ w'.cell? ⟨w.heap.size, 1, none⟩ = some (.int .u64 xn) ∧ w'.cell? ⟨w.heap.size, 2, none⟩ = some (.string xs) ∧ w'.cell? ⟨w.heap.size, 3, none⟩ = some (.slice Ax xm cx) ∧ Fr (fun _ => False) w6 w') (fun e w' g => ⟨by rw [g.1, HM2.out], HS.out w' (hf.2.2.2.2.2.then_ g.2 (fun _ _ h => h))⟩))
    go_wp2_with fail
    rw [HW6.out]
    go_region_held3 (fun w' => w'.cell? ⟨w4.heap.size + 1 + 1 + 1, 0, none⟩ = some (.slice (some ⟨w4.heap.size + 1 + 1, 0, none⟩) 3 3) ∧ w'.cell? ⟨w.heap.size, 0, none⟩ = some (.int .i64 xk) ∧ w'.cell? ⟨w.heap.size, 1, none⟩ = some (.int .u64 xn) ∧ w'.cell? ⟨w.heap.size, 2, none⟩ = some (.string xs) ∧ w'.cell? ⟨w.heap.size, 3, none⟩ = some (.slice Ax xm cx) ∧ Fr (fun _ => False) w6 w')
      (first | exact HS.out _ (Fr.refl _ _) | exact HS.out _ (Fr.refl _ _).drew | assumption)
      (first
        | ((go_at_call 46; with_reducible refine (HC0.out _ (by assumption)).mono ?_; rintro e' w8 ⟨rfl, hS⟩))
        | ((go_at_call 46; with_reducible refine (HC1.out _ (by assumption)).mono ?_; rintro e' w8 ⟨rfl, hS⟩))
        | ((go_at_call 46; with_reducible refine (HC2.out _ (by assumption)).mono ?_; rintro e' w8 ⟨rfl, hS⟩)))
    all_goals
      have HFE := hid (HF6.out.trans hS.2.2.2.2.2)
      clear hS
      cases r1
      all_goals
        cases r2
        all_goals
          first
          | (go_wp2_with fail
             go_ret
             exact ⟨rfl, HFE.out⟩)
          | (have := HIM.out rfl; cases this)
  · have hb : (ce != 0) = true := bne_iff_ne.2 h0
    clear h0
    go_wp2_with fail
    go_ret
    exact ⟨rfl, HF1.out.trans HF4.out⟩

set_option maxRecDepth 100000 in
set_option maxHeartbeats 8000000 in
theorem law_22 (x : It) (hxz : x.size ≤ 2000000) (cs : List Value) (kk lo hi mo q : Nat) (hkk : kk = 3 * q + 2) (hkk2 : kk ≤ 255) (hlo : lo ≤ 255) (hhi : hi ≤ 255) (hmo : mo ≤ 255) (ht : (lo : Int) - (mo : Int) < 0) (w : World) (hD : Dbl w) (hat : ItAt w 0 w.heap.size x cs) :
    Calls Tryd.prog 8 #[.agg cs.toArray, .int .u8 (kk : Int), .int .u8 (lo : Int), .int .u8 (hi : Int), .int .u8 (mo : Int)] w fun e w' => e = .returned (.bool true) ∧ Fr (fun _ => False) w w' := by
  have HDD := hid hD
  have HXZ := hid hxz
  have HTT := hid ht
  have hat' := hat
  obtain ⟨xk, xn, xs, xl⟩ := x
  obtain ⟨Ax, cx, rfl, hxc, hxk, hxn, hxss, hxl, hL⟩ := hat
  have HAT := hid hat'
  obtain ⟨xm, hxm⟩ : ∃ m, xl.length = m := ⟨_, rfl⟩
  rw [hxm] at HAT ⊢
  obtain ⟨x, hxx⟩ : ∃ x, x = It.mk xk xn xs xl := ⟨_, rfl⟩
  rw [← hxx] at HAT HXZ
  have htm : Int.tmod (kk : Int) 3 = 2 := by rw [Int.tmod_eq_emod_of_nonneg (by omega)]; omega
  have hk1 : IntKind.i64.wrap (kk : Int) = (kk : Int) := i64_in _ (by omega)
  have hk2 : IntKind.i64.wrap (lo : Int) = (lo : Int) := i64_in _ (by omega)
  have hk3 : IntKind.i64.wrap (hi : Int) = (hi : Int) := i64_in _ (by omega)
  have hk4 : IntKind.i64.wrap (mo : Int) = (mo : Int) := i64_in _ (by omega)
  have hk5 : IntKind.i64.wrap ((lo : Int) + (hi : Int)) = (lo : Int) + (hi : Int) := i64_in _ (by omega)
  have hk6 : IntKind.i64.wrap ((lo : Int) - (mo : Int)) = (lo : Int) - (mo : Int) := i64_in _ (by omega)
  have hk7 : IntKind.i64.wrap ((lo : Int) + (hi : Int) + (mo : Int)) = (lo : Int) + (hi : Int) + (mo : Int) := i64_in _ (by omega)
  have ht1 : ¬ 0 ≤ (lo : Int) - (mo : Int) := by omega
  have ht2 : ¬ 0 < (lo : Int) - (mo : Int) := by omega
  have ht3 : (lo : Int) - (mo : Int) ≤ 0 := by omega
  obtain ⟨w1, hw1⟩ : ∃ w1, w.alloc (.cells #[.int .i64 xk, .int .u64 xn, .string xs, .slice Ax xm cx] 25) = w1 := ⟨_, rfl⟩
  have HF1 := hid (show Fr (fun _ => False) w w1 by rw [← hw1]; exact (Fr.refl _ w).alloc _)
  have HBX := hid (show Blk w1 w.heap.size 25 #[.int .i64 xk, .int .u64 xn, .string xs, .slice Ax xm cx] by rw [← hw1]; exact Blk.new _ _ _)
  have HW1 := hid hw1
  have HSX := hid (show ∀ w', Fr (fun _ => False) w1 w' → w'.cell? ⟨w.heap.size, 0, none⟩ = some (.int .i64 xk) ∧ w'.cell? ⟨w.heap.size, 1, none⟩ = some (.int .u64 xn) ∧ w'.cell? ⟨w.heap.size, 2, none⟩ = some (.string xs) ∧ w'.cell? ⟨w.heap.size, 3, none⟩ = some (.slice Ax xm cx) from fun w' hf => by
    have hB := HBX.out.fr hf (fun h => h)
    have e0 := hB.cell 0
    have e1 := hB.cell 1
    have e2 := hB.cell 2
    have e3 := hB.cell 3
    simp at e0 e1 e2 e3
    exact ⟨e0, e1, e2, e3⟩)
  clear hD hxz hat' hxm hxx hL hw1 hkk
  go_enter Tryd.func8, Tryd.ntmps8
  go_wp2_with fail
  rw [HW1.out]
  refine (DenY.awake_calls w1 (HDD.out.fr0 HF1.out)).mono ?_
  rintro e w2 ⟨rfl, hf⟩
  have HF2 := hid hf
  obtain ⟨c0, c1, c2, c3⟩ := HSX.out w2 hf
  clear hf
  go_wp2_with fail
  refine (great_calls x HXZ.out 0 w.heap.size _ w2 (HF1.out.trans HF2.out).size (HAT.out.fr0 (HF1.out.trans HF2.out) (Nat.le_refl _))).mono ?_
  rintro e w3 ⟨⟨g, rfl⟩, hf⟩
  have HF3 := hid (HF2.out.then_ hf (fun _ _ h => h))
  clear hf c0 c1 c2 c3
  cases g with
  | true =>
    go_wp2_with fail
    go_ret
    exact ⟨rfl, HF1.out.trans HF3.out⟩
  | false =>
  obtain ⟨c0, c1, c2, c3⟩ := HSX.out w3 HF3.out
  go_wp2_with fail
  refine (refcheck_calls x HXZ.out 0 w.heap.size _ w3 (HF1.out.trans HF3.out).size (HAT.out.fr0 (HF1.out.trans HF3.out) (Nat.le_refl _))).mono ?_
  rintro e w4 ⟨rfl, hf⟩
  have HF4 := hid (HF3.out.then_ hf (fun _ _ h => h))
  obtain ⟨ce, hce⟩ : ∃ ce, x.check = ce := ⟨_, rfl⟩
  have HCE := hid hce
  rw [hce]
  clear hf hce c0 c1 c2 c3
  by_cases h0 : ce = 0
  · subst h0
    obtain ⟨r1, r2, hm0, hm1, hm2, him⟩ := bd_mat (k := 3) (a := (lo : Int)) (b := ((lo : Int) + (hi : Int))) (a' := 0) (b' := ((lo : Int) + (hi : Int) + (mo : Int))) (by omega) (by omega) (by omega) (by omega) HCE.out
    have HM0 := hid hm0
    have HM1 := hid hm1
    have HM2 := hid hm2
    have HIM := hid him
    obtain ⟨w6, hw6⟩ : ∃ w6, (((w4.alloc (.cells #[.int .i64 1, .int .i64 2, .int .i64 3] 3)).alloc (.cells #[.int .i64 1, .int .i64 2] 3)).alloc (.cells #[.int .i64 10, .int .i64 0, .int .i64 0, .int .i64 0, .int .u64 0, .string { data := #[] }, .slice none 0 0, .slice (some ⟨w4.heap.size + 1, 0, none⟩) 2 2, .slice none 0 0, .int .i64 3, .int .i64 (lo : Int), .int .i64 ((lo : Int) + (hi : Int)), .int .i64 0, .int .u64 0, .string { data := #[] }, .slice none 0 0, .slice none 0 0, .slice none 0 0, .int .i64 3, .int .i64 0, .int .i64 ((lo : Int) + (hi : Int) + (mo : Int)), .int .i64 0, .int .u64 0, .string { data := #[] }, .slice none 0 0, .slice none 0 0, .slice none 0 0] 54)).alloc (.cells #[.slice (some ⟨w4.heap.size + 1 + 1, 0, none⟩) 3 3] 42) = w6 := ⟨_, rfl⟩
    have HF6w := hid (show Fr (fun _ => False) w1 w6 by rw [← hw6]; exact ((((HF4.out.alloc _).alloc _).alloc _).alloc _))
    have HF6 := hid (HF1.out.trans HF6w.out)
    have HB1 := hid (show Blk w6 (w4.heap.size + 1) 3 #[.int .i64 1, .int .i64 2] by
      rw [← hw6]
      have := Blk.new (w4.alloc (.cells #[.int .i64 1, .int .i64 2, .int .i64 3] 3)) 3 #[.int .i64 1, .int .i64 2]
      rw [World.size_alloc] at this
      exact (this.alloc _).alloc _)
    have HB2 := hid (show Blk w6 (w4.heap.size + 1 + 1) 54 #[.int .i64 10, .int .i64 0, .int .i64 0, .int .i64 0, .int .u64 0, .string { data := #[] }, .slice none 0 0, .slice (some ⟨w4.heap.size + 1, 0, none⟩) 2 2, .slice none 0 0, .int .i64 3, .int .i64 (lo : Int), .int .i64 ((lo : Int) + (hi : Int)), .int .i64 0, .int .u64 0, .string { data := #[] }, .slice none 0 0, .slice none 0 0, .slice none 0 0, .int .i64 3, .int .i64 0, .int .i64 ((lo : Int) + (hi : Int) + (mo : Int)), .int .i64 0, .int .u64 0, .string { data := #[] }, .slice none 0 0, .slice none 0 0, .slice none 0 0] by
      rw [← hw6]
      have := Blk.new ((w4.alloc (.cells #[.int .i64 1, .int .i64 2, .int .i64 3] 3)).alloc (.cells #[.int .i64 1, .int .i64 2] 3)) 54 #[.int .i64 10, .int .i64 0, .int .i64 0, .int .i64 0, .int .u64 0, .string { data := #[] }, .slice none 0 0, .slice (some ⟨w4.heap.size + 1, 0, none⟩) 2 2, .slice none 0 0, .int .i64 3, .int .i64 (lo : Int), .int .i64 ((lo : Int) + (hi : Int)), .int .i64 0, .int .u64 0, .string { data := #[] }, .slice none 0 0, .slice none 0 0, .slice none 0 0, .int .i64 3, .int .i64 0, .int .i64 ((lo : Int) + (hi : Int) + (mo : Int)), .int .i64 0, .int .u64 0, .string { data := #[] }, .slice none 0 0, .slice none 0 0, .slice none 0 0]
      rw [World.size_alloc, World.size_alloc] at this
      exact this.alloc _)
    have HB3 := hid (show Blk w6 (w4.heap.size + 1 + 1 + 1) 42 #[.slice (some ⟨w4.heap.size + 1 + 1, 0, none⟩) 3 3] by
      rw [← hw6]
      have := Blk.new (((w4.alloc (.cells #[.int .i64 1, .int .i64 2, .int .i64 3] 3)).alloc (.cells #[.int .i64 1, .int .i64 2] 3)).alloc (.cells #[.int .i64 10, .int .i64 0, .int .i64 0, .int .i64 0, .int .u64 0, .string { data := #[] }, .slice none 0 0, .slice (some ⟨w4.heap.size + 1, 0, none⟩) 2 2, .slice none 0 0, .int .i64 3, .int .i64 (lo : Int), .int .i64 ((lo : Int) + (hi : Int)), .int .i64 0, .int .u64 0, .string { data := #[] }, .slice none 0 0, .slice none 0 0, .slice none 0 0, .int .i64 3, .int .i64 0, .int .i64 ((lo : Int) + (hi : Int) + (mo : Int)), .int .i64 0, .int .u64 0, .string { data := #[] }, .slice none 0 0, .slice none 0 0, .slice none 0 0] 54)) 42 #[.slice (some ⟨w4.heap.size + 1 + 1, 0, none⟩) 3 3]
      rwa [World.size_alloc, World.size_alloc, World.size_alloc] at this)
    have HRD := hid (bd_at w6 _ _ 3 (lo : Int) ((lo : Int) + (hi : Int)) 0 ((lo : Int) + (hi : Int) + (mo : Int)) (by omega) (by omega) (by omega) (by omega) (by omega) HB1.out HB2.out)
    have HW6 := hid hw6
    clear hw6 hm0 hm1 hm2 him
    have HS := hid (show ∀ w', Fr (fun _ => False) w6 w' → w'.cell? ⟨w4.heap.size + 1 + 1 + 1, 0, none⟩ = some (.slice (some ⟨w4.heap.size + 1 + 1, 0, none⟩) 3 3) ∧ w'.cell? ⟨w.heap.size, 0, none⟩ = some (.int .i64 xk) ∧ w'.cell? ⟨w.heap.size, 1, none⟩ = some (.int .u64 xn) ∧ w'.cell? ⟨w.heap.size, 2, none⟩ = some (.string xs) ∧ w'.cell? ⟨w.heap.size, 3, none⟩ = some (.slice Ax xm cx) ∧ Fr (fun _ => False) w6 w' from fun w' hf => by
      obtain ⟨a0, a1, a2, a3⟩ := HSX.out w' (HF6w.out.trans hf)
      exact ⟨(blk1 (HB3.out.fr hf (fun h => h))).1, a0, a1, a2, a3, hf⟩)
    have HC0 := hid (fun wx (hf : wx.cell? ⟨w4.heap.size + 1 + 1 + 1, 0, none⟩ = some (.slice (some ⟨w4.heap.size + 1 + 1, 0, none⟩) 3 3) ∧ wx.cell? ⟨w.heap.size, 0, none⟩ = some (.int .i64 xk) ∧ wx.cell? ⟨w.heap.size, 1, none⟩ = some (.int .u64 xn) ∧ wx.cell? ⟨w.heap.size, 2, none⟩ = some (.string xs) ∧ wx.cell? ⟨w.heap.size, 3, none⟩ = some (.slice Ax xm cx) ∧ Fr (fun _ => False) w6 wx) => (mat_calls (bd 3 (lo : Int) ((lo : Int) + (hi : Int)) 0 ((lo : Int) + (hi : Int) + (mo : Int))) (some ⟨w4.heap.size + 1 + 1, 0, none⟩) 3 3 0 wx (HDD.out.fr0 (HF6.out.trans hf.2.2.2.2.2)) rfl (Nat.le_refl _) (by decide) (HRD.out.fr0 hf.2.2.2.2.2) 0 x HXZ.out 0 w.heap.size _ (Nat.le_trans HF6.out.size hf.2.2.2.2.2.size) (HAT.out.fr0 (HF6.out.trans hf.2.2.2.2.2) (Nat.le_refl _))).mono (R' := fun e w' => e = .returned (.bool (r1 || r2)) ∧ w'.cell? ⟨w4.heap.size + 1 + 1 + 1, 0, none⟩ = some (.slice (some ⟨w4.heap.size + 1 + 1, 0, none⟩) 3 3) ∧ w'.cell? ⟨w.heap.size, 0, none⟩ = some (.int .i64 xk) ∧ w'.cell? ⟨w.heap.size, 1, none⟩ = some (.int .u64 xn) ∧ w'.cell? ⟨w.heap.size, 2, none⟩ = some (.string xs) ∧ w'.cell? ⟨w.heap.size, 3, none⟩ = some (.slice Ax xm cx) ∧ Fr (fun _ => False) w6 w') (fun e w' g => ⟨by rw [g.1, HM0.out], HS.out w' (hf.2.2.2.2.2.then_ g.2 (fun _ _ h => h))⟩))
    have HC1 := hid (fun wx (hf : wx.cell? ⟨w4.heap.size + 1 + 1 + 1, 0, none⟩ = some (.slice (some ⟨w4.heap.size + 1 + 1, 0, none⟩) 3 3) ∧ wx.cell? ⟨w.heap.size, 0, none⟩ = some (.int .i64 xk) ∧ wx.cell? ⟨w.heap.size, 1, none⟩ = some (.int .u64 xn) ∧ wx.cell? ⟨w.heap.size, 2, none⟩ = some (.string xs) ∧ wx.cell? ⟨w.heap.size, 3, none⟩ = some (.slice Ax xm cx) ∧ Fr (fun _ => False) w6 wx) => (mat_calls (bd 3 (lo : Int) ((lo : Int) + (hi : Int)) 0 ((lo : Int) + (hi : Int) + (mo : Int))) (some ⟨w4.heap.size + 1 + 1, 0, none⟩) 3 3 0 wx (HDD.out.fr0 (HF6.out.trans hf.2.2.2.2.2)) rfl (Nat.le_refl _) (by decide) (HRD.out.fr0 hf.2.2.2.2.2) 1 x HXZ.out 0 w.heap.size _ (Nat.le_trans HF6.out.size hf.2.2.2.2.2.size) (HAT.out.fr0 (HF6.out.trans hf.2.2.2.2.2) (Nat.le_refl _))).mono (R' := fun e w' => e = .returned (.bool r1) ∧ w'.cell? ⟨w4.heap.size + 1 + 1 + 1, 0, none⟩ = some (.slice (some ⟨w4.heap.size + 1 + 1, 0, none⟩) 3 3) ∧ w'.cell? ⟨w.heap.size, 0, none⟩ = some (.int .i64 xk) ∧ w'.cell? ⟨w.heap.size, 1, none⟩ = some (.int .u64 xn) ∧ w'.cell? ⟨w.heap.size, 2, none⟩ = some (.string xs) ∧ w'.cell? ⟨w.heap.size, 3, none⟩ = some (.slice Ax xm cx) ∧ Fr (fun _ => False) w6 w') (fun e w' g => ⟨by rw [g.1, HM1.out], HS.out w' (hf.2.2.2.2.2.then_ g.2 (fun _ _ h => h))⟩))
    have HC2 := hid (fun wx (hf : wx.cell? ⟨w4.heap.size + 1 + 1 + 1, 0, none⟩ = some (.slice (some ⟨w4.heap.size + 1 + 1, 0, none⟩) 3 3) ∧ wx.cell? ⟨w.heap.size, 0, none⟩ = some (.int .i64 xk) ∧ wx.cell? ⟨w.heap.size, 1, none⟩ = some (.int .u64 xn) ∧ wx.cell? ⟨w.heap.size, 2, none⟩ = some (.string xs) ∧ wx.cell? ⟨w.heap.size, 3, none⟩ = some (.slice Ax xm cx) ∧ Fr (fun _ => False) w6 wx) => (mat_calls (bd 3 (lo : Int) ((lo : Int) + (hi : Int)) 0 ((lo : Int) + (hi : Int) + (mo : Int))) (some ⟨w4.heap.size + 1 + 1, 0, none⟩) 3 3 0 wx (HDD.out.fr0 (HF6.out.trans hf.2.2.2.2.2)) rfl (Nat.le_refl _) (by decide) (HRD.out.fr0 hf.2.2.2.2.2) 2 x HXZ.out 0 w.heap.size _ (Nat.le_trans HF6.out.size hf.2.2.2.2.2.size) (HAT.out.fr0 (HF6.out.trans hf.2.2.2.2.2) (Nat.le_refl _))).mono (R' := fun e w' => e = .returned (.bool r2) ∧ w'.cell? ⟨w4.heap.size + 1 + 1 + 1, 0, none⟩ = some (.slice (some ⟨w4.heap.size + 1 + 1, 0, none⟩) 3 3) ∧ w'.cell? ⟨w.heap.size, 0, none⟩ = some (.int .i64 xk) ∧ w'.cell? ⟨w.heap.size, 1, none⟩ = some (.int .u64 xn) ∧ w'.cell? ⟨w.heap.size, 2, none⟩ = some (.string xs) ∧ w'.cell? ⟨w.heap.size, 3, none⟩ = some (.slice Ax xm cx) ∧ Fr (fun _ => False) w6 w') (fun e w' g => ⟨by rw [g.1, HM2.out], HS.out w' (hf.2.2.2.2.2.then_ g.2 (fun _ _ h => h))⟩))
    go_wp2_with fail
    rw [HW6.out]
    go_region_held3 (fun w' => w'.cell? ⟨w4.heap.size + 1 + 1 + 1, 0, none⟩ = some (.slice (some ⟨w4.heap.size + 1 + 1, 0, none⟩) 3 3) ∧ w'.cell? ⟨w.heap.size, 0, none⟩ = some (.int .i64 xk) ∧ w'.cell? ⟨w.heap.size, 1, none⟩ = some (.int .u64 xn) ∧ w'.cell? ⟨w.heap.size, 2, none⟩ = some (.string xs) ∧ w'.cell? ⟨w.heap.size, 3, none⟩ = some (.slice Ax xm cx) ∧ Fr (fun _ => False) w6 w')
      (first | exact HS.out _ (Fr.refl _ _) | exact HS.out _ (Fr.refl _ _).drew | assumption)
      (first
        | ((go_at_call 46; with_reducible refine (HC0.out _ (by assumption)).mono ?_; rintro e' w8 ⟨rfl, hS⟩))
        | ((go_at_call 46; with_reducible refine (HC1.out _ (by assumption)).mono ?_; rintro e' w8 ⟨rfl, hS⟩))
        | ((go_at_call 46; with_reducible refine (HC2.out _ (by assumption)).mono ?_; rintro e' w8 ⟨rfl, hS⟩)))
    all_goals
      have HFE := hid (HF6.out.trans hS.2.2.2.2.2)
      clear hS
      cases r1
      all_goals
        cases r2
        all_goals
          first
          | (go_wp2_with fail
             go_ret
             exact ⟨rfl, HFE.out⟩)
          | (have := HIM.out rfl; cases this)
  · have hb : (ce != 0) = true := bne_iff_ne.2 h0
    clear h0
    go_wp2_with fail
    go_ret
    exact ⟨rfl, HF1.out.trans HF4.out⟩

theorem law_calls (x : It) (hxz : x.size ≤ 2000000) (cs : List Value) (kk lo hi mo : Nat) (hkk2 : kk ≤ 255) (hlo : lo ≤ 255) (hhi : hi ≤ 255) (hmo : mo ≤ 255) (w : World) (hD : Dbl w) (hat : ItAt w 0 w.heap.size x cs) :
    Calls Tryd.prog 8 #[.agg cs.toArray, .int .u8 (kk : Int), .int .u8 (lo : Int), .int .u8 (hi : Int), .int .u8 (mo : Int)] w fun e w' => e = .returned (.bool true) ∧ Fr (fun _ => False) w w' := by
  have h3 : kk = 3 * (kk / 3) + 0 ∨ kk = 3 * (kk / 3) + 1 ∨ kk = 3 * (kk / 3) + 2 := by omega
  have ht : 0 < (lo : Int) - (mo : Int) ∨ (lo : Int) - (mo : Int) = 0 ∨ (lo : Int) - (mo : Int) < 0 := by omega
  rcases h3 with h | h | h
  · rcases ht with ht | ht | ht
    · exact law_00 x hxz cs kk lo hi mo _ h hkk2 hlo hhi hmo ht w hD hat
    · exact law_01 x hxz cs kk lo hi mo _ h hkk2 hlo hhi hmo ht w hD hat
    · exact law_02 x hxz cs kk lo hi mo _ h hkk2 hlo hhi hmo ht w hD hat
  · rcases ht with ht | ht | ht
    · exact law_10 x hxz cs kk lo hi mo _ h hkk2 hlo hhi hmo ht w hD hat
    · exact law_11 x hxz cs kk lo hi mo _ h hkk2 hlo hhi hmo ht w hD hat
    · exact law_12 x hxz cs kk lo hi mo _ h hkk2 hlo hhi hmo ht w hD hat
  · rcases ht with ht | ht | ht
    · exact law_20 x hxz cs kk lo hi mo _ h hkk2 hlo hhi hmo ht w hD hat
    · exact law_21 x hxz cs kk lo hi mo _ h hkk2 hlo hhi hmo ht w hD hat
    · exact law_22 x hxz cs kk lo hi mo _ h hkk2 hlo hhi hmo ht w hD hat
end Go.Proofs.YtkmgiodhaaajjaaDoor.DenV
