/- Layer denote: the law DenoteNumbers. -/
import Derived.Test.YtkmgiodhaaajjaaDoorDenY
import Derived.Test.YtkmgiodhaaajjaaDoorNum
import Derived.Test.YtkmgiodhaaajjaaDoorRowItem
import Derived.Test.YtkmgiodhaaajjaaDoorDbl
set_option linter.unusedVariables false
set_option linter.unusedSimpArgs false
namespace Go.Proofs.YtkmgiodhaaajjaaDoor.DenZ
open Go.Proofs.YtkmgiodhaaajjaaDoor.UtfP Go.IntWalk Go.RowKit Go.Proofs.YtkmgiodhaaajjaaDoor.Mem Go.Proofs.YtkmgiodhaaajjaaDoor.App Go.Proofs.YtkmgiodhaaajjaaDoor.FloatB Go.Proofs.YtkmgiodhaaajjaaDoor.ItemP Go.Proofs.YtkmgiodhaaajjaaDoor.ItemM Go.Proofs.YtkmgiodhaaajjaaDoor.ItemB Go.Proofs.YtkmgiodhaaajjaaDoor.ItemE Go.Proofs.YtkmgiodhaaajjaaDoor.SchP Go.Proofs.YtkmgiodhaaajjaaDoor.SchM Go.Proofs.YtkmgiodhaaajjaaDoor.SchG Go.Proofs.YtkmgiodhaaajjaaDoor.SchI Go.Proofs.YtkmgiodhaaajjaaDoor.SchJ Go.Proofs.YtkmgiodhaaajjaaDoor.DenP Go.Proofs.YtkmgiodhaaajjaaDoor.DenA Go.Proofs.YtkmgiodhaaajjaaDoor.DenF Go.Proofs.YtkmgiodhaaajjaaDoor.DenG Go.Proofs.YtkmgiodhaaajjaaDoor.DenY

def em : ByteArray := { data := #[] }
/-- A schema of one node: whole numbers within bounds. -/
def nd1 (a b : Int) : List Nod := [⟨1, a, b, noIt, [], []⟩]
theorem nd1_check {a b : Int} (h : a ≤ b) : checkS (nd1 a b) = (0, 0) := by
  have h1 : (⟨1, a, b, noIt, [], []⟩ : Nod).wrong 0 1 = 0 := by simp [Nod.wrong, Nod.formB, Nod.ok, Nod.bare, Nod.bounds, keysE, Nod.named, badN, h]
  rw [checkS, if_neg (by simp [nd1])]
  show checkFrom (nd1 a b) 0 1 = _
  rw [nd1, checkFrom, if_neg (by rw [h1]; simp)]
  rfl
theorem num_check {k : Int} (m : Nat) (hk : k = 0 ∨ k = 1) : (It.mk k m em []).check = 0 := by
  have hd : (It.mk k m em []).depth = 1 := by rfl
  have ha : (It.mk k m em []).all 1 = [(It.mk k m em [], 1)] := by rfl
  have w1 : (It.mk k m em []).wrong = 0 := by
    unfold It.wrong
    rcases hk with rfl | rfl <;> (simp [It.form, It.k, It.n, It.s, It.l, em] <;> rfl)
  rw [It.check, if_neg (by omega), ha, firstW, if_neg (by simp [w1]), firstW]
theorem mat_num {a b : Int} (h : a ≤ b) {k : Int} (m : Nat) (hk : k = 0 ∨ k = 1) : matV (nd1 a b) 0 (.mk k m em []) = numV (.mk k m em []) a b := by
  have hs : schV (nd1 a b) (.mk k m em []) = (isV (nd1 a b) 0 (.mk k m em []), 0) := by unfold schV; rw [nd1_check h, num_check m hk]; simp
  have hl : Leads (nd1 a b) := leads_of (by rw [nd1_check h])
  rw [matV, hs]
  have h1 : isV (nd1 a b) 0 (.mk k m em []) = numV (.mk k m em []) a b := by
    rw [isV_eq hl 0 _ (by simp [nd1])]
    exact one1 rfl
  simp [nd1, h1]
  rw [← h1]
  rfl
theorem or_high (m : Nat) (h : m < 18446744073709551616) : ∃ b : Nat, Go.bits BinOp.or IntKind.u64 (m : Int) 9223372036854775808 = (b : Int) ∧ 9223372036854775807 < b :=
  ⟨m ||| 9223372036854775808, (Go.Proofs.YtkmgiodhaaajjaaDoor.Num.bits_u64 m 9223372036854775808 (by omega) (by omega)).2, by have := Nat.right_le_or (n := m) (m := 9223372036854775808); omega⟩
theorem nd1_at (w1 : World) (g : Nat) (a b : Int) (ha : -9223372036854775808 ≤ a ∧ a ≤ 9223372036854775807) (hb : -9223372036854775808 ≤ b ∧ b ≤ 9223372036854775807) (h3 : Blk w1 g 54 #[.int .i64 1, .int .i64 a, .int .i64 b, .int .i64 0, .int .u64 0, .string { data := #[] }, .slice none 0 0, .slice none 0 0, .slice none 0 0]) : RdN w1 0 (some ⟨g, 0, none⟩) (nd1 a b) := by
  intro i hi
  obtain rfl : i = 0 := by simp [nd1] at hi; omega
  refine ⟨⟨g, 0, none⟩, none, 0, none, 0, none, 0, rfl, h3.lt, fun j hj => ?_, noIt_r w1 0 _ (Nat.zero_le _) rfl (rdI_nil _ _ _) (RdF.nil _ _) (by simp [nd1]) (by simp [nd1]) (by simp [nd1]) (by simp [nd1]) (by simp [nd1]) ha hb (by simp [nd1])⟩
  rw [add_plain, h3.cell]
  rcases nine_cases hj with rfl | rfl | rfl | rfl | rfl | rfl | rfl | rfl | rfl <;> rfl

-- WALKS

set_option maxRecDepth 100000 in
set_option maxHeartbeats 8000000 in
theorem law_000 (m : Nat) (n lo hi : Int) (hn : n = (m : Int)) (hm : m < 9223372036854775808) (hlo : -9223372036854775808 ≤ lo ∧ lo ≤ 9223372036854775807) (hhi : -9223372036854775808 ≤ hi ∧ hi ≤ 9223372036854775807) (hle : lo < hi) (hout : lo ≤ n ∧ n ≤ hi) (w : World) (hD : Dbl w) :
    Calls Tryd.prog 9 #[.int .i64 n, .int .i64 lo, .int .i64 hi] w fun e w' => e = .returned (.bool true) ∧ Fr (fun _ => False) w w' := by
  have HDD := hid hD
  have HNE := hid hn
  have hz1 : IntKind.u64.wrap n = (m : Int) := by rw [hn, u64_in _ (by omega)]
  obtain ⟨b, hb1, hb2⟩ := or_high m (by omega)
  have hs1 : ¬ n < 0 := by omega
  have HBB := hid hb2
  have HPR := hid (show numP 0 b = (0, false) by rw [numP, if_pos hb2])
  have HPX := hid (show numP 0 m = (n, true) by rw [numP, if_neg (by omega), if_pos rfl, hn])
  have HP3 := hid (show numP 3 0 = (0, false) by rw [numP, if_neg (by omega), if_neg (by omega), if_neg (by omega)])
  
  have hle' : lo ≤ hi := by omega
  have hle2 : ¬ hi ≤ lo := by omega
  have hle3 : ¬ hi < lo := by omega
  have HMV := hid (show matV (nd1 lo hi) 0 (.mk 0 m em []) = true by
    rw [mat_num hle' m (by omega), num_eq, HPX.out]
    simp
    omega)
  have g1 : lo ≤ n := by omega
  have g1b : n ≥ lo := by omega
  have g2 : n ≤ hi := by omega
  
  
  clear hD hn hb2
  go_enter Tryd.func9, Tryd.ntmps9
  go_wp2_with fail
  refine (DenY.awake_calls w HDD.out).mono ?_
  rintro e w1 ⟨rfl, hf⟩
  have HF1 := hid hf
  clear hf
  obtain ⟨w2, hw2⟩ : ∃ w2, w1.alloc (.cells #[.int .i64 0, .int .u64 (m : Int), .string { data := #[] }, .slice none 0 0] 25) = w2 := ⟨_, rfl⟩
  have HF2 := hid (show Fr (fun _ => False) w w2 by rw [← hw2]; exact HF1.out.alloc _)
  have HB2 := hid (show Blk w2 w1.heap.size 25 #[.int .i64 0, .int .u64 (m : Int), .string { data := #[] }, .slice none 0 0] by rw [← hw2]; exact Blk.new _ _ _)
  have HW2 := hid hw2
  clear hw2
  go_wp2_with fail
  rw [HW2.out]
  refine (number_calls 0 m { data := #[] } none 0 0 w2).mono ?_
  rintro e w3 ⟨rfl, hf⟩
  have HF3 := hid hf
  rw [HPX.out]
  clear hf
  go_wp2_with fail
  refine (number_calls 0 b { data := #[] } none 0 0 w3).mono ?_
  rintro e w4 ⟨rfl, hf⟩
  have HF4 := hid (HF3.out.then_ hf (fun _ _ h => h))
  rw [HPR.out]
  clear hf
  go_wp2_with fail
  refine (number_calls 3 0 { data := #[] } none 0 0 w4).mono ?_
  rintro e w5 ⟨rfl, hf⟩
  have HF5 := hid (HF4.out.then_ hf (fun _ _ h => h))
  rw [HP3.out]
  clear hf
  obtain ⟨w6, hw6⟩ : ∃ w6, (w5.alloc (.cells #[.int .i64 1, .int .i64 lo, .int .i64 hi, .int .i64 0, .int .u64 0, .string { data := #[] }, .slice none 0 0, .slice none 0 0, .slice none 0 0] 54)).alloc (.cells #[.slice (some ⟨w5.heap.size, 0, none⟩) 1 1] 42) = w6 := ⟨_, rfl⟩
  have HF6 := hid (show Fr (fun _ => False) w2 w6 by rw [← hw6]; exact (HF5.out.alloc _).alloc _)
  have HBN := hid (show Blk w6 w5.heap.size 54 #[.int .i64 1, .int .i64 lo, .int .i64 hi, .int .i64 0, .int .u64 0, .string { data := #[] }, .slice none 0 0, .slice none 0 0, .slice none 0 0] by rw [← hw6]; exact (Blk.new _ _ _).alloc _)
  have HAT := hid (nd1_at w6 w5.heap.size lo hi hlo hhi HBN.out)
  have HIT := hid (show ItAt w6 0 0 (.mk 0 m em []) [.int .i64 0, .int .u64 (m : Int), .string { data := #[] }, .slice none 0 0] from ⟨none, 0, rfl, by simp, by omega, by omega, by decide, by simp, trivial⟩)
  have HW6 := hid hw6
  have x0 := (HB2.out.fr HF5.out (fun h => h)).cell 0
  have x1 := (HB2.out.fr HF5.out (fun h => h)).cell 1
  have x2 := (HB2.out.fr HF5.out (fun h => h)).cell 2
  have x3 := (HB2.out.fr HF5.out (fun h => h)).cell 3
  simp at x0 x1 x2 x3
  have y0 := fun o o' => cell_a (cell_a x0 o) o'
  have y1 := fun o o' => cell_a (cell_a x1 o) o'
  have y2 := fun o o' => cell_a (cell_a x2 o) o'
  have y3 := fun o o' => cell_a (cell_a x3 o) o'
  have HMC := hid (mat_calls (nd1 lo hi) (some ⟨w5.heap.size, 0, none⟩) 1 1 0 w6 (HDD.out.fr0 (HF2.out.trans HF6.out)) rfl (Nat.le_refl _) (by omega) HAT.out 0 (.mk 0 m em []) (show (1 : Nat) ≤ 2000000 by omega) 0 0 _ (Nat.zero_le _) HIT.out)
  clear hw6
  clear x0 x1 x2 x3
  go_wp2_with fail
  · rw [HW6.out]
    refine HMC.out.mono ?_
    rintro e w7 ⟨rfl, hf⟩
    have HF7 := hid (HF6.out.then_ hf (fun _ _ h => h))
    rw [HMV.out]
    clear hf y0 y1 y2 y3
    go_wp2_with fail
    go_ret
    exact ⟨rfl, HF2.out.trans HF7.out⟩

set_option maxRecDepth 100000 in
set_option maxHeartbeats 8000000 in
theorem law_001 (m : Nat) (n lo hi : Int) (hn : n = (m : Int)) (hm : m < 9223372036854775808) (hlo : -9223372036854775808 ≤ lo ∧ lo ≤ 9223372036854775807) (hhi : -9223372036854775808 ≤ hi ∧ hi ≤ 9223372036854775807) (hle : lo < hi) (hout : ¬ lo ≤ n) (w : World) (hD : Dbl w) :
    Calls Tryd.prog 9 #[.int .i64 n, .int .i64 lo, .int .i64 hi] w fun e w' => e = .returned (.bool true) ∧ Fr (fun _ => False) w w' := by
  have HDD := hid hD
  have HNE := hid hn
  have hz1 : IntKind.u64.wrap n = (m : Int) := by rw [hn, u64_in _ (by omega)]
  obtain ⟨b, hb1, hb2⟩ := or_high m (by omega)
  have hs1 : ¬ n < 0 := by omega
  have HBB := hid hb2
  have HPR := hid (show numP 0 b = (0, false) by rw [numP, if_pos hb2])
  have HPX := hid (show numP 0 m = (n, true) by rw [numP, if_neg (by omega), if_pos rfl, hn])
  have HP3 := hid (show numP 3 0 = (0, false) by rw [numP, if_neg (by omega), if_neg (by omega), if_neg (by omega)])
  
  have hle' : lo ≤ hi := by omega
  have hle2 : ¬ hi ≤ lo := by omega
  have hle3 : ¬ hi < lo := by omega
  have HMV := hid (show matV (nd1 lo hi) 0 (.mk 0 m em []) = false by
    rw [mat_num hle' m (by omega), num_eq, HPX.out]
    simp
    omega)
  have g1 : decide (lo ≤ n) = false := decide_eq_false (by omega)
  have g1b : decide (n ≥ lo) = false := decide_eq_false (by omega)
  
  
  
  clear hD hn hb2
  go_enter Tryd.func9, Tryd.ntmps9
  go_wp2_with fail
  refine (DenY.awake_calls w HDD.out).mono ?_
  rintro e w1 ⟨rfl, hf⟩
  have HF1 := hid hf
  clear hf
  obtain ⟨w2, hw2⟩ : ∃ w2, w1.alloc (.cells #[.int .i64 0, .int .u64 (m : Int), .string { data := #[] }, .slice none 0 0] 25) = w2 := ⟨_, rfl⟩
  have HF2 := hid (show Fr (fun _ => False) w w2 by rw [← hw2]; exact HF1.out.alloc _)
  have HB2 := hid (show Blk w2 w1.heap.size 25 #[.int .i64 0, .int .u64 (m : Int), .string { data := #[] }, .slice none 0 0] by rw [← hw2]; exact Blk.new _ _ _)
  have HW2 := hid hw2
  clear hw2
  go_wp2_with fail
  rw [HW2.out]
  refine (number_calls 0 m { data := #[] } none 0 0 w2).mono ?_
  rintro e w3 ⟨rfl, hf⟩
  have HF3 := hid hf
  rw [HPX.out]
  clear hf
  go_wp2_with fail
  refine (number_calls 0 b { data := #[] } none 0 0 w3).mono ?_
  rintro e w4 ⟨rfl, hf⟩
  have HF4 := hid (HF3.out.then_ hf (fun _ _ h => h))
  rw [HPR.out]
  clear hf
  go_wp2_with fail
  refine (number_calls 3 0 { data := #[] } none 0 0 w4).mono ?_
  rintro e w5 ⟨rfl, hf⟩
  have HF5 := hid (HF4.out.then_ hf (fun _ _ h => h))
  rw [HP3.out]
  clear hf
  obtain ⟨w6, hw6⟩ : ∃ w6, (w5.alloc (.cells #[.int .i64 1, .int .i64 lo, .int .i64 hi, .int .i64 0, .int .u64 0, .string { data := #[] }, .slice none 0 0, .slice none 0 0, .slice none 0 0] 54)).alloc (.cells #[.slice (some ⟨w5.heap.size, 0, none⟩) 1 1] 42) = w6 := ⟨_, rfl⟩
  have HF6 := hid (show Fr (fun _ => False) w2 w6 by rw [← hw6]; exact (HF5.out.alloc _).alloc _)
  have HBN := hid (show Blk w6 w5.heap.size 54 #[.int .i64 1, .int .i64 lo, .int .i64 hi, .int .i64 0, .int .u64 0, .string { data := #[] }, .slice none 0 0, .slice none 0 0, .slice none 0 0] by rw [← hw6]; exact (Blk.new _ _ _).alloc _)
  have HAT := hid (nd1_at w6 w5.heap.size lo hi hlo hhi HBN.out)
  have HIT := hid (show ItAt w6 0 0 (.mk 0 m em []) [.int .i64 0, .int .u64 (m : Int), .string { data := #[] }, .slice none 0 0] from ⟨none, 0, rfl, by simp, by omega, by omega, by decide, by simp, trivial⟩)
  have HW6 := hid hw6
  have x0 := (HB2.out.fr HF5.out (fun h => h)).cell 0
  have x1 := (HB2.out.fr HF5.out (fun h => h)).cell 1
  have x2 := (HB2.out.fr HF5.out (fun h => h)).cell 2
  have x3 := (HB2.out.fr HF5.out (fun h => h)).cell 3
  simp at x0 x1 x2 x3
  have y0 := fun o o' => cell_a (cell_a x0 o) o'
  have y1 := fun o o' => cell_a (cell_a x1 o) o'
  have y2 := fun o o' => cell_a (cell_a x2 o) o'
  have y3 := fun o o' => cell_a (cell_a x3 o) o'
  have HMC := hid (mat_calls (nd1 lo hi) (some ⟨w5.heap.size, 0, none⟩) 1 1 0 w6 (HDD.out.fr0 (HF2.out.trans HF6.out)) rfl (Nat.le_refl _) (by omega) HAT.out 0 (.mk 0 m em []) (show (1 : Nat) ≤ 2000000 by omega) 0 0 _ (Nat.zero_le _) HIT.out)
  clear hw6
  clear x0 x1 x2 x3
  go_wp2_with fail
  · rw [HW6.out]
    refine HMC.out.mono ?_
    rintro e w7 ⟨rfl, hf⟩
    have HF7 := hid (HF6.out.then_ hf (fun _ _ h => h))
    rw [HMV.out]
    clear hf y0 y1 y2 y3
    go_wp2_with fail
    go_ret
    exact ⟨rfl, HF2.out.trans HF7.out⟩

set_option maxRecDepth 100000 in
set_option maxHeartbeats 8000000 in
theorem law_002 (m : Nat) (n lo hi : Int) (hn : n = (m : Int)) (hm : m < 9223372036854775808) (hlo : -9223372036854775808 ≤ lo ∧ lo ≤ 9223372036854775807) (hhi : -9223372036854775808 ≤ hi ∧ hi ≤ 9223372036854775807) (hle : lo < hi) (hout : lo ≤ n ∧ ¬ n ≤ hi) (w : World) (hD : Dbl w) :
    Calls Tryd.prog 9 #[.int .i64 n, .int .i64 lo, .int .i64 hi] w fun e w' => e = .returned (.bool true) ∧ Fr (fun _ => False) w w' := by
  have HDD := hid hD
  have HNE := hid hn
  have hz1 : IntKind.u64.wrap n = (m : Int) := by rw [hn, u64_in _ (by omega)]
  obtain ⟨b, hb1, hb2⟩ := or_high m (by omega)
  have hs1 : ¬ n < 0 := by omega
  have HBB := hid hb2
  have HPR := hid (show numP 0 b = (0, false) by rw [numP, if_pos hb2])
  have HPX := hid (show numP 0 m = (n, true) by rw [numP, if_neg (by omega), if_pos rfl, hn])
  have HP3 := hid (show numP 3 0 = (0, false) by rw [numP, if_neg (by omega), if_neg (by omega), if_neg (by omega)])
  
  have hle' : lo ≤ hi := by omega
  have hle2 : ¬ hi ≤ lo := by omega
  have hle3 : ¬ hi < lo := by omega
  have HMV := hid (show matV (nd1 lo hi) 0 (.mk 0 m em []) = false by
    rw [mat_num hle' m (by omega), num_eq, HPX.out]
    simp
    omega)
  have g1 : lo ≤ n := by omega
  have g1b : n ≥ lo := by omega
  have g2 : decide (n ≤ hi) = false := decide_eq_false (by omega)
  
  
  clear hD hn hb2
  go_enter Tryd.func9, Tryd.ntmps9
  go_wp2_with fail
  refine (DenY.awake_calls w HDD.out).mono ?_
  rintro e w1 ⟨rfl, hf⟩
  have HF1 := hid hf
  clear hf
  obtain ⟨w2, hw2⟩ : ∃ w2, w1.alloc (.cells #[.int .i64 0, .int .u64 (m : Int), .string { data := #[] }, .slice none 0 0] 25) = w2 := ⟨_, rfl⟩
  have HF2 := hid (show Fr (fun _ => False) w w2 by rw [← hw2]; exact HF1.out.alloc _)
  have HB2 := hid (show Blk w2 w1.heap.size 25 #[.int .i64 0, .int .u64 (m : Int), .string { data := #[] }, .slice none 0 0] by rw [← hw2]; exact Blk.new _ _ _)
  have HW2 := hid hw2
  clear hw2
  go_wp2_with fail
  rw [HW2.out]
  refine (number_calls 0 m { data := #[] } none 0 0 w2).mono ?_
  rintro e w3 ⟨rfl, hf⟩
  have HF3 := hid hf
  rw [HPX.out]
  clear hf
  go_wp2_with fail
  refine (number_calls 0 b { data := #[] } none 0 0 w3).mono ?_
  rintro e w4 ⟨rfl, hf⟩
  have HF4 := hid (HF3.out.then_ hf (fun _ _ h => h))
  rw [HPR.out]
  clear hf
  go_wp2_with fail
  refine (number_calls 3 0 { data := #[] } none 0 0 w4).mono ?_
  rintro e w5 ⟨rfl, hf⟩
  have HF5 := hid (HF4.out.then_ hf (fun _ _ h => h))
  rw [HP3.out]
  clear hf
  obtain ⟨w6, hw6⟩ : ∃ w6, (w5.alloc (.cells #[.int .i64 1, .int .i64 lo, .int .i64 hi, .int .i64 0, .int .u64 0, .string { data := #[] }, .slice none 0 0, .slice none 0 0, .slice none 0 0] 54)).alloc (.cells #[.slice (some ⟨w5.heap.size, 0, none⟩) 1 1] 42) = w6 := ⟨_, rfl⟩
  have HF6 := hid (show Fr (fun _ => False) w2 w6 by rw [← hw6]; exact (HF5.out.alloc _).alloc _)
  have HBN := hid (show Blk w6 w5.heap.size 54 #[.int .i64 1, .int .i64 lo, .int .i64 hi, .int .i64 0, .int .u64 0, .string { data := #[] }, .slice none 0 0, .slice none 0 0, .slice none 0 0] by rw [← hw6]; exact (Blk.new _ _ _).alloc _)
  have HAT := hid (nd1_at w6 w5.heap.size lo hi hlo hhi HBN.out)
  have HIT := hid (show ItAt w6 0 0 (.mk 0 m em []) [.int .i64 0, .int .u64 (m : Int), .string { data := #[] }, .slice none 0 0] from ⟨none, 0, rfl, by simp, by omega, by omega, by decide, by simp, trivial⟩)
  have HW6 := hid hw6
  have x0 := (HB2.out.fr HF5.out (fun h => h)).cell 0
  have x1 := (HB2.out.fr HF5.out (fun h => h)).cell 1
  have x2 := (HB2.out.fr HF5.out (fun h => h)).cell 2
  have x3 := (HB2.out.fr HF5.out (fun h => h)).cell 3
  simp at x0 x1 x2 x3
  have y0 := fun o o' => cell_a (cell_a x0 o) o'
  have y1 := fun o o' => cell_a (cell_a x1 o) o'
  have y2 := fun o o' => cell_a (cell_a x2 o) o'
  have y3 := fun o o' => cell_a (cell_a x3 o) o'
  have HMC := hid (mat_calls (nd1 lo hi) (some ⟨w5.heap.size, 0, none⟩) 1 1 0 w6 (HDD.out.fr0 (HF2.out.trans HF6.out)) rfl (Nat.le_refl _) (by omega) HAT.out 0 (.mk 0 m em []) (show (1 : Nat) ≤ 2000000 by omega) 0 0 _ (Nat.zero_le _) HIT.out)
  clear hw6
  clear x0 x1 x2 x3
  go_wp2_with fail
  · rw [HW6.out]
    refine HMC.out.mono ?_
    rintro e w7 ⟨rfl, hf⟩
    have HF7 := hid (HF6.out.then_ hf (fun _ _ h => h))
    rw [HMV.out]
    clear hf y0 y1 y2 y3
    go_wp2_with fail
    go_ret
    exact ⟨rfl, HF2.out.trans HF7.out⟩

set_option maxRecDepth 100000 in
set_option maxHeartbeats 8000000 in
theorem law_010 (m : Nat) (n lo hi : Int) (hn : n = (m : Int)) (hm : m < 9223372036854775808) (hlo : -9223372036854775808 ≤ lo ∧ lo ≤ 9223372036854775807) (hhi : -9223372036854775808 ≤ hi ∧ hi ≤ 9223372036854775807) (hle : hi < lo) (hout : hi ≤ n ∧ n ≤ lo) (w : World) (hD : Dbl w) :
    Calls Tryd.prog 9 #[.int .i64 n, .int .i64 lo, .int .i64 hi] w fun e w' => e = .returned (.bool true) ∧ Fr (fun _ => False) w w' := by
  have HDD := hid hD
  have HNE := hid hn
  have hz1 : IntKind.u64.wrap n = (m : Int) := by rw [hn, u64_in _ (by omega)]
  obtain ⟨b, hb1, hb2⟩ := or_high m (by omega)
  have hs1 : ¬ n < 0 := by omega
  have HBB := hid hb2
  have HPR := hid (show numP 0 b = (0, false) by rw [numP, if_pos hb2])
  have HPX := hid (show numP 0 m = (n, true) by rw [numP, if_neg (by omega), if_pos rfl, hn])
  have HP3 := hid (show numP 3 0 = (0, false) by rw [numP, if_neg (by omega), if_neg (by omega), if_neg (by omega)])
  
  have hle' : hi ≤ lo := by omega
  have hle2 : ¬ lo ≤ hi := by omega
  have hle3 : ¬ lo < hi := by omega
  have HMV := hid (show matV (nd1 hi lo) 0 (.mk 0 m em []) = true by
    rw [mat_num hle' m (by omega), num_eq, HPX.out]
    simp
    omega)
  have g1 : hi ≤ n := by omega
  have g1b : n ≥ hi := by omega
  have g2 : n ≤ lo := by omega
  
  
  clear hD hn hb2
  go_enter Tryd.func9, Tryd.ntmps9
  go_wp2_with fail
  refine (DenY.awake_calls w HDD.out).mono ?_
  rintro e w1 ⟨rfl, hf⟩
  have HF1 := hid hf
  clear hf
  obtain ⟨w2, hw2⟩ : ∃ w2, w1.alloc (.cells #[.int .i64 0, .int .u64 (m : Int), .string { data := #[] }, .slice none 0 0] 25) = w2 := ⟨_, rfl⟩
  have HF2 := hid (show Fr (fun _ => False) w w2 by rw [← hw2]; exact HF1.out.alloc _)
  have HB2 := hid (show Blk w2 w1.heap.size 25 #[.int .i64 0, .int .u64 (m : Int), .string { data := #[] }, .slice none 0 0] by rw [← hw2]; exact Blk.new _ _ _)
  have HW2 := hid hw2
  clear hw2
  go_wp2_with fail
  rw [HW2.out]
  refine (number_calls 0 m { data := #[] } none 0 0 w2).mono ?_
  rintro e w3 ⟨rfl, hf⟩
  have HF3 := hid hf
  rw [HPX.out]
  clear hf
  go_wp2_with fail
  refine (number_calls 0 b { data := #[] } none 0 0 w3).mono ?_
  rintro e w4 ⟨rfl, hf⟩
  have HF4 := hid (HF3.out.then_ hf (fun _ _ h => h))
  rw [HPR.out]
  clear hf
  go_wp2_with fail
  refine (number_calls 3 0 { data := #[] } none 0 0 w4).mono ?_
  rintro e w5 ⟨rfl, hf⟩
  have HF5 := hid (HF4.out.then_ hf (fun _ _ h => h))
  rw [HP3.out]
  clear hf
  obtain ⟨w6, hw6⟩ : ∃ w6, (w5.alloc (.cells #[.int .i64 1, .int .i64 hi, .int .i64 lo, .int .i64 0, .int .u64 0, .string { data := #[] }, .slice none 0 0, .slice none 0 0, .slice none 0 0] 54)).alloc (.cells #[.slice (some ⟨w5.heap.size, 0, none⟩) 1 1] 42) = w6 := ⟨_, rfl⟩
  have HF6 := hid (show Fr (fun _ => False) w2 w6 by rw [← hw6]; exact (HF5.out.alloc _).alloc _)
  have HBN := hid (show Blk w6 w5.heap.size 54 #[.int .i64 1, .int .i64 hi, .int .i64 lo, .int .i64 0, .int .u64 0, .string { data := #[] }, .slice none 0 0, .slice none 0 0, .slice none 0 0] by rw [← hw6]; exact (Blk.new _ _ _).alloc _)
  have HAT := hid (nd1_at w6 w5.heap.size hi lo hhi hlo HBN.out)
  have HIT := hid (show ItAt w6 0 0 (.mk 0 m em []) [.int .i64 0, .int .u64 (m : Int), .string { data := #[] }, .slice none 0 0] from ⟨none, 0, rfl, by simp, by omega, by omega, by decide, by simp, trivial⟩)
  have HW6 := hid hw6
  have x0 := (HB2.out.fr HF5.out (fun h => h)).cell 0
  have x1 := (HB2.out.fr HF5.out (fun h => h)).cell 1
  have x2 := (HB2.out.fr HF5.out (fun h => h)).cell 2
  have x3 := (HB2.out.fr HF5.out (fun h => h)).cell 3
  simp at x0 x1 x2 x3
  have y0 := fun o o' => cell_a (cell_a x0 o) o'
  have y1 := fun o o' => cell_a (cell_a x1 o) o'
  have y2 := fun o o' => cell_a (cell_a x2 o) o'
  have y3 := fun o o' => cell_a (cell_a x3 o) o'
  have HMC := hid (mat_calls (nd1 hi lo) (some ⟨w5.heap.size, 0, none⟩) 1 1 0 w6 (HDD.out.fr0 (HF2.out.trans HF6.out)) rfl (Nat.le_refl _) (by omega) HAT.out 0 (.mk 0 m em []) (show (1 : Nat) ≤ 2000000 by omega) 0 0 _ (Nat.zero_le _) HIT.out)
  clear hw6
  clear x0 x1 x2 x3
  go_wp2_with fail
  · rw [HW6.out]
    refine HMC.out.mono ?_
    rintro e w7 ⟨rfl, hf⟩
    have HF7 := hid (HF6.out.then_ hf (fun _ _ h => h))
    rw [HMV.out]
    clear hf y0 y1 y2 y3
    go_wp2_with fail
    go_ret
    exact ⟨rfl, HF2.out.trans HF7.out⟩

set_option maxRecDepth 100000 in
set_option maxHeartbeats 8000000 in
theorem law_011 (m : Nat) (n lo hi : Int) (hn : n = (m : Int)) (hm : m < 9223372036854775808) (hlo : -9223372036854775808 ≤ lo ∧ lo ≤ 9223372036854775807) (hhi : -9223372036854775808 ≤ hi ∧ hi ≤ 9223372036854775807) (hle : hi < lo) (hout : ¬ hi ≤ n) (w : World) (hD : Dbl w) :
    Calls Tryd.prog 9 #[.int .i64 n, .int .i64 lo, .int .i64 hi] w fun e w' => e = .returned (.bool true) ∧ Fr (fun _ => False) w w' := by
  have HDD := hid hD
  have HNE := hid hn
  have hz1 : IntKind.u64.wrap n = (m : Int) := by rw [hn, u64_in _ (by omega)]
  obtain ⟨b, hb1, hb2⟩ := or_high m (by omega)
  have hs1 : ¬ n < 0 := by omega
  have HBB := hid hb2
  have HPR := hid (show numP 0 b = (0, false) by rw [numP, if_pos hb2])
  have HPX := hid (show numP 0 m = (n, true) by rw [numP, if_neg (by omega), if_pos rfl, hn])
  have HP3 := hid (show numP 3 0 = (0, false) by rw [numP, if_neg (by omega), if_neg (by omega), if_neg (by omega)])
  
  have hle' : hi ≤ lo := by omega
  have hle2 : ¬ lo ≤ hi := by omega
  have hle3 : ¬ lo < hi := by omega
  have HMV := hid (show matV (nd1 hi lo) 0 (.mk 0 m em []) = false by
    rw [mat_num hle' m (by omega), num_eq, HPX.out]
    simp
    omega)
  have g1 : decide (hi ≤ n) = false := decide_eq_false (by omega)
  have g1b : decide (n ≥ hi) = false := decide_eq_false (by omega)
  
  
  
  clear hD hn hb2
  go_enter Tryd.func9, Tryd.ntmps9
  go_wp2_with fail
  refine (DenY.awake_calls w HDD.out).mono ?_
  rintro e w1 ⟨rfl, hf⟩
  have HF1 := hid hf
  clear hf
  obtain ⟨w2, hw2⟩ : ∃ w2, w1.alloc (.cells #[.int .i64 0, .int .u64 (m : Int), .string { data := #[] }, .slice none 0 0] 25) = w2 := ⟨_, rfl⟩
  have HF2 := hid (show Fr (fun _ => False) w w2 by rw [← hw2]; exact HF1.out.alloc _)
  have HB2 := hid (show Blk w2 w1.heap.size 25 #[.int .i64 0, .int .u64 (m : Int), .string { data := #[] }, .slice none 0 0] by rw [← hw2]; exact Blk.new _ _ _)
  have HW2 := hid hw2
  clear hw2
  go_wp2_with fail
  rw [HW2.out]
  refine (number_calls 0 m { data := #[] } none 0 0 w2).mono ?_
  rintro e w3 ⟨rfl, hf⟩
  have HF3 := hid hf
  rw [HPX.out]
  clear hf
  go_wp2_with fail
  refine (number_calls 0 b { data := #[] } none 0 0 w3).mono ?_
  rintro e w4 ⟨rfl, hf⟩
  have HF4 := hid (HF3.out.then_ hf (fun _ _ h => h))
  rw [HPR.out]
  clear hf
  go_wp2_with fail
  refine (number_calls 3 0 { data := #[] } none 0 0 w4).mono ?_
  rintro e w5 ⟨rfl, hf⟩
  have HF5 := hid (HF4.out.then_ hf (fun _ _ h => h))
  rw [HP3.out]
  clear hf
  obtain ⟨w6, hw6⟩ : ∃ w6, (w5.alloc (.cells #[.int .i64 1, .int .i64 hi, .int .i64 lo, .int .i64 0, .int .u64 0, .string { data := #[] }, .slice none 0 0, .slice none 0 0, .slice none 0 0] 54)).alloc (.cells #[.slice (some ⟨w5.heap.size, 0, none⟩) 1 1] 42) = w6 := ⟨_, rfl⟩
  have HF6 := hid (show Fr (fun _ => False) w2 w6 by rw [← hw6]; exact (HF5.out.alloc _).alloc _)
  have HBN := hid (show Blk w6 w5.heap.size 54 #[.int .i64 1, .int .i64 hi, .int .i64 lo, .int .i64 0, .int .u64 0, .string { data := #[] }, .slice none 0 0, .slice none 0 0, .slice none 0 0] by rw [← hw6]; exact (Blk.new _ _ _).alloc _)
  have HAT := hid (nd1_at w6 w5.heap.size hi lo hhi hlo HBN.out)
  have HIT := hid (show ItAt w6 0 0 (.mk 0 m em []) [.int .i64 0, .int .u64 (m : Int), .string { data := #[] }, .slice none 0 0] from ⟨none, 0, rfl, by simp, by omega, by omega, by decide, by simp, trivial⟩)
  have HW6 := hid hw6
  have x0 := (HB2.out.fr HF5.out (fun h => h)).cell 0
  have x1 := (HB2.out.fr HF5.out (fun h => h)).cell 1
  have x2 := (HB2.out.fr HF5.out (fun h => h)).cell 2
  have x3 := (HB2.out.fr HF5.out (fun h => h)).cell 3
  simp at x0 x1 x2 x3
  have y0 := fun o o' => cell_a (cell_a x0 o) o'
  have y1 := fun o o' => cell_a (cell_a x1 o) o'
  have y2 := fun o o' => cell_a (cell_a x2 o) o'
  have y3 := fun o o' => cell_a (cell_a x3 o) o'
  have HMC := hid (mat_calls (nd1 hi lo) (some ⟨w5.heap.size, 0, none⟩) 1 1 0 w6 (HDD.out.fr0 (HF2.out.trans HF6.out)) rfl (Nat.le_refl _) (by omega) HAT.out 0 (.mk 0 m em []) (show (1 : Nat) ≤ 2000000 by omega) 0 0 _ (Nat.zero_le _) HIT.out)
  clear hw6
  clear x0 x1 x2 x3
  go_wp2_with fail
  · rw [HW6.out]
    refine HMC.out.mono ?_
    rintro e w7 ⟨rfl, hf⟩
    have HF7 := hid (HF6.out.then_ hf (fun _ _ h => h))
    rw [HMV.out]
    clear hf y0 y1 y2 y3
    go_wp2_with fail
    go_ret
    exact ⟨rfl, HF2.out.trans HF7.out⟩

set_option maxRecDepth 100000 in
set_option maxHeartbeats 8000000 in
theorem law_012 (m : Nat) (n lo hi : Int) (hn : n = (m : Int)) (hm : m < 9223372036854775808) (hlo : -9223372036854775808 ≤ lo ∧ lo ≤ 9223372036854775807) (hhi : -9223372036854775808 ≤ hi ∧ hi ≤ 9223372036854775807) (hle : hi < lo) (hout : hi ≤ n ∧ ¬ n ≤ lo) (w : World) (hD : Dbl w) :
    Calls Tryd.prog 9 #[.int .i64 n, .int .i64 lo, .int .i64 hi] w fun e w' => e = .returned (.bool true) ∧ Fr (fun _ => False) w w' := by
  have HDD := hid hD
  have HNE := hid hn
  have hz1 : IntKind.u64.wrap n = (m : Int) := by rw [hn, u64_in _ (by omega)]
  obtain ⟨b, hb1, hb2⟩ := or_high m (by omega)
  have hs1 : ¬ n < 0 := by omega
  have HBB := hid hb2
  have HPR := hid (show numP 0 b = (0, false) by rw [numP, if_pos hb2])
  have HPX := hid (show numP 0 m = (n, true) by rw [numP, if_neg (by omega), if_pos rfl, hn])
  have HP3 := hid (show numP 3 0 = (0, false) by rw [numP, if_neg (by omega), if_neg (by omega), if_neg (by omega)])
  
  have hle' : hi ≤ lo := by omega
  have hle2 : ¬ lo ≤ hi := by omega
  have hle3 : ¬ lo < hi := by omega
  have HMV := hid (show matV (nd1 hi lo) 0 (.mk 0 m em []) = false by
    rw [mat_num hle' m (by omega), num_eq, HPX.out]
    simp
    omega)
  have g1 : hi ≤ n := by omega
  have g1b : n ≥ hi := by omega
  have g2 : decide (n ≤ lo) = false := decide_eq_false (by omega)
  
  
  clear hD hn hb2
  go_enter Tryd.func9, Tryd.ntmps9
  go_wp2_with fail
  refine (DenY.awake_calls w HDD.out).mono ?_
  rintro e w1 ⟨rfl, hf⟩
  have HF1 := hid hf
  clear hf
  obtain ⟨w2, hw2⟩ : ∃ w2, w1.alloc (.cells #[.int .i64 0, .int .u64 (m : Int), .string { data := #[] }, .slice none 0 0] 25) = w2 := ⟨_, rfl⟩
  have HF2 := hid (show Fr (fun _ => False) w w2 by rw [← hw2]; exact HF1.out.alloc _)
  have HB2 := hid (show Blk w2 w1.heap.size 25 #[.int .i64 0, .int .u64 (m : Int), .string { data := #[] }, .slice none 0 0] by rw [← hw2]; exact Blk.new _ _ _)
  have HW2 := hid hw2
  clear hw2
  go_wp2_with fail
  rw [HW2.out]
  refine (number_calls 0 m { data := #[] } none 0 0 w2).mono ?_
  rintro e w3 ⟨rfl, hf⟩
  have HF3 := hid hf
  rw [HPX.out]
  clear hf
  go_wp2_with fail
  refine (number_calls 0 b { data := #[] } none 0 0 w3).mono ?_
  rintro e w4 ⟨rfl, hf⟩
  have HF4 := hid (HF3.out.then_ hf (fun _ _ h => h))
  rw [HPR.out]
  clear hf
  go_wp2_with fail
  refine (number_calls 3 0 { data := #[] } none 0 0 w4).mono ?_
  rintro e w5 ⟨rfl, hf⟩
  have HF5 := hid (HF4.out.then_ hf (fun _ _ h => h))
  rw [HP3.out]
  clear hf
  obtain ⟨w6, hw6⟩ : ∃ w6, (w5.alloc (.cells #[.int .i64 1, .int .i64 hi, .int .i64 lo, .int .i64 0, .int .u64 0, .string { data := #[] }, .slice none 0 0, .slice none 0 0, .slice none 0 0] 54)).alloc (.cells #[.slice (some ⟨w5.heap.size, 0, none⟩) 1 1] 42) = w6 := ⟨_, rfl⟩
  have HF6 := hid (show Fr (fun _ => False) w2 w6 by rw [← hw6]; exact (HF5.out.alloc _).alloc _)
  have HBN := hid (show Blk w6 w5.heap.size 54 #[.int .i64 1, .int .i64 hi, .int .i64 lo, .int .i64 0, .int .u64 0, .string { data := #[] }, .slice none 0 0, .slice none 0 0, .slice none 0 0] by rw [← hw6]; exact (Blk.new _ _ _).alloc _)
  have HAT := hid (nd1_at w6 w5.heap.size hi lo hhi hlo HBN.out)
  have HIT := hid (show ItAt w6 0 0 (.mk 0 m em []) [.int .i64 0, .int .u64 (m : Int), .string { data := #[] }, .slice none 0 0] from ⟨none, 0, rfl, by simp, by omega, by omega, by decide, by simp, trivial⟩)
  have HW6 := hid hw6
  have x0 := (HB2.out.fr HF5.out (fun h => h)).cell 0
  have x1 := (HB2.out.fr HF5.out (fun h => h)).cell 1
  have x2 := (HB2.out.fr HF5.out (fun h => h)).cell 2
  have x3 := (HB2.out.fr HF5.out (fun h => h)).cell 3
  simp at x0 x1 x2 x3
  have y0 := fun o o' => cell_a (cell_a x0 o) o'
  have y1 := fun o o' => cell_a (cell_a x1 o) o'
  have y2 := fun o o' => cell_a (cell_a x2 o) o'
  have y3 := fun o o' => cell_a (cell_a x3 o) o'
  have HMC := hid (mat_calls (nd1 hi lo) (some ⟨w5.heap.size, 0, none⟩) 1 1 0 w6 (HDD.out.fr0 (HF2.out.trans HF6.out)) rfl (Nat.le_refl _) (by omega) HAT.out 0 (.mk 0 m em []) (show (1 : Nat) ≤ 2000000 by omega) 0 0 _ (Nat.zero_le _) HIT.out)
  clear hw6
  clear x0 x1 x2 x3
  go_wp2_with fail
  · rw [HW6.out]
    refine HMC.out.mono ?_
    rintro e w7 ⟨rfl, hf⟩
    have HF7 := hid (HF6.out.then_ hf (fun _ _ h => h))
    rw [HMV.out]
    clear hf y0 y1 y2 y3
    go_wp2_with fail
    go_ret
    exact ⟨rfl, HF2.out.trans HF7.out⟩

set_option maxRecDepth 100000 in
set_option maxHeartbeats 8000000 in
theorem law_020 (m : Nat) (n lo hi : Int) (hn : n = (m : Int)) (hm : m < 9223372036854775808) (hlo : -9223372036854775808 ≤ lo ∧ lo ≤ 9223372036854775807) (hhi : -9223372036854775808 ≤ hi ∧ hi ≤ 9223372036854775807) (hle : lo = hi) (hout : lo ≤ n ∧ n ≤ lo) (w : World) (hD : Dbl w) :
    Calls Tryd.prog 9 #[.int .i64 n, .int .i64 lo, .int .i64 hi] w fun e w' => e = .returned (.bool true) ∧ Fr (fun _ => False) w w' := by
  have HDD := hid hD
  have HNE := hid hn
  have hz1 : IntKind.u64.wrap n = (m : Int) := by rw [hn, u64_in _ (by omega)]
  obtain ⟨b, hb1, hb2⟩ := or_high m (by omega)
  have hs1 : ¬ n < 0 := by omega
  have HBB := hid hb2
  have HPR := hid (show numP 0 b = (0, false) by rw [numP, if_pos hb2])
  have HPX := hid (show numP 0 m = (n, true) by rw [numP, if_neg (by omega), if_pos rfl, hn])
  have HP3 := hid (show numP 3 0 = (0, false) by rw [numP, if_neg (by omega), if_neg (by omega), if_neg (by omega)])
  subst hle
  have hle' : lo ≤ lo := by omega
  
  
  have HMV := hid (show matV (nd1 lo lo) 0 (.mk 0 m em []) = true by
    rw [mat_num hle' m (by omega), num_eq, HPX.out]
    simp
    omega)
  have g1 : lo ≤ n := by omega
  have g1b : n ≥ lo := by omega
  have g2 : n ≤ lo := by omega
  
  
  clear hD hn hb2
  go_enter Tryd.func9, Tryd.ntmps9
  go_wp2_with fail
  refine (DenY.awake_calls w HDD.out).mono ?_
  rintro e w1 ⟨rfl, hf⟩
  have HF1 := hid hf
  clear hf
  obtain ⟨w2, hw2⟩ : ∃ w2, w1.alloc (.cells #[.int .i64 0, .int .u64 (m : Int), .string { data := #[] }, .slice none 0 0] 25) = w2 := ⟨_, rfl⟩
  have HF2 := hid (show Fr (fun _ => False) w w2 by rw [← hw2]; exact HF1.out.alloc _)
  have HB2 := hid (show Blk w2 w1.heap.size 25 #[.int .i64 0, .int .u64 (m : Int), .string { data := #[] }, .slice none 0 0] by rw [← hw2]; exact Blk.new _ _ _)
  have HW2 := hid hw2
  clear hw2
  go_wp2_with fail
  rw [HW2.out]
  refine (number_calls 0 m { data := #[] } none 0 0 w2).mono ?_
  rintro e w3 ⟨rfl, hf⟩
  have HF3 := hid hf
  rw [HPX.out]
  clear hf
  go_wp2_with fail
  refine (number_calls 0 b { data := #[] } none 0 0 w3).mono ?_
  rintro e w4 ⟨rfl, hf⟩
  have HF4 := hid (HF3.out.then_ hf (fun _ _ h => h))
  rw [HPR.out]
  clear hf
  go_wp2_with fail
  refine (number_calls 3 0 { data := #[] } none 0 0 w4).mono ?_
  rintro e w5 ⟨rfl, hf⟩
  have HF5 := hid (HF4.out.then_ hf (fun _ _ h => h))
  rw [HP3.out]
  clear hf
  obtain ⟨w6, hw6⟩ : ∃ w6, (w5.alloc (.cells #[.int .i64 1, .int .i64 lo, .int .i64 lo, .int .i64 0, .int .u64 0, .string { data := #[] }, .slice none 0 0, .slice none 0 0, .slice none 0 0] 54)).alloc (.cells #[.slice (some ⟨w5.heap.size, 0, none⟩) 1 1] 42) = w6 := ⟨_, rfl⟩
  have HF6 := hid (show Fr (fun _ => False) w2 w6 by rw [← hw6]; exact (HF5.out.alloc _).alloc _)
  have HBN := hid (show Blk w6 w5.heap.size 54 #[.int .i64 1, .int .i64 lo, .int .i64 lo, .int .i64 0, .int .u64 0, .string { data := #[] }, .slice none 0 0, .slice none 0 0, .slice none 0 0] by rw [← hw6]; exact (Blk.new _ _ _).alloc _)
  have HAT := hid (nd1_at w6 w5.heap.size lo lo hlo hlo HBN.out)
  have HIT := hid (show ItAt w6 0 0 (.mk 0 m em []) [.int .i64 0, .int .u64 (m : Int), .string { data := #[] }, .slice none 0 0] from ⟨none, 0, rfl, by simp, by omega, by omega, by decide, by simp, trivial⟩)
  have HW6 := hid hw6
  have x0 := (HB2.out.fr HF5.out (fun h => h)).cell 0
  have x1 := (HB2.out.fr HF5.out (fun h => h)).cell 1
  have x2 := (HB2.out.fr HF5.out (fun h => h)).cell 2
  have x3 := (HB2.out.fr HF5.out (fun h => h)).cell 3
  simp at x0 x1 x2 x3
  have y0 := fun o o' => cell_a (cell_a x0 o) o'
  have y1 := fun o o' => cell_a (cell_a x1 o) o'
  have y2 := fun o o' => cell_a (cell_a x2 o) o'
  have y3 := fun o o' => cell_a (cell_a x3 o) o'
  have HMC := hid (mat_calls (nd1 lo lo) (some ⟨w5.heap.size, 0, none⟩) 1 1 0 w6 (HDD.out.fr0 (HF2.out.trans HF6.out)) rfl (Nat.le_refl _) (by omega) HAT.out 0 (.mk 0 m em []) (show (1 : Nat) ≤ 2000000 by omega) 0 0 _ (Nat.zero_le _) HIT.out)
  clear hw6
  clear x0 x1 x2 x3
  go_wp2_with fail
  · rw [HW6.out]
    refine HMC.out.mono ?_
    rintro e w7 ⟨rfl, hf⟩
    have HF7 := hid (HF6.out.then_ hf (fun _ _ h => h))
    rw [HMV.out]
    clear hf y0 y1 y2 y3
    go_wp2_with fail
    go_ret
    exact ⟨rfl, HF2.out.trans HF7.out⟩

set_option maxRecDepth 100000 in
set_option maxHeartbeats 8000000 in
theorem law_021 (m : Nat) (n lo hi : Int) (hn : n = (m : Int)) (hm : m < 9223372036854775808) (hlo : -9223372036854775808 ≤ lo ∧ lo ≤ 9223372036854775807) (hhi : -9223372036854775808 ≤ hi ∧ hi ≤ 9223372036854775807) (hle : lo = hi) (hout : ¬ lo ≤ n) (w : World) (hD : Dbl w) :
    Calls Tryd.prog 9 #[.int .i64 n, .int .i64 lo, .int .i64 hi] w fun e w' => e = .returned (.bool true) ∧ Fr (fun _ => False) w w' := by
  have HDD := hid hD
  have HNE := hid hn
  have hz1 : IntKind.u64.wrap n = (m : Int) := by rw [hn, u64_in _ (by omega)]
  obtain ⟨b, hb1, hb2⟩ := or_high m (by omega)
  have hs1 : ¬ n < 0 := by omega
  have HBB := hid hb2
  have HPR := hid (show numP 0 b = (0, false) by rw [numP, if_pos hb2])
  have HPX := hid (show numP 0 m = (n, true) by rw [numP, if_neg (by omega), if_pos rfl, hn])
  have HP3 := hid (show numP 3 0 = (0, false) by rw [numP, if_neg (by omega), if_neg (by omega), if_neg (by omega)])
  subst hle
  have hle' : lo ≤ lo := by omega
  
  
  have HMV := hid (show matV (nd1 lo lo) 0 (.mk 0 m em []) = false by
    rw [mat_num hle' m (by omega), num_eq, HPX.out]
    simp
    omega)
  have g1 : decide (lo ≤ n) = false := decide_eq_false (by omega)
  have g1b : decide (n ≥ lo) = false := decide_eq_false (by omega)
  
  
  
  clear hD hn hb2
  go_enter Tryd.func9, Tryd.ntmps9
  go_wp2_with fail
  refine (DenY.awake_calls w HDD.out).mono ?_
  rintro e w1 ⟨rfl, hf⟩
  have HF1 := hid hf
  clear hf
  obtain ⟨w2, hw2⟩ : ∃ w2, w1.alloc (.cells #[.int .i64 0, .int .u64 (m : Int), .string { data := #[] }, .slice none 0 0] 25) = w2 := ⟨_, rfl⟩
  have HF2 := hid (show Fr (fun _ => False) w w2 by rw [← hw2]; exact HF1.out.alloc _)
  have HB2 := hid (show Blk w2 w1.heap.size 25 #[.int .i64 0, .int .u64 (m : Int), .string { data := #[] }, .slice none 0 0] by rw [← hw2]; exact Blk.new _ _ _)
  have HW2 := hid hw2
  clear hw2
  go_wp2_with fail
  rw [HW2.out]
  refine (number_calls 0 m { data := #[] } none 0 0 w2).mono ?_
  rintro e w3 ⟨rfl, hf⟩
  have HF3 := hid hf
  rw [HPX.out]
  clear hf
  go_wp2_with fail
  refine (number_calls 0 b { data := #[] } none 0 0 w3).mono ?_
  rintro e w4 ⟨rfl, hf⟩
  have HF4 := hid (HF3.out.then_ hf (fun _ _ h => h))
  rw [HPR.out]
  clear hf
  go_wp2_with fail
  refine (number_calls 3 0 { data := #[] } none 0 0 w4).mono ?_
  rintro e w5 ⟨rfl, hf⟩
  have HF5 := hid (HF4.out.then_ hf (fun _ _ h => h))
  rw [HP3.out]
  clear hf
  obtain ⟨w6, hw6⟩ : ∃ w6, (w5.alloc (.cells #[.int .i64 1, .int .i64 lo, .int .i64 lo, .int .i64 0, .int .u64 0, .string { data := #[] }, .slice none 0 0, .slice none 0 0, .slice none 0 0] 54)).alloc (.cells #[.slice (some ⟨w5.heap.size, 0, none⟩) 1 1] 42) = w6 := ⟨_, rfl⟩
  have HF6 := hid (show Fr (fun _ => False) w2 w6 by rw [← hw6]; exact (HF5.out.alloc _).alloc _)
  have HBN := hid (show Blk w6 w5.heap.size 54 #[.int .i64 1, .int .i64 lo, .int .i64 lo, .int .i64 0, .int .u64 0, .string { data := #[] }, .slice none 0 0, .slice none 0 0, .slice none 0 0] by rw [← hw6]; exact (Blk.new _ _ _).alloc _)
  have HAT := hid (nd1_at w6 w5.heap.size lo lo hlo hlo HBN.out)
  have HIT := hid (show ItAt w6 0 0 (.mk 0 m em []) [.int .i64 0, .int .u64 (m : Int), .string { data := #[] }, .slice none 0 0] from ⟨none, 0, rfl, by simp, by omega, by omega, by decide, by simp, trivial⟩)
  have HW6 := hid hw6
  have x0 := (HB2.out.fr HF5.out (fun h => h)).cell 0
  have x1 := (HB2.out.fr HF5.out (fun h => h)).cell 1
  have x2 := (HB2.out.fr HF5.out (fun h => h)).cell 2
  have x3 := (HB2.out.fr HF5.out (fun h => h)).cell 3
  simp at x0 x1 x2 x3
  have y0 := fun o o' => cell_a (cell_a x0 o) o'
  have y1 := fun o o' => cell_a (cell_a x1 o) o'
  have y2 := fun o o' => cell_a (cell_a x2 o) o'
  have y3 := fun o o' => cell_a (cell_a x3 o) o'
  have HMC := hid (mat_calls (nd1 lo lo) (some ⟨w5.heap.size, 0, none⟩) 1 1 0 w6 (HDD.out.fr0 (HF2.out.trans HF6.out)) rfl (Nat.le_refl _) (by omega) HAT.out 0 (.mk 0 m em []) (show (1 : Nat) ≤ 2000000 by omega) 0 0 _ (Nat.zero_le _) HIT.out)
  clear hw6
  clear x0 x1 x2 x3
  go_wp2_with fail
  · rw [HW6.out]
    refine HMC.out.mono ?_
    rintro e w7 ⟨rfl, hf⟩
    have HF7 := hid (HF6.out.then_ hf (fun _ _ h => h))
    rw [HMV.out]
    clear hf y0 y1 y2 y3
    go_wp2_with fail
    go_ret
    exact ⟨rfl, HF2.out.trans HF7.out⟩

set_option maxRecDepth 100000 in
set_option maxHeartbeats 8000000 in
theorem law_022 (m : Nat) (n lo hi : Int) (hn : n = (m : Int)) (hm : m < 9223372036854775808) (hlo : -9223372036854775808 ≤ lo ∧ lo ≤ 9223372036854775807) (hhi : -9223372036854775808 ≤ hi ∧ hi ≤ 9223372036854775807) (hle : lo = hi) (hout : lo ≤ n ∧ ¬ n ≤ lo) (w : World) (hD : Dbl w) :
    Calls Tryd.prog 9 #[.int .i64 n, .int .i64 lo, .int .i64 hi] w fun e w' => e = .returned (.bool true) ∧ Fr (fun _ => False) w w' := by
  have HDD := hid hD
  have HNE := hid hn
  have hz1 : IntKind.u64.wrap n = (m : Int) := by rw [hn, u64_in _ (by omega)]
  obtain ⟨b, hb1, hb2⟩ := or_high m (by omega)
  have hs1 : ¬ n < 0 := by omega
  have HBB := hid hb2
  have HPR := hid (show numP 0 b = (0, false) by rw [numP, if_pos hb2])
  have HPX := hid (show numP 0 m = (n, true) by rw [numP, if_neg (by omega), if_pos rfl, hn])
  have HP3 := hid (show numP 3 0 = (0, false) by rw [numP, if_neg (by omega), if_neg (by omega), if_neg (by omega)])
  subst hle
  have hle' : lo ≤ lo := by omega
  
  
  have HMV := hid (show matV (nd1 lo lo) 0 (.mk 0 m em []) = false by
    rw [mat_num hle' m (by omega), num_eq, HPX.out]
    simp
    omega)
  have g1 : lo ≤ n := by omega
  have g1b : n ≥ lo := by omega
  have g2 : decide (n ≤ lo) = false := decide_eq_false (by omega)
  
  
  clear hD hn hb2
  go_enter Tryd.func9, Tryd.ntmps9
  go_wp2_with fail
  refine (DenY.awake_calls w HDD.out).mono ?_
  rintro e w1 ⟨rfl, hf⟩
  have HF1 := hid hf
  clear hf
  obtain ⟨w2, hw2⟩ : ∃ w2, w1.alloc (.cells #[.int .i64 0, .int .u64 (m : Int), .string { data := #[] }, .slice none 0 0] 25) = w2 := ⟨_, rfl⟩
  have HF2 := hid (show Fr (fun _ => False) w w2 by rw [← hw2]; exact HF1.out.alloc _)
  have HB2 := hid (show Blk w2 w1.heap.size 25 #[.int .i64 0, .int .u64 (m : Int), .string { data := #[] }, .slice none 0 0] by rw [← hw2]; exact Blk.new _ _ _)
  have HW2 := hid hw2
  clear hw2
  go_wp2_with fail
  rw [HW2.out]
  refine (number_calls 0 m { data := #[] } none 0 0 w2).mono ?_
  rintro e w3 ⟨rfl, hf⟩
  have HF3 := hid hf
  rw [HPX.out]
  clear hf
  go_wp2_with fail
  refine (number_calls 0 b { data := #[] } none 0 0 w3).mono ?_
  rintro e w4 ⟨rfl, hf⟩
  have HF4 := hid (HF3.out.then_ hf (fun _ _ h => h))
  rw [HPR.out]
  clear hf
  go_wp2_with fail
  refine (number_calls 3 0 { data := #[] } none 0 0 w4).mono ?_
  rintro e w5 ⟨rfl, hf⟩
  have HF5 := hid (HF4.out.then_ hf (fun _ _ h => h))
  rw [HP3.out]
  clear hf
  obtain ⟨w6, hw6⟩ : ∃ w6, (w5.alloc (.cells #[.int .i64 1, .int .i64 lo, .int .i64 lo, .int .i64 0, .int .u64 0, .string { data := #[] }, .slice none 0 0, .slice none 0 0, .slice none 0 0] 54)).alloc (.cells #[.slice (some ⟨w5.heap.size, 0, none⟩) 1 1] 42) = w6 := ⟨_, rfl⟩
  have HF6 := hid (show Fr (fun _ => False) w2 w6 by rw [← hw6]; exact (HF5.out.alloc _).alloc _)
  have HBN := hid (show Blk w6 w5.heap.size 54 #[.int .i64 1, .int .i64 lo, .int .i64 lo, .int .i64 0, .int .u64 0, .string { data := #[] }, .slice none 0 0, .slice none 0 0, .slice none 0 0] by rw [← hw6]; exact (Blk.new _ _ _).alloc _)
  have HAT := hid (nd1_at w6 w5.heap.size lo lo hlo hlo HBN.out)
  have HIT := hid (show ItAt w6 0 0 (.mk 0 m em []) [.int .i64 0, .int .u64 (m : Int), .string { data := #[] }, .slice none 0 0] from ⟨none, 0, rfl, by simp, by omega, by omega, by decide, by simp, trivial⟩)
  have HW6 := hid hw6
  have x0 := (HB2.out.fr HF5.out (fun h => h)).cell 0
  have x1 := (HB2.out.fr HF5.out (fun h => h)).cell 1
  have x2 := (HB2.out.fr HF5.out (fun h => h)).cell 2
  have x3 := (HB2.out.fr HF5.out (fun h => h)).cell 3
  simp at x0 x1 x2 x3
  have y0 := fun o o' => cell_a (cell_a x0 o) o'
  have y1 := fun o o' => cell_a (cell_a x1 o) o'
  have y2 := fun o o' => cell_a (cell_a x2 o) o'
  have y3 := fun o o' => cell_a (cell_a x3 o) o'
  have HMC := hid (mat_calls (nd1 lo lo) (some ⟨w5.heap.size, 0, none⟩) 1 1 0 w6 (HDD.out.fr0 (HF2.out.trans HF6.out)) rfl (Nat.le_refl _) (by omega) HAT.out 0 (.mk 0 m em []) (show (1 : Nat) ≤ 2000000 by omega) 0 0 _ (Nat.zero_le _) HIT.out)
  clear hw6
  clear x0 x1 x2 x3
  go_wp2_with fail
  · rw [HW6.out]
    refine HMC.out.mono ?_
    rintro e w7 ⟨rfl, hf⟩
    have HF7 := hid (HF6.out.then_ hf (fun _ _ h => h))
    rw [HMV.out]
    clear hf y0 y1 y2 y3
    go_wp2_with fail
    go_ret
    exact ⟨rfl, HF2.out.trans HF7.out⟩

set_option maxRecDepth 100000 in
set_option maxHeartbeats 8000000 in
theorem law_100 (m : Nat) (n lo hi : Int) (hn : n = (-1 - (m : Int))) (hm : m < 9223372036854775808) (hlo : -9223372036854775808 ≤ lo ∧ lo ≤ 9223372036854775807) (hhi : -9223372036854775808 ≤ hi ∧ hi ≤ 9223372036854775807) (hle : lo < hi) (hout : lo ≤ n ∧ n ≤ hi) (w : World) (hD : Dbl w) :
    Calls Tryd.prog 9 #[.int .i64 n, .int .i64 lo, .int .i64 hi] w fun e w' => e = .returned (.bool true) ∧ Fr (fun _ => False) w w' := by
  have HDD := hid hD
  have HNE := hid hn
  obtain ⟨z, hz1, hz2⟩ : ∃ z : Nat, IntKind.u64.wrap n = (z : Int) ∧ z < 18446744073709551616 := ⟨18446744073709551615 - m, by rw [hn, IntKind.wrap_u64]; omega, by omega⟩
  obtain ⟨b, hb1, hb2⟩ := or_high z hz2
  have hs1 : n < 0 := by omega
  have HBB := hid hb2
  have HPR := hid (show numP 0 b = (0, false) by rw [numP, if_pos hb2])
  have HPX := hid (show numP 1 m = (n, true) by rw [numP, if_neg (by omega), if_neg (by omega), if_pos rfl, hn])
  have HP3 := hid (show numP 3 0 = (0, false) by rw [numP, if_neg (by omega), if_neg (by omega), if_neg (by omega)])
  
  have hle' : lo ≤ hi := by omega
  have hle2 : ¬ hi ≤ lo := by omega
  have hle3 : ¬ hi < lo := by omega
  have HMV := hid (show matV (nd1 lo hi) 0 (.mk 1 m em []) = true by
    rw [mat_num hle' m (by omega), num_eq, HPX.out]
    simp
    omega)
  have g1 : lo ≤ n := by omega
  have g1b : n ≥ lo := by omega
  have g2 : n ≤ hi := by omega
  have hw1 : IntKind.i64.wrap (-1 - n) = (m : Int) := by rw [i64_in _ (by omega)]; omega
  have hw2 : IntKind.u64.wrap (m : Int) = (m : Int) := u64_in _ (by omega)
  clear hD hn hb2
  go_enter Tryd.func9, Tryd.ntmps9
  go_wp2_with fail
  refine (DenY.awake_calls w HDD.out).mono ?_
  rintro e w1 ⟨rfl, hf⟩
  have HF1 := hid hf
  clear hf
  obtain ⟨w2, hw2⟩ : ∃ w2, w1.alloc (.cells #[.int .i64 1, .int .u64 (m : Int), .string { data := #[] }, .slice none 0 0] 25) = w2 := ⟨_, rfl⟩
  have HF2 := hid (show Fr (fun _ => False) w w2 by rw [← hw2]; exact HF1.out.alloc _)
  have HB2 := hid (show Blk w2 w1.heap.size 25 #[.int .i64 1, .int .u64 (m : Int), .string { data := #[] }, .slice none 0 0] by rw [← hw2]; exact Blk.new _ _ _)
  have HW2 := hid hw2
  clear hw2
  go_wp2_with fail
  rw [HW2.out]
  refine (number_calls 1 m { data := #[] } none 0 0 w2).mono ?_
  rintro e w3 ⟨rfl, hf⟩
  have HF3 := hid hf
  rw [HPX.out]
  clear hf
  go_wp2_with fail
  refine (number_calls 0 b { data := #[] } none 0 0 w3).mono ?_
  rintro e w4 ⟨rfl, hf⟩
  have HF4 := hid (HF3.out.then_ hf (fun _ _ h => h))
  rw [HPR.out]
  clear hf
  go_wp2_with fail
  refine (number_calls 3 0 { data := #[] } none 0 0 w4).mono ?_
  rintro e w5 ⟨rfl, hf⟩
  have HF5 := hid (HF4.out.then_ hf (fun _ _ h => h))
  rw [HP3.out]
  clear hf
  obtain ⟨w6, hw6⟩ : ∃ w6, (w5.alloc (.cells #[.int .i64 1, .int .i64 lo, .int .i64 hi, .int .i64 0, .int .u64 0, .string { data := #[] }, .slice none 0 0, .slice none 0 0, .slice none 0 0] 54)).alloc (.cells #[.slice (some ⟨w5.heap.size, 0, none⟩) 1 1] 42) = w6 := ⟨_, rfl⟩
  have HF6 := hid (show Fr (fun _ => False) w2 w6 by rw [← hw6]; exact (HF5.out.alloc _).alloc _)
  have HBN := hid (show Blk w6 w5.heap.size 54 #[.int .i64 1, .int .i64 lo, .int .i64 hi, .int .i64 0, .int .u64 0, .string { data := #[] }, .slice none 0 0, .slice none 0 0, .slice none 0 0] by rw [← hw6]; exact (Blk.new _ _ _).alloc _)
  have HAT := hid (nd1_at w6 w5.heap.size lo hi hlo hhi HBN.out)
  have HIT := hid (show ItAt w6 0 0 (.mk 1 m em []) [.int .i64 1, .int .u64 (m : Int), .string { data := #[] }, .slice none 0 0] from ⟨none, 0, rfl, by simp, by omega, by omega, by decide, by simp, trivial⟩)
  have HW6 := hid hw6
  have x0 := (HB2.out.fr HF5.out (fun h => h)).cell 0
  have x1 := (HB2.out.fr HF5.out (fun h => h)).cell 1
  have x2 := (HB2.out.fr HF5.out (fun h => h)).cell 2
  have x3 := (HB2.out.fr HF5.out (fun h => h)).cell 3
  simp at x0 x1 x2 x3
  have y0 := fun o o' => cell_a (cell_a x0 o) o'
  have y1 := fun o o' => cell_a (cell_a x1 o) o'
  have y2 := fun o o' => cell_a (cell_a x2 o) o'
  have y3 := fun o o' => cell_a (cell_a x3 o) o'
  have HMC := hid (mat_calls (nd1 lo hi) (some ⟨w5.heap.size, 0, none⟩) 1 1 0 w6 (HDD.out.fr0 (HF2.out.trans HF6.out)) rfl (Nat.le_refl _) (by omega) HAT.out 0 (.mk 1 m em []) (show (1 : Nat) ≤ 2000000 by omega) 0 0 _ (Nat.zero_le _) HIT.out)
  clear hw6
  clear x0 x1 x2 x3
  go_wp2_with fail
  · rw [HW6.out]
    refine HMC.out.mono ?_
    rintro e w7 ⟨rfl, hf⟩
    have HF7 := hid (HF6.out.then_ hf (fun _ _ h => h))
    rw [HMV.out]
    clear hf y0 y1 y2 y3
    go_wp2_with fail
    go_ret
    exact ⟨rfl, HF2.out.trans HF7.out⟩

set_option maxRecDepth 100000 in
set_option maxHeartbeats 8000000 in
theorem law_101 (m : Nat) (n lo hi : Int) (hn : n = (-1 - (m : Int))) (hm : m < 9223372036854775808) (hlo : -9223372036854775808 ≤ lo ∧ lo ≤ 9223372036854775807) (hhi : -9223372036854775808 ≤ hi ∧ hi ≤ 9223372036854775807) (hle : lo < hi) (hout : ¬ lo ≤ n) (w : World) (hD : Dbl w) :
    Calls Tryd.prog 9 #[.int .i64 n, .int .i64 lo, .int .i64 hi] w fun e w' => e = .returned (.bool true) ∧ Fr (fun _ => False) w w' := by
  have HDD := hid hD
  have HNE := hid hn
  obtain ⟨z, hz1, hz2⟩ : ∃ z : Nat, IntKind.u64.wrap n = (z : Int) ∧ z < 18446744073709551616 := ⟨18446744073709551615 - m, by rw [hn, IntKind.wrap_u64]; omega, by omega⟩
  obtain ⟨b, hb1, hb2⟩ := or_high z hz2
  have hs1 : n < 0 := by omega
  have HBB := hid hb2
  have HPR := hid (show numP 0 b = (0, false) by rw [numP, if_pos hb2])
  have HPX := hid (show numP 1 m = (n, true) by rw [numP, if_neg (by omega), if_neg (by omega), if_pos rfl, hn])
  have HP3 := hid (show numP 3 0 = (0, false) by rw [numP, if_neg (by omega), if_neg (by omega), if_neg (by omega)])
  
  have hle' : lo ≤ hi := by omega
  have hle2 : ¬ hi ≤ lo := by omega
  have hle3 : ¬ hi < lo := by omega
  have HMV := hid (show matV (nd1 lo hi) 0 (.mk 1 m em []) = false by
    rw [mat_num hle' m (by omega), num_eq, HPX.out]
    simp
    omega)
  have g1 : decide (lo ≤ n) = false := decide_eq_false (by omega)
  have g1b : decide (n ≥ lo) = false := decide_eq_false (by omega)
  
  have hw1 : IntKind.i64.wrap (-1 - n) = (m : Int) := by rw [i64_in _ (by omega)]; omega
  have hw2 : IntKind.u64.wrap (m : Int) = (m : Int) := u64_in _ (by omega)
  clear hD hn hb2
  go_enter Tryd.func9, Tryd.ntmps9
  go_wp2_with fail
  refine (DenY.awake_calls w HDD.out).mono ?_
  rintro e w1 ⟨rfl, hf⟩
  have HF1 := hid hf
  clear hf
  obtain ⟨w2, hw2⟩ : ∃ w2, w1.alloc (.cells #[.int .i64 1, .int .u64 (m : Int), .string { data := #[] }, .slice none 0 0] 25) = w2 := ⟨_, rfl⟩
  have HF2 := hid (show Fr (fun _ => False) w w2 by rw [← hw2]; exact HF1.out.alloc _)
  have HB2 := hid (show Blk w2 w1.heap.size 25 #[.int .i64 1, .int .u64 (m : Int), .string { data := #[] }, .slice none 0 0] by rw [← hw2]; exact Blk.new _ _ _)
  have HW2 := hid hw2
  clear hw2
  go_wp2_with fail
  rw [HW2.out]
  refine (number_calls 1 m { data := #[] } none 0 0 w2).mono ?_
  rintro e w3 ⟨rfl, hf⟩
  have HF3 := hid hf
  rw [HPX.out]
  clear hf
  go_wp2_with fail
  refine (number_calls 0 b { data := #[] } none 0 0 w3).mono ?_
  rintro e w4 ⟨rfl, hf⟩
  have HF4 := hid (HF3.out.then_ hf (fun _ _ h => h))
  rw [HPR.out]
  clear hf
  go_wp2_with fail
  refine (number_calls 3 0 { data := #[] } none 0 0 w4).mono ?_
  rintro e w5 ⟨rfl, hf⟩
  have HF5 := hid (HF4.out.then_ hf (fun _ _ h => h))
  rw [HP3.out]
  clear hf
  obtain ⟨w6, hw6⟩ : ∃ w6, (w5.alloc (.cells #[.int .i64 1, .int .i64 lo, .int .i64 hi, .int .i64 0, .int .u64 0, .string { data := #[] }, .slice none 0 0, .slice none 0 0, .slice none 0 0] 54)).alloc (.cells #[.slice (some ⟨w5.heap.size, 0, none⟩) 1 1] 42) = w6 := ⟨_, rfl⟩
  have HF6 := hid (show Fr (fun _ => False) w2 w6 by rw [← hw6]; exact (HF5.out.alloc _).alloc _)
  have HBN := hid (show Blk w6 w5.heap.size 54 #[.int .i64 1, .int .i64 lo, .int .i64 hi, .int .i64 0, .int .u64 0, .string { data := #[] }, .slice none 0 0, .slice none 0 0, .slice none 0 0] by rw [← hw6]; exact (Blk.new _ _ _).alloc _)
  have HAT := hid (nd1_at w6 w5.heap.size lo hi hlo hhi HBN.out)
  have HIT := hid (show ItAt w6 0 0 (.mk 1 m em []) [.int .i64 1, .int .u64 (m : Int), .string { data := #[] }, .slice none 0 0] from ⟨none, 0, rfl, by simp, by omega, by omega, by decide, by simp, trivial⟩)
  have HW6 := hid hw6
  have x0 := (HB2.out.fr HF5.out (fun h => h)).cell 0
  have x1 := (HB2.out.fr HF5.out (fun h => h)).cell 1
  have x2 := (HB2.out.fr HF5.out (fun h => h)).cell 2
  have x3 := (HB2.out.fr HF5.out (fun h => h)).cell 3
  simp at x0 x1 x2 x3
  have y0 := fun o o' => cell_a (cell_a x0 o) o'
  have y1 := fun o o' => cell_a (cell_a x1 o) o'
  have y2 := fun o o' => cell_a (cell_a x2 o) o'
  have y3 := fun o o' => cell_a (cell_a x3 o) o'
  have HMC := hid (mat_calls (nd1 lo hi) (some ⟨w5.heap.size, 0, none⟩) 1 1 0 w6 (HDD.out.fr0 (HF2.out.trans HF6.out)) rfl (Nat.le_refl _) (by omega) HAT.out 0 (.mk 1 m em []) (show (1 : Nat) ≤ 2000000 by omega) 0 0 _ (Nat.zero_le _) HIT.out)
  clear hw6
  clear x0 x1 x2 x3
  go_wp2_with fail
  · rw [HW6.out]
    refine HMC.out.mono ?_
    rintro e w7 ⟨rfl, hf⟩
    have HF7 := hid (HF6.out.then_ hf (fun _ _ h => h))
    rw [HMV.out]
    clear hf y0 y1 y2 y3
    go_wp2_with fail
    go_ret
    exact ⟨rfl, HF2.out.trans HF7.out⟩

set_option maxRecDepth 100000 in
set_option maxHeartbeats 8000000 in
theorem law_102 (m : Nat) (n lo hi : Int) (hn : n = (-1 - (m : Int))) (hm : m < 9223372036854775808) (hlo : -9223372036854775808 ≤ lo ∧ lo ≤ 9223372036854775807) (hhi : -9223372036854775808 ≤ hi ∧ hi ≤ 9223372036854775807) (hle : lo < hi) (hout : lo ≤ n ∧ ¬ n ≤ hi) (w : World) (hD : Dbl w) :
    Calls Tryd.prog 9 #[.int .i64 n, .int .i64 lo, .int .i64 hi] w fun e w' => e = .returned (.bool true) ∧ Fr (fun _ => False) w w' := by
  have HDD := hid hD
  have HNE := hid hn
  obtain ⟨z, hz1, hz2⟩ : ∃ z : Nat, IntKind.u64.wrap n = (z : Int) ∧ z < 18446744073709551616 := ⟨18446744073709551615 - m, by rw [hn, IntKind.wrap_u64]; omega, by omega⟩
  obtain ⟨b, hb1, hb2⟩ := or_high z hz2
  have hs1 : n < 0 := by omega
  have HBB := hid hb2
  have HPR := hid (show numP 0 b = (0, false) by rw [numP, if_pos hb2])
  have HPX := hid (show numP 1 m = (n, true) by rw [numP, if_neg (by omega), if_neg (by omega), if_pos rfl, hn])
  have HP3 := hid (show numP 3 0 = (0, false) by rw [numP, if_neg (by omega), if_neg (by omega), if_neg (by omega)])
  
  have hle' : lo ≤ hi := by omega
  have hle2 : ¬ hi ≤ lo := by omega
  have hle3 : ¬ hi < lo := by omega
  have HMV := hid (show matV (nd1 lo hi) 0 (.mk 1 m em []) = false by
    rw [mat_num hle' m (by omega), num_eq, HPX.out]
    simp
    omega)
  have g1 : lo ≤ n := by omega
  have g1b : n ≥ lo := by omega
  have g2 : decide (n ≤ hi) = false := decide_eq_false (by omega)
  have hw1 : IntKind.i64.wrap (-1 - n) = (m : Int) := by rw [i64_in _ (by omega)]; omega
  have hw2 : IntKind.u64.wrap (m : Int) = (m : Int) := u64_in _ (by omega)
  clear hD hn hb2
  go_enter Tryd.func9, Tryd.ntmps9
  go_wp2_with fail
  refine (DenY.awake_calls w HDD.out).mono ?_
  rintro e w1 ⟨rfl, hf⟩
  have HF1 := hid hf
  clear hf
  obtain ⟨w2, hw2⟩ : ∃ w2, w1.alloc (.cells #[.int .i64 1, .int .u64 (m : Int), .string { data := #[] }, .slice none 0 0] 25) = w2 := ⟨_, rfl⟩
  have HF2 := hid (show Fr (fun _ => False) w w2 by rw [← hw2]; exact HF1.out.alloc _)
  have HB2 := hid (show Blk w2 w1.heap.size 25 #[.int .i64 1, .int .u64 (m : Int), .string { data := #[] }, .slice none 0 0] by rw [← hw2]; exact Blk.new _ _ _)
  have HW2 := hid hw2
  clear hw2
  go_wp2_with fail
  rw [HW2.out]
  refine (number_calls 1 m { data := #[] } none 0 0 w2).mono ?_
  rintro e w3 ⟨rfl, hf⟩
  have HF3 := hid hf
  rw [HPX.out]
  clear hf
  go_wp2_with fail
  refine (number_calls 0 b { data := #[] } none 0 0 w3).mono ?_
  rintro e w4 ⟨rfl, hf⟩
  have HF4 := hid (HF3.out.then_ hf (fun _ _ h => h))
  rw [HPR.out]
  clear hf
  go_wp2_with fail
  refine (number_calls 3 0 { data := #[] } none 0 0 w4).mono ?_
  rintro e w5 ⟨rfl, hf⟩
  have HF5 := hid (HF4.out.then_ hf (fun _ _ h => h))
  rw [HP3.out]
  clear hf
  obtain ⟨w6, hw6⟩ : ∃ w6, (w5.alloc (.cells #[.int .i64 1, .int .i64 lo, .int .i64 hi, .int .i64 0, .int .u64 0, .string { data := #[] }, .slice none 0 0, .slice none 0 0, .slice none 0 0] 54)).alloc (.cells #[.slice (some ⟨w5.heap.size, 0, none⟩) 1 1] 42) = w6 := ⟨_, rfl⟩
  have HF6 := hid (show Fr (fun _ => False) w2 w6 by rw [← hw6]; exact (HF5.out.alloc _).alloc _)
  have HBN := hid (show Blk w6 w5.heap.size 54 #[.int .i64 1, .int .i64 lo, .int .i64 hi, .int .i64 0, .int .u64 0, .string { data := #[] }, .slice none 0 0, .slice none 0 0, .slice none 0 0] by rw [← hw6]; exact (Blk.new _ _ _).alloc _)
  have HAT := hid (nd1_at w6 w5.heap.size lo hi hlo hhi HBN.out)
  have HIT := hid (show ItAt w6 0 0 (.mk 1 m em []) [.int .i64 1, .int .u64 (m : Int), .string { data := #[] }, .slice none 0 0] from ⟨none, 0, rfl, by simp, by omega, by omega, by decide, by simp, trivial⟩)
  have HW6 := hid hw6
  have x0 := (HB2.out.fr HF5.out (fun h => h)).cell 0
  have x1 := (HB2.out.fr HF5.out (fun h => h)).cell 1
  have x2 := (HB2.out.fr HF5.out (fun h => h)).cell 2
  have x3 := (HB2.out.fr HF5.out (fun h => h)).cell 3
  simp at x0 x1 x2 x3
  have y0 := fun o o' => cell_a (cell_a x0 o) o'
  have y1 := fun o o' => cell_a (cell_a x1 o) o'
  have y2 := fun o o' => cell_a (cell_a x2 o) o'
  have y3 := fun o o' => cell_a (cell_a x3 o) o'
  have HMC := hid (mat_calls (nd1 lo hi) (some ⟨w5.heap.size, 0, none⟩) 1 1 0 w6 (HDD.out.fr0 (HF2.out.trans HF6.out)) rfl (Nat.le_refl _) (by omega) HAT.out 0 (.mk 1 m em []) (show (1 : Nat) ≤ 2000000 by omega) 0 0 _ (Nat.zero_le _) HIT.out)
  clear hw6
  clear x0 x1 x2 x3
  go_wp2_with fail
  · rw [HW6.out]
    refine HMC.out.mono ?_
    rintro e w7 ⟨rfl, hf⟩
    have HF7 := hid (HF6.out.then_ hf (fun _ _ h => h))
    rw [HMV.out]
    clear hf y0 y1 y2 y3
    go_wp2_with fail
    go_ret
    exact ⟨rfl, HF2.out.trans HF7.out⟩

set_option maxRecDepth 100000 in
set_option maxHeartbeats 8000000 in
theorem law_110 (m : Nat) (n lo hi : Int) (hn : n = (-1 - (m : Int))) (hm : m < 9223372036854775808) (hlo : -9223372036854775808 ≤ lo ∧ lo ≤ 9223372036854775807) (hhi : -9223372036854775808 ≤ hi ∧ hi ≤ 9223372036854775807) (hle : hi < lo) (hout : hi ≤ n ∧ n ≤ lo) (w : World) (hD : Dbl w) :
    Calls Tryd.prog 9 #[.int .i64 n, .int .i64 lo, .int .i64 hi] w fun e w' => e = .returned (.bool true) ∧ Fr (fun _ => False) w w' := by
  have HDD := hid hD
  have HNE := hid hn
  obtain ⟨z, hz1, hz2⟩ : ∃ z : Nat, IntKind.u64.wrap n = (z : Int) ∧ z < 18446744073709551616 := ⟨18446744073709551615 - m, by rw [hn, IntKind.wrap_u64]; omega, by omega⟩
  obtain ⟨b, hb1, hb2⟩ := or_high z hz2
  have hs1 : n < 0 := by omega
  have HBB := hid hb2
  have HPR := hid (show numP 0 b = (0, false) by rw [numP, if_pos hb2])
  have HPX := hid (show numP 1 m = (n, true) by rw [numP, if_neg (by omega), if_neg (by omega), if_pos rfl, hn])
  have HP3 := hid (show numP 3 0 = (0, false) by rw [numP, if_neg (by omega), if_neg (by omega), if_neg (by omega)])
  
  have hle' : hi ≤ lo := by omega
  have hle2 : ¬ lo ≤ hi := by omega
  have hle3 : ¬ lo < hi := by omega
  have HMV := hid (show matV (nd1 hi lo) 0 (.mk 1 m em []) = true by
    rw [mat_num hle' m (by omega), num_eq, HPX.out]
    simp
    omega)
  have g1 : hi ≤ n := by omega
  have g1b : n ≥ hi := by omega
  have g2 : n ≤ lo := by omega
  have hw1 : IntKind.i64.wrap (-1 - n) = (m : Int) := by rw [i64_in _ (by omega)]; omega
  have hw2 : IntKind.u64.wrap (m : Int) = (m : Int) := u64_in _ (by omega)
  clear hD hn hb2
  go_enter Tryd.func9, Tryd.ntmps9
  go_wp2_with fail
  refine (DenY.awake_calls w HDD.out).mono ?_
  rintro e w1 ⟨rfl, hf⟩
  have HF1 := hid hf
  clear hf
  obtain ⟨w2, hw2⟩ : ∃ w2, w1.alloc (.cells #[.int .i64 1, .int .u64 (m : Int), .string { data := #[] }, .slice none 0 0] 25) = w2 := ⟨_, rfl⟩
  have HF2 := hid (show Fr (fun _ => False) w w2 by rw [← hw2]; exact HF1.out.alloc _)
  have HB2 := hid (show Blk w2 w1.heap.size 25 #[.int .i64 1, .int .u64 (m : Int), .string { data := #[] }, .slice none 0 0] by rw [← hw2]; exact Blk.new _ _ _)
  have HW2 := hid hw2
  clear hw2
  go_wp2_with fail
  rw [HW2.out]
  refine (number_calls 1 m { data := #[] } none 0 0 w2).mono ?_
  rintro e w3 ⟨rfl, hf⟩
  have HF3 := hid hf
  rw [HPX.out]
  clear hf
  go_wp2_with fail
  refine (number_calls 0 b { data := #[] } none 0 0 w3).mono ?_
  rintro e w4 ⟨rfl, hf⟩
  have HF4 := hid (HF3.out.then_ hf (fun _ _ h => h))
  rw [HPR.out]
  clear hf
  go_wp2_with fail
  refine (number_calls 3 0 { data := #[] } none 0 0 w4).mono ?_
  rintro e w5 ⟨rfl, hf⟩
  have HF5 := hid (HF4.out.then_ hf (fun _ _ h => h))
  rw [HP3.out]
  clear hf
  obtain ⟨w6, hw6⟩ : ∃ w6, (w5.alloc (.cells #[.int .i64 1, .int .i64 hi, .int .i64 lo, .int .i64 0, .int .u64 0, .string { data := #[] }, .slice none 0 0, .slice none 0 0, .slice none 0 0] 54)).alloc (.cells #[.slice (some ⟨w5.heap.size, 0, none⟩) 1 1] 42) = w6 := ⟨_, rfl⟩
  have HF6 := hid (show Fr (fun _ => False) w2 w6 by rw [← hw6]; exact (HF5.out.alloc _).alloc _)
  have HBN := hid (show Blk w6 w5.heap.size 54 #[.int .i64 1, .int .i64 hi, .int .i64 lo, .int .i64 0, .int .u64 0, .string { data := #[] }, .slice none 0 0, .slice none 0 0, .slice none 0 0] by rw [← hw6]; exact (Blk.new _ _ _).alloc _)
  have HAT := hid (nd1_at w6 w5.heap.size hi lo hhi hlo HBN.out)
  have HIT := hid (show ItAt w6 0 0 (.mk 1 m em []) [.int .i64 1, .int .u64 (m : Int), .string { data := #[] }, .slice none 0 0] from ⟨none, 0, rfl, by simp, by omega, by omega, by decide, by simp, trivial⟩)
  have HW6 := hid hw6
  have x0 := (HB2.out.fr HF5.out (fun h => h)).cell 0
  have x1 := (HB2.out.fr HF5.out (fun h => h)).cell 1
  have x2 := (HB2.out.fr HF5.out (fun h => h)).cell 2
  have x3 := (HB2.out.fr HF5.out (fun h => h)).cell 3
  simp at x0 x1 x2 x3
  have y0 := fun o o' => cell_a (cell_a x0 o) o'
  have y1 := fun o o' => cell_a (cell_a x1 o) o'
  have y2 := fun o o' => cell_a (cell_a x2 o) o'
  have y3 := fun o o' => cell_a (cell_a x3 o) o'
  have HMC := hid (mat_calls (nd1 hi lo) (some ⟨w5.heap.size, 0, none⟩) 1 1 0 w6 (HDD.out.fr0 (HF2.out.trans HF6.out)) rfl (Nat.le_refl _) (by omega) HAT.out 0 (.mk 1 m em []) (show (1 : Nat) ≤ 2000000 by omega) 0 0 _ (Nat.zero_le _) HIT.out)
  clear hw6
  clear x0 x1 x2 x3
  go_wp2_with fail
  · rw [HW6.out]
    refine HMC.out.mono ?_
    rintro e w7 ⟨rfl, hf⟩
    have HF7 := hid (HF6.out.then_ hf (fun _ _ h => h))
    rw [HMV.out]
    clear hf y0 y1 y2 y3
    go_wp2_with fail
    go_ret
    exact ⟨rfl, HF2.out.trans HF7.out⟩

set_option maxRecDepth 100000 in
set_option maxHeartbeats 8000000 in
theorem law_111 (m : Nat) (n lo hi : Int) (hn : n = (-1 - (m : Int))) (hm : m < 9223372036854775808) (hlo : -9223372036854775808 ≤ lo ∧ lo ≤ 9223372036854775807) (hhi : -9223372036854775808 ≤ hi ∧ hi ≤ 9223372036854775807) (hle : hi < lo) (hout : ¬ hi ≤ n) (w : World) (hD : Dbl w) :
    Calls Tryd.prog 9 #[.int .i64 n, .int .i64 lo, .int .i64 hi] w fun e w' => e = .returned (.bool true) ∧ Fr (fun _ => False) w w' := by
  have HDD := hid hD
  have HNE := hid hn
  obtain ⟨z, hz1, hz2⟩ : ∃ z : Nat, IntKind.u64.wrap n = (z : Int) ∧ z < 18446744073709551616 := ⟨18446744073709551615 - m, by rw [hn, IntKind.wrap_u64]; omega, by omega⟩
  obtain ⟨b, hb1, hb2⟩ := or_high z hz2
  have hs1 : n < 0 := by omega
  have HBB := hid hb2
  have HPR := hid (show numP 0 b = (0, false) by rw [numP, if_pos hb2])
  have HPX := hid (show numP 1 m = (n, true) by rw [numP, if_neg (by omega), if_neg (by omega), if_pos rfl, hn])
  have HP3 := hid (show numP 3 0 = (0, false) by rw [numP, if_neg (by omega), if_neg (by omega), if_neg (by omega)])
  
  have hle' : hi ≤ lo := by omega
  have hle2 : ¬ lo ≤ hi := by omega
  have hle3 : ¬ lo < hi := by omega
  have HMV := hid (show matV (nd1 hi lo) 0 (.mk 1 m em []) = false by
    rw [mat_num hle' m (by omega), num_eq, HPX.out]
    simp
    omega)
  have g1 : decide (hi ≤ n) = false := decide_eq_false (by omega)
  have g1b : decide (n ≥ hi) = false := decide_eq_false (by omega)
  
  have hw1 : IntKind.i64.wrap (-1 - n) = (m : Int) := by rw [i64_in _ (by omega)]; omega
  have hw2 : IntKind.u64.wrap (m : Int) = (m : Int) := u64_in _ (by omega)
  clear hD hn hb2
  go_enter Tryd.func9, Tryd.ntmps9
  go_wp2_with fail
  refine (DenY.awake_calls w HDD.out).mono ?_
  rintro e w1 ⟨rfl, hf⟩
  have HF1 := hid hf
  clear hf
  obtain ⟨w2, hw2⟩ : ∃ w2, w1.alloc (.cells #[.int .i64 1, .int .u64 (m : Int), .string { data := #[] }, .slice none 0 0] 25) = w2 := ⟨_, rfl⟩
  have HF2 := hid (show Fr (fun _ => False) w w2 by rw [← hw2]; exact HF1.out.alloc _)
  have HB2 := hid (show Blk w2 w1.heap.size 25 #[.int .i64 1, .int .u64 (m : Int), .string { data := #[] }, .slice none 0 0] by rw [← hw2]; exact Blk.new _ _ _)
  have HW2 := hid hw2
  clear hw2
  go_wp2_with fail
  rw [HW2.out]
  refine (number_calls 1 m { data := #[] } none 0 0 w2).mono ?_
  rintro e w3 ⟨rfl, hf⟩
  have HF3 := hid hf
  rw [HPX.out]
  clear hf
  go_wp2_with fail
  refine (number_calls 0 b { data := #[] } none 0 0 w3).mono ?_
  rintro e w4 ⟨rfl, hf⟩
  have HF4 := hid (HF3.out.then_ hf (fun _ _ h => h))
  rw [HPR.out]
  clear hf
  go_wp2_with fail
  refine (number_calls 3 0 { data := #[] } none 0 0 w4).mono ?_
  rintro e w5 ⟨rfl, hf⟩
  have HF5 := hid (HF4.out.then_ hf (fun _ _ h => h))
  rw [HP3.out]
  clear hf
  obtain ⟨w6, hw6⟩ : ∃ w6, (w5.alloc (.cells #[.int .i64 1, .int .i64 hi, .int .i64 lo, .int .i64 0, .int .u64 0, .string { data := #[] }, .slice none 0 0, .slice none 0 0, .slice none 0 0] 54)).alloc (.cells #[.slice (some ⟨w5.heap.size, 0, none⟩) 1 1] 42) = w6 := ⟨_, rfl⟩
  have HF6 := hid (show Fr (fun _ => False) w2 w6 by rw [← hw6]; exact (HF5.out.alloc _).alloc _)
  have HBN := hid (show Blk w6 w5.heap.size 54 #[.int .i64 1, .int .i64 hi, .int .i64 lo, .int .i64 0, .int .u64 0, .string { data := #[] }, .slice none 0 0, .slice none 0 0, .slice none 0 0] by rw [← hw6]; exact (Blk.new _ _ _).alloc _)
  have HAT := hid (nd1_at w6 w5.heap.size hi lo hhi hlo HBN.out)
  have HIT := hid (show ItAt w6 0 0 (.mk 1 m em []) [.int .i64 1, .int .u64 (m : Int), .string { data := #[] }, .slice none 0 0] from ⟨none, 0, rfl, by simp, by omega, by omega, by decide, by simp, trivial⟩)
  have HW6 := hid hw6
  have x0 := (HB2.out.fr HF5.out (fun h => h)).cell 0
  have x1 := (HB2.out.fr HF5.out (fun h => h)).cell 1
  have x2 := (HB2.out.fr HF5.out (fun h => h)).cell 2
  have x3 := (HB2.out.fr HF5.out (fun h => h)).cell 3
  simp at x0 x1 x2 x3
  have y0 := fun o o' => cell_a (cell_a x0 o) o'
  have y1 := fun o o' => cell_a (cell_a x1 o) o'
  have y2 := fun o o' => cell_a (cell_a x2 o) o'
  have y3 := fun o o' => cell_a (cell_a x3 o) o'
  have HMC := hid (mat_calls (nd1 hi lo) (some ⟨w5.heap.size, 0, none⟩) 1 1 0 w6 (HDD.out.fr0 (HF2.out.trans HF6.out)) rfl (Nat.le_refl _) (by omega) HAT.out 0 (.mk 1 m em []) (show (1 : Nat) ≤ 2000000 by omega) 0 0 _ (Nat.zero_le _) HIT.out)
  clear hw6
  clear x0 x1 x2 x3
  go_wp2_with fail
  · rw [HW6.out]
    refine HMC.out.mono ?_
    rintro e w7 ⟨rfl, hf⟩
    have HF7 := hid (HF6.out.then_ hf (fun _ _ h => h))
    rw [HMV.out]
    clear hf y0 y1 y2 y3
    go_wp2_with fail
    go_ret
    exact ⟨rfl, HF2.out.trans HF7.out⟩

set_option maxRecDepth 100000 in
set_option maxHeartbeats 8000000 in
theorem law_112 (m : Nat) (n lo hi : Int) (hn : n = (-1 - (m : Int))) (hm : m < 9223372036854775808) (hlo : -9223372036854775808 ≤ lo ∧ lo ≤ 9223372036854775807) (hhi : -9223372036854775808 ≤ hi ∧ hi ≤ 9223372036854775807) (hle : hi < lo) (hout : hi ≤ n ∧ ¬ n ≤ lo) (w : World) (hD : Dbl w) :
    Calls Tryd.prog 9 #[.int .i64 n, .int .i64 lo, .int .i64 hi] w fun e w' => e = .returned (.bool true) ∧ Fr (fun _ => False) w w' := by
  have HDD := hid hD
  have HNE := hid hn
  obtain ⟨z, hz1, hz2⟩ : ∃ z : Nat, IntKind.u64.wrap n = (z : Int) ∧ z < 18446744073709551616 := ⟨18446744073709551615 - m, by rw [hn, IntKind.wrap_u64]; omega, by omega⟩
  obtain ⟨b, hb1, hb2⟩ := or_high z hz2
  have hs1 : n < 0 := by omega
  have HBB := hid hb2
  have HPR := hid (show numP 0 b = (0, false) by rw [numP, if_pos hb2])
  have HPX := hid (show numP 1 m = (n, true) by rw [numP, if_neg (by omega), if_neg (by omega), if_pos rfl, hn])
  have HP3 := hid (show numP 3 0 = (0, false) by rw [numP, if_neg (by omega), if_neg (by omega), if_neg (by omega)])
  
  have hle' : hi ≤ lo := by omega
  have hle2 : ¬ lo ≤ hi := by omega
  have hle3 : ¬ lo < hi := by omega
  have HMV := hid (show matV (nd1 hi lo) 0 (.mk 1 m em []) = false by
    rw [mat_num hle' m (by omega), num_eq, HPX.out]
    simp
    omega)
  have g1 : hi ≤ n := by omega
  have g1b : n ≥ hi := by omega
  have g2 : decide (n ≤ lo) = false := decide_eq_false (by omega)
  have hw1 : IntKind.i64.wrap (-1 - n) = (m : Int) := by rw [i64_in _ (by omega)]; omega
  have hw2 : IntKind.u64.wrap (m : Int) = (m : Int) := u64_in _ (by omega)
  clear hD hn hb2
  go_enter Tryd.func9, Tryd.ntmps9
  go_wp2_with fail
  refine (DenY.awake_calls w HDD.out).mono ?_
  rintro e w1 ⟨rfl, hf⟩
  have HF1 := hid hf
  clear hf
  obtain ⟨w2, hw2⟩ : ∃ w2, w1.alloc (.cells #[.int .i64 1, .int .u64 (m : Int), .string { data := #[] }, .slice none 0 0] 25) = w2 := ⟨_, rfl⟩
  have HF2 := hid (show Fr (fun _ => False) w w2 by rw [← hw2]; exact HF1.out.alloc _)
  have HB2 := hid (show Blk w2 w1.heap.size 25 #[.int .i64 1, .int .u64 (m : Int), .string { data := #[] }, .slice none 0 0] by rw [← hw2]; exact Blk.new _ _ _)
  have HW2 := hid hw2
  clear hw2
  go_wp2_with fail
  rw [HW2.out]
  refine (number_calls 1 m { data := #[] } none 0 0 w2).mono ?_
  rintro e w3 ⟨rfl, hf⟩
  have HF3 := hid hf
  rw [HPX.out]
  clear hf
  go_wp2_with fail
  refine (number_calls 0 b { data := #[] } none 0 0 w3).mono ?_
  rintro e w4 ⟨rfl, hf⟩
  have HF4 := hid (HF3.out.then_ hf (fun _ _ h => h))
  rw [HPR.out]
  clear hf
  go_wp2_with fail
  refine (number_calls 3 0 { data := #[] } none 0 0 w4).mono ?_
  rintro e w5 ⟨rfl, hf⟩
  have HF5 := hid (HF4.out.then_ hf (fun _ _ h => h))
  rw [HP3.out]
  clear hf
  obtain ⟨w6, hw6⟩ : ∃ w6, (w5.alloc (.cells #[.int .i64 1, .int .i64 hi, .int .i64 lo, .int .i64 0, .int .u64 0, .string { data := #[] }, .slice none 0 0, .slice none 0 0, .slice none 0 0] 54)).alloc (.cells #[.slice (some ⟨w5.heap.size, 0, none⟩) 1 1] 42) = w6 := ⟨_, rfl⟩
  have HF6 := hid (show Fr (fun _ => False) w2 w6 by rw [← hw6]; exact (HF5.out.alloc _).alloc _)
  have HBN := hid (show Blk w6 w5.heap.size 54 #[.int .i64 1, .int .i64 hi, .int .i64 lo, .int .i64 0, .int .u64 0, .string { data := #[] }, .slice none 0 0, .slice none 0 0, .slice none 0 0] by rw [← hw6]; exact (Blk.new _ _ _).alloc _)
  have HAT := hid (nd1_at w6 w5.heap.size hi lo hhi hlo HBN.out)
  have HIT := hid (show ItAt w6 0 0 (.mk 1 m em []) [.int .i64 1, .int .u64 (m : Int), .string { data := #[] }, .slice none 0 0] from ⟨none, 0, rfl, by simp, by omega, by omega, by decide, by simp, trivial⟩)
  have HW6 := hid hw6
  have x0 := (HB2.out.fr HF5.out (fun h => h)).cell 0
  have x1 := (HB2.out.fr HF5.out (fun h => h)).cell 1
  have x2 := (HB2.out.fr HF5.out (fun h => h)).cell 2
  have x3 := (HB2.out.fr HF5.out (fun h => h)).cell 3
  simp at x0 x1 x2 x3
  have y0 := fun o o' => cell_a (cell_a x0 o) o'
  have y1 := fun o o' => cell_a (cell_a x1 o) o'
  have y2 := fun o o' => cell_a (cell_a x2 o) o'
  have y3 := fun o o' => cell_a (cell_a x3 o) o'
  have HMC := hid (mat_calls (nd1 hi lo) (some ⟨w5.heap.size, 0, none⟩) 1 1 0 w6 (HDD.out.fr0 (HF2.out.trans HF6.out)) rfl (Nat.le_refl _) (by omega) HAT.out 0 (.mk 1 m em []) (show (1 : Nat) ≤ 2000000 by omega) 0 0 _ (Nat.zero_le _) HIT.out)
  clear hw6
  clear x0 x1 x2 x3
  go_wp2_with fail
  · rw [HW6.out]
    refine HMC.out.mono ?_
    rintro e w7 ⟨rfl, hf⟩
    have HF7 := hid (HF6.out.then_ hf (fun _ _ h => h))
    rw [HMV.out]
    clear hf y0 y1 y2 y3
    go_wp2_with fail
    go_ret
    exact ⟨rfl, HF2.out.trans HF7.out⟩

set_option maxRecDepth 100000 in
set_option maxHeartbeats 8000000 in
theorem law_120 (m : Nat) (n lo hi : Int) (hn : n = (-1 - (m : Int))) (hm : m < 9223372036854775808) (hlo : -9223372036854775808 ≤ lo ∧ lo ≤ 9223372036854775807) (hhi : -9223372036854775808 ≤ hi ∧ hi ≤ 9223372036854775807) (hle : lo = hi) (hout : lo ≤ n ∧ n ≤ lo) (w : World) (hD : Dbl w) :
    Calls Tryd.prog 9 #[.int .i64 n, .int .i64 lo, .int .i64 hi] w fun e w' => e = .returned (.bool true) ∧ Fr (fun _ => False) w w' := by
  have HDD := hid hD
  have HNE := hid hn
  obtain ⟨z, hz1, hz2⟩ : ∃ z : Nat, IntKind.u64.wrap n = (z : Int) ∧ z < 18446744073709551616 := ⟨18446744073709551615 - m, by rw [hn, IntKind.wrap_u64]; omega, by omega⟩
  obtain ⟨b, hb1, hb2⟩ := or_high z hz2
  have hs1 : n < 0 := by omega
  have HBB := hid hb2
  have HPR := hid (show numP 0 b = (0, false) by rw [numP, if_pos hb2])
  have HPX := hid (show numP 1 m = (n, true) by rw [numP, if_neg (by omega), if_neg (by omega), if_pos rfl, hn])
  have HP3 := hid (show numP 3 0 = (0, false) by rw [numP, if_neg (by omega), if_neg (by omega), if_neg (by omega)])
  subst hle
  have hle' : lo ≤ lo := by omega
  
  
  have HMV := hid (show matV (nd1 lo lo) 0 (.mk 1 m em []) = true by
    rw [mat_num hle' m (by omega), num_eq, HPX.out]
    simp
    omega)
  have g1 : lo ≤ n := by omega
  have g1b : n ≥ lo := by omega
  have g2 : n ≤ lo := by omega
  have hw1 : IntKind.i64.wrap (-1 - n) = (m : Int) := by rw [i64_in _ (by omega)]; omega
  have hw2 : IntKind.u64.wrap (m : Int) = (m : Int) := u64_in _ (by omega)
  clear hD hn hb2
  go_enter Tryd.func9, Tryd.ntmps9
  go_wp2_with fail
  refine (DenY.awake_calls w HDD.out).mono ?_
  rintro e w1 ⟨rfl, hf⟩
  have HF1 := hid hf
  clear hf
  obtain ⟨w2, hw2⟩ : ∃ w2, w1.alloc (.cells #[.int .i64 1, .int .u64 (m : Int), .string { data := #[] }, .slice none 0 0] 25) = w2 := ⟨_, rfl⟩
  have HF2 := hid (show Fr (fun _ => False) w w2 by rw [← hw2]; exact HF1.out.alloc _)
  have HB2 := hid (show Blk w2 w1.heap.size 25 #[.int .i64 1, .int .u64 (m : Int), .string { data := #[] }, .slice none 0 0] by rw [← hw2]; exact Blk.new _ _ _)
  have HW2 := hid hw2
  clear hw2
  go_wp2_with fail
  rw [HW2.out]
  refine (number_calls 1 m { data := #[] } none 0 0 w2).mono ?_
  rintro e w3 ⟨rfl, hf⟩
  have HF3 := hid hf
  rw [HPX.out]
  clear hf
  go_wp2_with fail
  refine (number_calls 0 b { data := #[] } none 0 0 w3).mono ?_
  rintro e w4 ⟨rfl, hf⟩
  have HF4 := hid (HF3.out.then_ hf (fun _ _ h => h))
  rw [HPR.out]
  clear hf
  go_wp2_with fail
  refine (number_calls 3 0 { data := #[] } none 0 0 w4).mono ?_
  rintro e w5 ⟨rfl, hf⟩
  have HF5 := hid (HF4.out.then_ hf (fun _ _ h => h))
  rw [HP3.out]
  clear hf
  obtain ⟨w6, hw6⟩ : ∃ w6, (w5.alloc (.cells #[.int .i64 1, .int .i64 lo, .int .i64 lo, .int .i64 0, .int .u64 0, .string { data := #[] }, .slice none 0 0, .slice none 0 0, .slice none 0 0] 54)).alloc (.cells #[.slice (some ⟨w5.heap.size, 0, none⟩) 1 1] 42) = w6 := ⟨_, rfl⟩
  have HF6 := hid (show Fr (fun _ => False) w2 w6 by rw [← hw6]; exact (HF5.out.alloc _).alloc _)
  have HBN := hid (show Blk w6 w5.heap.size 54 #[.int .i64 1, .int .i64 lo, .int .i64 lo, .int .i64 0, .int .u64 0, .string { data := #[] }, .slice none 0 0, .slice none 0 0, .slice none 0 0] by rw [← hw6]; exact (Blk.new _ _ _).alloc _)
  have HAT := hid (nd1_at w6 w5.heap.size lo lo hlo hlo HBN.out)
  have HIT := hid (show ItAt w6 0 0 (.mk 1 m em []) [.int .i64 1, .int .u64 (m : Int), .string { data := #[] }, .slice none 0 0] from ⟨none, 0, rfl, by simp, by omega, by omega, by decide, by simp, trivial⟩)
  have HW6 := hid hw6
  have x0 := (HB2.out.fr HF5.out (fun h => h)).cell 0
  have x1 := (HB2.out.fr HF5.out (fun h => h)).cell 1
  have x2 := (HB2.out.fr HF5.out (fun h => h)).cell 2
  have x3 := (HB2.out.fr HF5.out (fun h => h)).cell 3
  simp at x0 x1 x2 x3
  have y0 := fun o o' => cell_a (cell_a x0 o) o'
  have y1 := fun o o' => cell_a (cell_a x1 o) o'
  have y2 := fun o o' => cell_a (cell_a x2 o) o'
  have y3 := fun o o' => cell_a (cell_a x3 o) o'
  have HMC := hid (mat_calls (nd1 lo lo) (some ⟨w5.heap.size, 0, none⟩) 1 1 0 w6 (HDD.out.fr0 (HF2.out.trans HF6.out)) rfl (Nat.le_refl _) (by omega) HAT.out 0 (.mk 1 m em []) (show (1 : Nat) ≤ 2000000 by omega) 0 0 _ (Nat.zero_le _) HIT.out)
  clear hw6
  clear x0 x1 x2 x3
  go_wp2_with fail
  · rw [HW6.out]
    refine HMC.out.mono ?_
    rintro e w7 ⟨rfl, hf⟩
    have HF7 := hid (HF6.out.then_ hf (fun _ _ h => h))
    rw [HMV.out]
    clear hf y0 y1 y2 y3
    go_wp2_with fail
    go_ret
    exact ⟨rfl, HF2.out.trans HF7.out⟩

set_option maxRecDepth 100000 in
set_option maxHeartbeats 8000000 in
theorem law_121 (m : Nat) (n lo hi : Int) (hn : n = (-1 - (m : Int))) (hm : m < 9223372036854775808) (hlo : -9223372036854775808 ≤ lo ∧ lo ≤ 9223372036854775807) (hhi : -9223372036854775808 ≤ hi ∧ hi ≤ 9223372036854775807) (hle : lo = hi) (hout : ¬ lo ≤ n) (w : World) (hD : Dbl w) :
    Calls Tryd.prog 9 #[.int .i64 n, .int .i64 lo, .int .i64 hi] w fun e w' => e = .returned (.bool true) ∧ Fr (fun _ => False) w w' := by
  have HDD := hid hD
  have HNE := hid hn
  obtain ⟨z, hz1, hz2⟩ : ∃ z : Nat, IntKind.u64.wrap n = (z : Int) ∧ z < 18446744073709551616 := ⟨18446744073709551615 - m, by rw [hn, IntKind.wrap_u64]; omega, by omega⟩
  obtain ⟨b, hb1, hb2⟩ := or_high z hz2
  have hs1 : n < 0 := by omega
  have HBB := hid hb2
  have HPR := hid (show numP 0 b = (0, false) by rw [numP, if_pos hb2])
  have HPX := hid (show numP 1 m = (n, true) by rw [numP, if_neg (by omega), if_neg (by omega), if_pos rfl, hn])
  have HP3 := hid (show numP 3 0 = (0, false) by rw [numP, if_neg (by omega), if_neg (by omega), if_neg (by omega)])
  subst hle
  have hle' : lo ≤ lo := by omega
  
  
  have HMV := hid (show matV (nd1 lo lo) 0 (.mk 1 m em []) = false by
    rw [mat_num hle' m (by omega), num_eq, HPX.out]
    simp
    omega)
  have g1 : decide (lo ≤ n) = false := decide_eq_false (by omega)
  have g1b : decide (n ≥ lo) = false := decide_eq_false (by omega)
  
  have hw1 : IntKind.i64.wrap (-1 - n) = (m : Int) := by rw [i64_in _ (by omega)]; omega
  have hw2 : IntKind.u64.wrap (m : Int) = (m : Int) := u64_in _ (by omega)
  clear hD hn hb2
  go_enter Tryd.func9, Tryd.ntmps9
  go_wp2_with fail
  refine (DenY.awake_calls w HDD.out).mono ?_
  rintro e w1 ⟨rfl, hf⟩
  have HF1 := hid hf
  clear hf
  obtain ⟨w2, hw2⟩ : ∃ w2, w1.alloc (.cells #[.int .i64 1, .int .u64 (m : Int), .string { data := #[] }, .slice none 0 0] 25) = w2 := ⟨_, rfl⟩
  have HF2 := hid (show Fr (fun _ => False) w w2 by rw [← hw2]; exact HF1.out.alloc _)
  have HB2 := hid (show Blk w2 w1.heap.size 25 #[.int .i64 1, .int .u64 (m : Int), .string { data := #[] }, .slice none 0 0] by rw [← hw2]; exact Blk.new _ _ _)
  have HW2 := hid hw2
  clear hw2
  go_wp2_with fail
  rw [HW2.out]
  refine (number_calls 1 m { data := #[] } none 0 0 w2).mono ?_
  rintro e w3 ⟨rfl, hf⟩
  have HF3 := hid hf
  rw [HPX.out]
  clear hf
  go_wp2_with fail
  refine (number_calls 0 b { data := #[] } none 0 0 w3).mono ?_
  rintro e w4 ⟨rfl, hf⟩
  have HF4 := hid (HF3.out.then_ hf (fun _ _ h => h))
  rw [HPR.out]
  clear hf
  go_wp2_with fail
  refine (number_calls 3 0 { data := #[] } none 0 0 w4).mono ?_
  rintro e w5 ⟨rfl, hf⟩
  have HF5 := hid (HF4.out.then_ hf (fun _ _ h => h))
  rw [HP3.out]
  clear hf
  obtain ⟨w6, hw6⟩ : ∃ w6, (w5.alloc (.cells #[.int .i64 1, .int .i64 lo, .int .i64 lo, .int .i64 0, .int .u64 0, .string { data := #[] }, .slice none 0 0, .slice none 0 0, .slice none 0 0] 54)).alloc (.cells #[.slice (some ⟨w5.heap.size, 0, none⟩) 1 1] 42) = w6 := ⟨_, rfl⟩
  have HF6 := hid (show Fr (fun _ => False) w2 w6 by rw [← hw6]; exact (HF5.out.alloc _).alloc _)
  have HBN := hid (show Blk w6 w5.heap.size 54 #[.int .i64 1, .int .i64 lo, .int .i64 lo, .int .i64 0, .int .u64 0, .string { data := #[] }, .slice none 0 0, .slice none 0 0, .slice none 0 0] by rw [← hw6]; exact (Blk.new _ _ _).alloc _)
  have HAT := hid (nd1_at w6 w5.heap.size lo lo hlo hlo HBN.out)
  have HIT := hid (show ItAt w6 0 0 (.mk 1 m em []) [.int .i64 1, .int .u64 (m : Int), .string { data := #[] }, .slice none 0 0] from ⟨none, 0, rfl, by simp, by omega, by omega, by decide, by simp, trivial⟩)
  have HW6 := hid hw6
  have x0 := (HB2.out.fr HF5.out (fun h => h)).cell 0
  have x1 := (HB2.out.fr HF5.out (fun h => h)).cell 1
  have x2 := (HB2.out.fr HF5.out (fun h => h)).cell 2
  have x3 := (HB2.out.fr HF5.out (fun h => h)).cell 3
  simp at x0 x1 x2 x3
  have y0 := fun o o' => cell_a (cell_a x0 o) o'
  have y1 := fun o o' => cell_a (cell_a x1 o) o'
  have y2 := fun o o' => cell_a (cell_a x2 o) o'
  have y3 := fun o o' => cell_a (cell_a x3 o) o'
  have HMC := hid (mat_calls (nd1 lo lo) (some ⟨w5.heap.size, 0, none⟩) 1 1 0 w6 (HDD.out.fr0 (HF2.out.trans HF6.out)) rfl (Nat.le_refl _) (by omega) HAT.out 0 (.mk 1 m em []) (show (1 : Nat) ≤ 2000000 by omega) 0 0 _ (Nat.zero_le _) HIT.out)
  clear hw6
  clear x0 x1 x2 x3
  go_wp2_with fail
  · rw [HW6.out]
    refine HMC.out.mono ?_
    rintro e w7 ⟨rfl, hf⟩
    have HF7 := hid (HF6.out.then_ hf (fun _ _ h => h))
    rw [HMV.out]
    clear hf y0 y1 y2 y3
    go_wp2_with fail
    go_ret
    exact ⟨rfl, HF2.out.trans HF7.out⟩

set_option maxRecDepth 100000 in
set_option maxHeartbeats 8000000 in
theorem law_122 (m : Nat) (n lo hi : Int) (hn : n = (-1 - (m : Int))) (hm : m < 9223372036854775808) (hlo : -9223372036854775808 ≤ lo ∧ lo ≤ 9223372036854775807) (hhi : -9223372036854775808 ≤ hi ∧ hi ≤ 9223372036854775807) (hle : lo = hi) (hout : lo ≤ n ∧ ¬ n ≤ lo) (w : World) (hD : Dbl w) :
    Calls Tryd.prog 9 #[.int .i64 n, .int .i64 lo, .int .i64 hi] w fun e w' => e = .returned (.bool true) ∧ Fr (fun _ => False) w w' := by
  have HDD := hid hD
  have HNE := hid hn
  obtain ⟨z, hz1, hz2⟩ : ∃ z : Nat, IntKind.u64.wrap n = (z : Int) ∧ z < 18446744073709551616 := ⟨18446744073709551615 - m, by rw [hn, IntKind.wrap_u64]; omega, by omega⟩
  obtain ⟨b, hb1, hb2⟩ := or_high z hz2
  have hs1 : n < 0 := by omega
  have HBB := hid hb2
  have HPR := hid (show numP 0 b = (0, false) by rw [numP, if_pos hb2])
  have HPX := hid (show numP 1 m = (n, true) by rw [numP, if_neg (by omega), if_neg (by omega), if_pos rfl, hn])
  have HP3 := hid (show numP 3 0 = (0, false) by rw [numP, if_neg (by omega), if_neg (by omega), if_neg (by omega)])
  subst hle
  have hle' : lo ≤ lo := by omega
  
  
  have HMV := hid (show matV (nd1 lo lo) 0 (.mk 1 m em []) = false by
    rw [mat_num hle' m (by omega), num_eq, HPX.out]
    simp
    omega)
  have g1 : lo ≤ n := by omega
  have g1b : n ≥ lo := by omega
  have g2 : decide (n ≤ lo) = false := decide_eq_false (by omega)
  have hw1 : IntKind.i64.wrap (-1 - n) = (m : Int) := by rw [i64_in _ (by omega)]; omega
  have hw2 : IntKind.u64.wrap (m : Int) = (m : Int) := u64_in _ (by omega)
  clear hD hn hb2
  go_enter Tryd.func9, Tryd.ntmps9
  go_wp2_with fail
  refine (DenY.awake_calls w HDD.out).mono ?_
  rintro e w1 ⟨rfl, hf⟩
  have HF1 := hid hf
  clear hf
  obtain ⟨w2, hw2⟩ : ∃ w2, w1.alloc (.cells #[.int .i64 1, .int .u64 (m : Int), .string { data := #[] }, .slice none 0 0] 25) = w2 := ⟨_, rfl⟩
  have HF2 := hid (show Fr (fun _ => False) w w2 by rw [← hw2]; exact HF1.out.alloc _)
  have HB2 := hid (show Blk w2 w1.heap.size 25 #[.int .i64 1, .int .u64 (m : Int), .string { data := #[] }, .slice none 0 0] by rw [← hw2]; exact Blk.new _ _ _)
  have HW2 := hid hw2
  clear hw2
  go_wp2_with fail
  rw [HW2.out]
  refine (number_calls 1 m { data := #[] } none 0 0 w2).mono ?_
  rintro e w3 ⟨rfl, hf⟩
  have HF3 := hid hf
  rw [HPX.out]
  clear hf
  go_wp2_with fail
  refine (number_calls 0 b { data := #[] } none 0 0 w3).mono ?_
  rintro e w4 ⟨rfl, hf⟩
  have HF4 := hid (HF3.out.then_ hf (fun _ _ h => h))
  rw [HPR.out]
  clear hf
  go_wp2_with fail
  refine (number_calls 3 0 { data := #[] } none 0 0 w4).mono ?_
  rintro e w5 ⟨rfl, hf⟩
  have HF5 := hid (HF4.out.then_ hf (fun _ _ h => h))
  rw [HP3.out]
  clear hf
  obtain ⟨w6, hw6⟩ : ∃ w6, (w5.alloc (.cells #[.int .i64 1, .int .i64 lo, .int .i64 lo, .int .i64 0, .int .u64 0, .string { data := #[] }, .slice none 0 0, .slice none 0 0, .slice none 0 0] 54)).alloc (.cells #[.slice (some ⟨w5.heap.size, 0, none⟩) 1 1] 42) = w6 := ⟨_, rfl⟩
  have HF6 := hid (show Fr (fun _ => False) w2 w6 by rw [← hw6]; exact (HF5.out.alloc _).alloc _)
  have HBN := hid (show Blk w6 w5.heap.size 54 #[.int .i64 1, .int .i64 lo, .int .i64 lo, .int .i64 0, .int .u64 0, .string { data := #[] }, .slice none 0 0, .slice none 0 0, .slice none 0 0] by rw [← hw6]; exact (Blk.new _ _ _).alloc _)
  have HAT := hid (nd1_at w6 w5.heap.size lo lo hlo hlo HBN.out)
  have HIT := hid (show ItAt w6 0 0 (.mk 1 m em []) [.int .i64 1, .int .u64 (m : Int), .string { data := #[] }, .slice none 0 0] from ⟨none, 0, rfl, by simp, by omega, by omega, by decide, by simp, trivial⟩)
  have HW6 := hid hw6
  have x0 := (HB2.out.fr HF5.out (fun h => h)).cell 0
  have x1 := (HB2.out.fr HF5.out (fun h => h)).cell 1
  have x2 := (HB2.out.fr HF5.out (fun h => h)).cell 2
  have x3 := (HB2.out.fr HF5.out (fun h => h)).cell 3
  simp at x0 x1 x2 x3
  have y0 := fun o o' => cell_a (cell_a x0 o) o'
  have y1 := fun o o' => cell_a (cell_a x1 o) o'
  have y2 := fun o o' => cell_a (cell_a x2 o) o'
  have y3 := fun o o' => cell_a (cell_a x3 o) o'
  have HMC := hid (mat_calls (nd1 lo lo) (some ⟨w5.heap.size, 0, none⟩) 1 1 0 w6 (HDD.out.fr0 (HF2.out.trans HF6.out)) rfl (Nat.le_refl _) (by omega) HAT.out 0 (.mk 1 m em []) (show (1 : Nat) ≤ 2000000 by omega) 0 0 _ (Nat.zero_le _) HIT.out)
  clear hw6
  clear x0 x1 x2 x3
  go_wp2_with fail
  · rw [HW6.out]
    refine HMC.out.mono ?_
    rintro e w7 ⟨rfl, hf⟩
    have HF7 := hid (HF6.out.then_ hf (fun _ _ h => h))
    rw [HMV.out]
    clear hf y0 y1 y2 y3
    go_wp2_with fail
    go_ret
    exact ⟨rfl, HF2.out.trans HF7.out⟩

theorem law_calls (n lo hi : Int) (hn : -9223372036854775808 ≤ n ∧ n ≤ 9223372036854775807) (hlo : -9223372036854775808 ≤ lo ∧ lo ≤ 9223372036854775807) (hhi : -9223372036854775808 ≤ hi ∧ hi ≤ 9223372036854775807) (w : World) (hD : Dbl w) :
    Calls Tryd.prog 9 #[.int .i64 n, .int .i64 lo, .int .i64 hi] w fun e w' => e = .returned (.bool true) ∧ Fr (fun _ => False) w w' := by
  by_cases h0 : 0 ≤ n
  · obtain ⟨m, hm⟩ : ∃ m : Nat, n = (m : Int) := ⟨n.toNat, by omega⟩
    rcases Int.lt_trichotomy lo hi with h | h | h
    · by_cases g1 : lo ≤ n
      · by_cases g2 : n ≤ hi
        · exact law_000 m n lo hi hm (by omega) hlo hhi h ⟨g1, g2⟩ w hD
        · exact law_002 m n lo hi hm (by omega) hlo hhi h ⟨g1, g2⟩ w hD
      · exact law_001 m n lo hi hm (by omega) hlo hhi h g1 w hD
    · by_cases g1 : lo ≤ n
      · by_cases g2 : n ≤ lo
        · exact law_020 m n lo hi hm (by omega) hlo hhi h ⟨g1, g2⟩ w hD
        · exact law_022 m n lo hi hm (by omega) hlo hhi h ⟨g1, g2⟩ w hD
      · exact law_021 m n lo hi hm (by omega) hlo hhi h g1 w hD
    · by_cases g1 : hi ≤ n
      · by_cases g2 : n ≤ lo
        · exact law_010 m n lo hi hm (by omega) hlo hhi h ⟨g1, g2⟩ w hD
        · exact law_012 m n lo hi hm (by omega) hlo hhi h ⟨g1, g2⟩ w hD
      · exact law_011 m n lo hi hm (by omega) hlo hhi h g1 w hD
  · obtain ⟨m, hm⟩ : ∃ m : Nat, n = -1 - (m : Int) := ⟨(-1 - n).toNat, by omega⟩
    rcases Int.lt_trichotomy lo hi with h | h | h
    · by_cases g1 : lo ≤ n
      · by_cases g2 : n ≤ hi
        · exact law_100 m n lo hi hm (by omega) hlo hhi h ⟨g1, g2⟩ w hD
        · exact law_102 m n lo hi hm (by omega) hlo hhi h ⟨g1, g2⟩ w hD
      · exact law_101 m n lo hi hm (by omega) hlo hhi h g1 w hD
    · by_cases g1 : lo ≤ n
      · by_cases g2 : n ≤ lo
        · exact law_120 m n lo hi hm (by omega) hlo hhi h ⟨g1, g2⟩ w hD
        · exact law_122 m n lo hi hm (by omega) hlo hhi h ⟨g1, g2⟩ w hD
      · exact law_121 m n lo hi hm (by omega) hlo hhi h g1 w hD
    · by_cases g1 : hi ≤ n
      · by_cases g2 : n ≤ lo
        · exact law_110 m n lo hi hm (by omega) hlo hhi h ⟨g1, g2⟩ w hD
        · exact law_112 m n lo hi hm (by omega) hlo hhi h ⟨g1, g2⟩ w hD
      · exact law_111 m n lo hi hm (by omega) hlo hhi h g1 w hD
end Go.Proofs.YtkmgiodhaaajjaaDoor.DenZ

namespace Go.Proofs.YtkmgiodhaaajjaaDoor.DenW
open Go.ChangeShapes Go.RowKit Go.Proofs.YtkmgiodhaaajjaaDoor.Mem
theorem num_law (n lo hi : Int) (W : World) (hn : (Lit.int .i64 n).wf = true) (hlo : (Lit.int .i64 lo).wf = true) (hhi : (Lit.int .i64 hi).wf = true) (hL : laidMetH Tryd.prog Rows.denoteNumbersRow.laid W) :
    Calls Tryd.prog 9 #[.int .i64 n, .int .i64 lo, .int .i64 hi] W fun e W' => e = .returned (.bool true) ∧ Below W.heap.size W W' :=
  (DenZ.law_calls n lo hi (RowItem.rng_i hn) (RowItem.rng_i hlo) (RowItem.rng_i hhi) W (Dbl.dbl hL)).mono fun e w' h => ⟨h.1, h.2.toBelow (fun _ _ h => h)⟩
end Go.Proofs.YtkmgiodhaaajjaaDoor.DenW
