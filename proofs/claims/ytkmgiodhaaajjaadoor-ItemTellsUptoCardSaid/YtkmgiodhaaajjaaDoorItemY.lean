/- Layer item: the law's own: awake. -/
import Derived.Test.YtkmgiodhaaajjaaDoorItemX
import Derived.Test.YtkmgiodhaaajjaaDoorItemW
set_option linter.unusedVariables false
set_option linter.unusedSimpArgs false
namespace Go.Proofs.YtkmgiodhaaajjaaDoor.ItemY
open Go.IntWalk Go.RowKit Go.Proofs.YtkmgiodhaaajjaaDoor.Mem Go.Proofs.YtkmgiodhaaajjaaDoor.App Go.Proofs.YtkmgiodhaaajjaaDoor.UtfP Go.Proofs.YtkmgiodhaaajjaaDoor.FloatP Go.Proofs.YtkmgiodhaaajjaaDoor.FloatB Go.Proofs.YtkmgiodhaaajjaaDoor.ItemP Go.Proofs.YtkmgiodhaaajjaaDoor.ItemM Go.Proofs.YtkmgiodhaaajjaaDoor.Own Go.Proofs.YtkmgiodhaaajjaaDoor.ItemA Go.Proofs.YtkmgiodhaaajjaaDoor.ItemB Go.Proofs.YtkmgiodhaaajjaaDoor.ItemE Go.Proofs.YtkmgiodhaaajjaaDoor.Range Go.Proofs.YtkmgiodhaaajjaaDoor.ItemT Go.Proofs.YtkmgiodhaaajjaaDoor.ItemU Go.Proofs.YtkmgiodhaaajjaaDoor.ItemW Go.Proofs.YtkmgiodhaaajjaaDoor.ItemS Go.Proofs.YtkmgiodhaaajjaaDoor.ItemQ Go.Proofs.YtkmgiodhaaajjaaDoor.ItemX

/-- The document's example. -/
def ex1 : It := .mk 0 1 { data := #[] } []
def ex2 : It := .mk 5 0 { data := #[] } []
def ex : It := .mk 4 0 { data := #[] } [ex1, ex2]
theorem dup_nil : ¬ dup [] := fun ⟨i, j, _, h, _⟩ => by simp at h
theorem wrong_ex1 : ex1.wrong = 0 := by unfold ex1; exact wrong_no (by rfl) (by omega) (by omega) (by omega) (by omega)
theorem wrong_ex2 : ex2.wrong = 0 := by unfold ex2; rw [wrong_5 (by rfl), if_neg dup_nil]
theorem wrong_ex : ex.wrong = 0 := by unfold ex; exact wrong_no (by rfl) (by omega) (by omega) (by omega) (by omega)
theorem check_ex : ex.check = 0 := by
  have hd : ex.depth = 2 := by rfl
  have ha : ex.all 1 = [(ex, 1), (ex1, 2), (ex2, 2)] := by rfl
  rw [It.check, if_neg (by omega), ha, firstW, if_neg (by simp [wrong_ex]), firstW, if_neg (by simp [wrong_ex1]), firstW, if_neg (by simp [wrong_ex2]), firstW]
theorem ex_at (w : World) (g : Nat) (hb : Blk w g 25 #[.int .i64 0, .int .u64 1, .string { data := #[] }, .slice none 0 0, .int .i64 5, .int .u64 0, .string { data := #[] }, .slice none 0 0]) :
    ItAt w g (g + 1) ex [.int .i64 4, .int .u64 0, .string { data := #[] }, .slice (some ⟨g, 0, none⟩) 2 2] := by
  have e1 : ItAt w g (g + 1) ex1 [.int .i64 0, .int .u64 1, .string { data := #[] }, .slice none 0 0] := ⟨none, 0, rfl, by simp, by omega, by omega, by decide, by simp, trivial⟩
  have e2 : ItAt w g (g + 1) ex2 [.int .i64 5, .int .u64 0, .string { data := #[] }, .slice none 0 0] := ⟨none, 0, rfl, by simp, by omega, by omega, by decide, by simp, trivial⟩
  refine ⟨some ⟨g, 0, none⟩, 2, rfl, by simp, by omega, by omega, by decide, by simp, ⟨⟨⟨g, 0, none⟩, _, rfl, Nat.le_refl _, by show g < g + 1; omega, fun j hj => ?_, e1⟩, ⟨⟨g, 0, none⟩, _, rfl, Nat.le_refl _, by show g < g + 1; omega, fun j hj => ?_, e2⟩, trivial⟩⟩
  · rw [add_plain, hb.cell]
    have : j = 0 ∨ j = 1 ∨ j = 2 ∨ j = 3 := by omega
    rcases this with rfl | rfl | rfl | rfl <;> rfl
  · rw [add_plain, hb.cell]
    have : j = 0 ∨ j = 1 ∨ j = 2 ∨ j = 3 := by omega
    rcases this with rfl | rfl | rfl | rfl <;> rfl

set_option maxRecDepth 100000 in
set_option maxHeartbeats 4000000 in
theorem awake_calls (w : World) (hD : Dbl w) : Calls Tryd.prog 14 #[] w fun e w' => e = .returned (.bool true) ∧ Fr (fun _ => False) w w' := by
  obtain ⟨w1, hw1⟩ : ∃ w1, (w.alloc (.cells #[.int .i64 0, .int .u64 1, .string { data := #[] }, .slice none 0 0, .int .i64 5, .int .u64 0, .string { data := #[] }, .slice none 0 0] 25)).alloc (.cells #[.int .i64 4, .int .u64 0, .string { data := #[] }, .slice (some ⟨w.heap.size, 0, none⟩) 2 2] 25) = w1 := ⟨_, rfl⟩
  have HF1 := hid (show Fr (fun _ => False) w w1 by rw [← hw1]; exact ((Fr.refl _ w).alloc _).alloc _)
  have HB1 := hid (show Blk w1 w.heap.size 25 #[.int .i64 0, .int .u64 1, .string { data := #[] }, .slice none 0 0, .int .i64 5, .int .u64 0, .string { data := #[] }, .slice none 0 0] by rw [← hw1]; exact (Blk.new w _ _).alloc _)
  have HB2 := hid (show Blk w1 (w.heap.size + 1) 25 #[.int .i64 4, .int .u64 0, .string { data := #[] }, .slice (some ⟨w.heap.size, 0, none⟩) 2 2] by rw [← hw1]; have := Blk.new (w.alloc (.cells #[.int .i64 0, .int .u64 1, .string { data := #[] }, .slice none 0 0, .int .i64 5, .int .u64 0, .string { data := #[] }, .slice none 0 0] 25)) 25 #[.int .i64 4, .int .u64 0, .string { data := #[] }, .slice (some ⟨w.heap.size, 0, none⟩) 2 2]; rwa [World.size_alloc] at this)
  have HW1 := hid hw1
  have HAT := hid (ex_at w1 w.heap.size HB1.out)
  have HSZ := hid HB1.out.lt
  have HDD := hid (hD.fr0 HF1.out)
  have c0 := HB2.out.cell 0
  have c1 := HB2.out.cell 1
  have c2 := HB2.out.cell 2
  have c3 := HB2.out.cell 3
  simp at c0 c1 c2 c3
  clear hw1 hD
  go_enter Tryd.func14, Tryd.ntmps14
  go_wp2_with fail
  rw [HW1.out]
  go_wp2_with fail
  refine (depth_calls 2000000 ex (by decide) (Nat.le_refl _) w.heap.size (w.heap.size + 1) _ w1 HSZ.out HAT.out).mono ?_
  rintro e w2 ⟨rfl, hf⟩
  have HF2 := hid hf
  have d0 := cell_fr c0 hf
  have d1 := cell_fr c1 hf
  have d2 := cell_fr c2 hf
  have d3 := cell_fr c3 hf
  rw [show ex.depth = 2 from rfl]
  clear hf c0 c1 c2 c3
  go_wp2_with fail
  refine (size_calls 2000000 ex (by decide) (Nat.le_refl _) w.heap.size (w.heap.size + 1) _ w2 (Nat.le_trans HSZ.out HF2.out.size) (HAT.out.fr0 HF2.out HSZ.out)).mono ?_
  rintro e w3 ⟨rfl, hf⟩
  have HF3 := hid (HF2.out.then_ hf (fun _ _ h => h))
  have e0 := cell_fr d0 hf
  have e1 := cell_fr d1 hf
  have e2 := cell_fr d2 hf
  have e3 := cell_fr d3 hf
  rw [show ex.size = 3 from rfl]
  clear hf d0 d1 d2 d3
  go_wp2_with fail
  refine (check_calls ex (by decide) w.heap.size (w.heap.size + 1) _ w3 (Nat.le_trans HSZ.out HF3.out.size) (HDD.out.fr0 HF3.out) (HAT.out.fr0 HF3.out HSZ.out)).mono ?_
  rintro e w4 ⟨rfl, hf⟩
  have HF4 := hid (HF3.out.then_ hf (fun _ _ h => h))
  rw [check_ex]
  clear hf e0 e1 e2 e3
  go_wp2_with fail
  go_ret
  exact ⟨rfl, HF1.out.trans HF4.out⟩
end Go.Proofs.YtkmgiodhaaajjaaDoor.ItemY
