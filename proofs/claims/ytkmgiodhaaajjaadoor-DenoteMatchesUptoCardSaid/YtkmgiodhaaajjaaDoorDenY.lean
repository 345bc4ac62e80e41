/- Layer denote: the laws are awake. -/
import Derived.Test.YtkmgiodhaaajjaaDoorDenG
import Derived.Deep.RegionHeld3
set_option linter.unusedVariables false
set_option linter.unusedSimpArgs false
namespace Go.Proofs.YtkmgiodhaaajjaaDoor.DenY
open Go.Proofs.YtkmgiodhaaajjaaDoor.UtfP Go.IntWalk Go.RowKit Go.Proofs.YtkmgiodhaaajjaaDoor.Mem Go.Proofs.YtkmgiodhaaajjaaDoor.App Go.Proofs.YtkmgiodhaaajjaaDoor.FloatB Go.Proofs.YtkmgiodhaaajjaaDoor.ItemP Go.Proofs.YtkmgiodhaaajjaaDoor.ItemM Go.Proofs.YtkmgiodhaaajjaaDoor.ItemB Go.Proofs.YtkmgiodhaaajjaaDoor.ItemE Go.Proofs.YtkmgiodhaaajjaaDoor.SchP Go.Proofs.YtkmgiodhaaajjaaDoor.SchM Go.Proofs.YtkmgiodhaaajjaaDoor.SchG Go.Proofs.YtkmgiodhaaajjaaDoor.SchI Go.Proofs.YtkmgiodhaaajjaaDoor.SchJ Go.Proofs.YtkmgiodhaaajjaaDoor.DenP Go.Proofs.YtkmgiodhaaajjaaDoor.DenG

theorem sizeItem : (Tryd.prog.info? 25).map (·.size) = some 4 := by kernel_rfl
theorem noIt_r (w : World) (h : Nat) (n : Nod) (hh : h ≤ w.heap.size) {Al Af : Option Addr} {cl cf : Nat} (hv : n.v = noIt) (hl : RdI .i64 w Al n.l) (hf : RdF w Af n.f) (lc : n.l.length ≤ cl) (fc : n.f.length ≤ cf) (lm : n.l.length ≤ 1048576) (fm : n.f.length ≤ 1048576) (kr : -9223372036854775808 ≤ n.k ∧ n.k ≤ 9223372036854775807) (lor : -9223372036854775808 ≤ n.lo ∧ n.lo ≤ 9223372036854775807) (hir : -9223372036854775808 ≤ n.hi ∧ n.hi ≤ 9223372036854775807)
    (ln : ∀ x ∈ n.l, -9223372036854775808 ≤ x ∧ x ≤ 9223372036854775807) : NdR w h n none 0 Al cl Af cf :=
  ⟨hh, by rw [hv]; exact noIt_at w h, hl, hf, lc, fc, lm, fm, by rw [hv]; decide, kr, lor, hir, ln⟩
theorem nine_cases {j : Nat} (h : j < 9) : j = 0 ∨ j = 1 ∨ j = 2 ∨ j = 3 ∨ j = 4 ∨ j = 5 ∨ j = 6 ∨ j = 7 ∨ j = 8 := by omega
/-- The document's example: a record of two fields, and a number. -/
def exD : List Nod := [⟨8, 0, 0, noIt, [], [⟨{ data := #[97] }, 1, false⟩, ⟨{ data := #[98] }, 1, true⟩]⟩, ⟨1, 0, 5, noIt, [], []⟩]
def k1 (key : ByteArray) : It := .mk 3 0 key []
def k2 : It := .mk 0 1 { data := #[] } []
def mD (key : ByteArray) : It := .mk 5 0 { data := #[] } [k1 key, k2]
theorem va : validS { data := #[97] } = true := by decide +kernel
theorem vb : validS { data := #[98] } = true := by decide +kernel
theorem exD_check : checkS exD = (0, 0) := by
  have hne : ¬ ({ data := #[97] } : ByteArray) = { data := #[98] } := by decide
  have h0 : (⟨8, 0, 0, noIt, [], [⟨{ data := #[97] }, 1, false⟩, ⟨{ data := #[98] }, 1, true⟩]⟩ : Nod).wrong 0 2 = 0 := by
    simp [Nod.wrong, Nod.formB, Nod.ok, Nod.bare, Nod.bounds, keysE, va, vb, hne, Nod.named, badN]
    try decide
  have h1 : (⟨1, 0, 5, noIt, [], []⟩ : Nod).wrong 1 2 = 0 := by simp [Nod.wrong, Nod.formB, Nod.ok, Nod.bare, Nod.bounds, keysE, Nod.named, badN]
  rw [checkS, if_neg (by decide)]
  show checkFrom exD 0 2 = _
  rw [exD, checkFrom, if_neg (by rw [h0]; simp), checkFrom, if_neg (by rw [h1]; simp)]
  rfl
theorem mD_check (key : ByteArray) (h : validS key = true) : (mD key).check = 0 := by
  have hd : (mD key).depth = 2 := by rfl
  have ha : (mD key).all 1 = [(mD key, 1), (k1 key, 2), (k2, 2)] := by rfl
  have w1 : (mD key).wrong = 0 := by
    unfold mD
    rw [wrong_5 (by simp [It.form] <;> rfl), if_neg]
    rintro ⟨i, j, h1, h2, _⟩
    simp at h2
    omega
  have w2 : (k1 key).wrong = 0 := by
    unfold It.wrong k1
    simp [It.form, It.k, It.n, It.s, It.l, h]
  have w3 : k2.wrong = 0 := by unfold k2; exact wrong_no (by rfl) (by omega) (by omega) (by omega) (by omega)
  rw [It.check, if_neg (by omega), ha, firstW, if_neg (by simp [w1]), firstW, if_neg (by simp [w2]), firstW, if_neg (by simp [w3]), firstW]
theorem isa : isV exD 0 (mD { data := #[97] }) = true := by decide +kernel
theorem isb : isV exD 0 (mD { data := #[98] }) = false := by decide +kernel
theorem sch_a : schV exD (mD { data := #[97] }) = (true, 0) := by unfold schV; rw [exD_check, mD_check _ va, isa]; rfl
theorem sch_b : schV exD (mD { data := #[98] }) = (false, 0) := by unfold schV; rw [exD_check, mD_check _ vb, isb]; rfl
theorem exD_at (w1 : World) (f g : Nat) (h1 : Blk w1 f 111 #[.string { data := #[97] }, .int .i64 1, .bool false, .string { data := #[98] }, .int .i64 1, .bool true]) (h3 : Blk w1 g 54 #[.int .i64 8, .int .i64 0, .int .i64 0, .int .i64 0, .int .u64 0, .string { data := #[] }, .slice none 0 0, .slice none 0 0, .slice (some ⟨f, 0, none⟩) 2 2, .int .i64 1, .int .i64 0, .int .i64 5, .int .i64 0, .int .u64 0, .string { data := #[] }, .slice none 0 0, .slice none 0 0, .slice none 0 0]) : RdN w1 0 (some ⟨g, 0, none⟩) exD := by
  have r1 : RdF w1 (some ⟨f, 0, none⟩) [⟨{ data := #[97] }, 1, false⟩, ⟨{ data := #[98] }, 1, true⟩] := by
    intro i hi
    have hi2 : i = 0 ∨ i = 1 := by simp at hi; omega
    rcases hi2 with rfl | rfl
    · exact ⟨⟨f, 0, none⟩, rfl, h1.lt, (show (1 : Nat) ≤ 140737488355328 by decide), (show -9223372036854775808 ≤ (1 : Int) ∧ (1 : Int) ≤ 9223372036854775807 by decide), by rw [add_plain, h1.cell]; rfl, by rw [add_plain]; exact h1.cell 1, by rw [add_plain]; exact h1.cell 2⟩
    · exact ⟨⟨f, 0, none⟩, rfl, h1.lt, (show (1 : Nat) ≤ 140737488355328 by decide), (show -9223372036854775808 ≤ (1 : Int) ∧ (1 : Int) ≤ 9223372036854775807 by decide), by rw [add_plain, h1.cell]; rfl, by rw [add_plain]; exact h1.cell 4, by rw [add_plain]; exact h1.cell 5⟩
  intro i hi
  have hi3 : i = 0 ∨ i = 1 := by simp [exD] at hi; omega
  rcases hi3 with rfl | rfl
  · refine ⟨⟨g, 0, none⟩, none, 0, none, 0, some ⟨f, 0, none⟩, 2, rfl, h3.lt, fun j hj => ?_, noIt_r w1 0 _ (Nat.zero_le _) rfl (rdI_nil _ _ _) r1 (by simp [exD]) (by simp [exD]) (by simp [exD]) (by simp [exD]) (by simp [exD]) (by simp [exD]) (by simp [exD]) (by simp [exD])⟩
    rw [add_plain, h3.cell]
    rcases nine_cases hj with rfl | rfl | rfl | rfl | rfl | rfl | rfl | rfl | rfl <;> rfl
  · refine ⟨⟨g, 0, none⟩, none, 0, none, 0, none, 0, rfl, h3.lt, fun j hj => ?_, noIt_r w1 0 _ (Nat.zero_le _) rfl (rdI_nil _ _ _) (RdF.nil _ _) (by simp [exD]) (by simp [exD]) (by simp [exD]) (by simp [exD]) (by simp [exD]) (by simp [exD]) (by simp [exD]) (by simp [exD])⟩
    rw [add_plain, h3.cell]
    rcases nine_cases hj with rfl | rfl | rfl | rfl | rfl | rfl | rfl | rfl | rfl <;> rfl
theorem mD_at (w : World) (g : Nat) (key : ByteArray) (hk : key.size ≤ 140737488355328) (hb : Blk w g 25 #[.int .i64 3, .int .u64 0, .string key, .slice none 0 0, .int .i64 0, .int .u64 1, .string { data := #[] }, .slice none 0 0]) :
    ItAt w 0 w.heap.size (mD key) [.int .i64 5, .int .u64 0, .string { data := #[] }, .slice (some ⟨g, 0, none⟩) 2 2] := by
  have hl := hb.lt
  have e1 : ItAt w 0 w.heap.size (k1 key) [.int .i64 3, .int .u64 0, .string key, .slice none 0 0] := ⟨none, 0, rfl, by simp, by omega, by omega, hk, by simp, trivial⟩
  have e2 : ItAt w 0 w.heap.size k2 [.int .i64 0, .int .u64 1, .string { data := #[] }, .slice none 0 0] := ⟨none, 0, rfl, by simp, by omega, by omega, by decide, by simp, trivial⟩
  refine ⟨some ⟨g, 0, none⟩, 2, rfl, by simp, by omega, by omega, by decide, by simp, ⟨⟨⟨g, 0, none⟩, _, rfl, Nat.zero_le _, hl, fun j hj => ?_, e1⟩, ⟨⟨g, 0, none⟩, _, rfl, Nat.zero_le _, hl, fun j hj => ?_, e2⟩, trivial⟩⟩
  · rw [add_plain, hb.cell]
    have : j = 0 ∨ j = 1 ∨ j = 2 ∨ j = 3 := by omega
    rcases this with rfl | rfl | rfl | rfl <;> rfl
  · rw [add_plain, hb.cell]
    have : j = 0 ∨ j = 1 ∨ j = 2 ∨ j = 3 := by omega
    rcases this with rfl | rfl | rfl | rfl <;> rfl

set_option maxRecDepth 100000 in
set_option maxHeartbeats 4000000 in
theorem aw1_calls (key : ByteArray) (hk : key.size ≤ 140737488355328) (w : World) : Calls Tryd.prog 82 #[.string key] w fun e w' => ∃ g, e = .returned (.agg #[.int .i64 5, .int .u64 0, .string { data := #[] }, .slice (some ⟨g, 0, none⟩) 2 2]) ∧ ItAt w' 0 w'.heap.size (mD key) [.int .i64 5, .int .u64 0, .string { data := #[] }, .slice (some ⟨g, 0, none⟩) 2 2] ∧ Fr (fun _ => False) w w' := by
  go_enter Tryd.func82, Tryd.ntmps82
  go_wp2_with fail
  obtain ⟨w1, hw1⟩ : ∃ w1, (w.alloc (.cells #[.int .i64 5, .int .u64 0, .string { data := #[] }, .slice (some ⟨w.heap.size + 1, 0, none⟩) 2 2] 25)).alloc (.cells #[.int .i64 3, .int .u64 0, .string key, .slice none 0 0, .int .i64 0, .int .u64 1, .string { data := #[] }, .slice none 0 0] 25) = w1 := ⟨_, rfl⟩
  have HF1 : Fr (fun _ => False) w w1 := by rw [← hw1]; exact ((Fr.refl _ w).alloc _).alloc _
  have HB0 : Blk w1 w.heap.size 25 #[.int .i64 5, .int .u64 0, .string { data := #[] }, .slice (some ⟨w.heap.size + 1, 0, none⟩) 2 2] := by rw [← hw1]; exact (Blk.new w _ _).alloc _
  have HB1 : Blk w1 (w.heap.size + 1) 25 #[.int .i64 3, .int .u64 0, .string key, .slice none 0 0, .int .i64 0, .int .u64 1, .string { data := #[] }, .slice none 0 0] := by
    rw [← hw1]
    have := Blk.new (w.alloc (.cells #[.int .i64 5, .int .u64 0, .string { data := #[] }, .slice (some ⟨w.heap.size + 1, 0, none⟩) 2 2] 25)) 25 #[.int .i64 3, .int .u64 0, .string key, .slice none 0 0, .int .i64 0, .int .u64 1, .string { data := #[] }, .slice none 0 0]
    rwa [World.size_alloc] at this
  rw [hw1]
  refine bodyPost_ret (results_cell_row rfl _ _ _ _ _ (0, 0) _ rfl HB0 Tryd.underlying25 rfl sizeItem) rfl ?_
  exact ⟨_, rfl, mD_at w1 _ key hk HB1, HF1⟩

set_option maxRecDepth 100000 in
set_option maxHeartbeats 8000000 in
theorem awake_calls (w : World) (hD : Dbl w) : Calls Tryd.prog 45 #[] w fun e w' => e = .returned (.bool true) ∧ Fr (fun _ => False) w w' := by
  obtain ⟨w1, hw1⟩ : ∃ w1, ((w.alloc (.cells #[.string { data := #[97] }, .int .i64 1, .bool false, .string { data := #[98] }, .int .i64 1, .bool true] 111)).alloc (.cells #[.int .i64 8, .int .i64 0, .int .i64 0, .int .i64 0, .int .u64 0, .string { data := #[] }, .slice none 0 0, .slice none 0 0, .slice (some ⟨w.heap.size, 0, none⟩) 2 2, .int .i64 1, .int .i64 0, .int .i64 5, .int .i64 0, .int .u64 0, .string { data := #[] }, .slice none 0 0, .slice none 0 0, .slice none 0 0] 54)).alloc (.cells #[.slice (some ⟨w.heap.size + 1, 0, none⟩) 2 2] 42) = w1 := ⟨_, rfl⟩
  have HF1 := hid (show Fr (fun _ => False) w w1 by rw [← hw1]; exact fr_3 _ _ _ _)
  have HBF := hid (show Blk w1 w.heap.size 111 #[.string { data := #[97] }, .int .i64 1, .bool false, .string { data := #[98] }, .int .i64 1, .bool true] by rw [← hw1]; exact blk_1of3 _ _ _ _ _)
  have HBN := hid (show Blk w1 (w.heap.size + 1) 54 #[.int .i64 8, .int .i64 0, .int .i64 0, .int .i64 0, .int .u64 0, .string { data := #[] }, .slice none 0 0, .slice none 0 0, .slice (some ⟨w.heap.size, 0, none⟩) 2 2, .int .i64 1, .int .i64 0, .int .i64 5, .int .i64 0, .int .u64 0, .string { data := #[] }, .slice none 0 0, .slice none 0 0, .slice none 0 0] by rw [← hw1]; exact blk_2 _ _ _ _ _)
  have HBS := hid (show Blk w1 (w.heap.size + 1 + 1) 42 #[.slice (some ⟨w.heap.size + 1, 0, none⟩) 2 2] by rw [← hw1]; exact blk_3 _ _ _ _ _)
  have HAT := hid (exD_at w1 _ _ HBF.out HBN.out)
  have HDD := hid (hD.fr0 HF1.out)
  have HW1 := hid hw1
  clear hw1 hD
  have HS := hid (show ∀ w', Fr (fun _ => False) w1 w' → w'.cell? ⟨w.heap.size + 1 + 1, 0, none⟩ = some (.slice (some ⟨w.heap.size + 1, 0, none⟩) 2 2) ∧ Fr (fun _ => False) w1 w' from fun w' hf => ⟨(blk1 (HBS.out.fr hf (fun h => h))).1, hf⟩)
  have HCA := hid (fun wx (hf : wx.cell? ⟨w.heap.size + 1 + 1, 0, none⟩ = some (.slice (some ⟨w.heap.size + 1, 0, none⟩) 2 2) ∧ Fr (fun _ => False) w1 wx) => (aw1_calls { data := #[97] } (by decide) wx).mono (R' := fun e w' => ∃ g, e = .returned (.agg #[.int .i64 5, .int .u64 0, .string { data := #[] }, .slice (some ⟨g, 0, none⟩) 2 2]) ∧ Hid (ItAt w' 0 w'.heap.size (mD { data := #[97] }) [.int .i64 5, .int .u64 0, .string { data := #[] }, .slice (some ⟨g, 0, none⟩) 2 2]) ∧ w'.cell? ⟨w.heap.size + 1 + 1, 0, none⟩ = some (.slice (some ⟨w.heap.size + 1, 0, none⟩) 2 2) ∧ Fr (fun _ => False) w1 w') (fun e w' g => by
    obtain ⟨g, h1, h2, h3⟩ := g
    exact ⟨g, h1, hid h2, HS.out w' (hf.2.then_ h3 (fun _ _ h => h))⟩))
  have HCB := hid (fun wx (hf : wx.cell? ⟨w.heap.size + 1 + 1, 0, none⟩ = some (.slice (some ⟨w.heap.size + 1, 0, none⟩) 2 2) ∧ Fr (fun _ => False) w1 wx) => (aw1_calls { data := #[98] } (by decide) wx).mono (R' := fun e w' => ∃ g, e = .returned (.agg #[.int .i64 5, .int .u64 0, .string { data := #[] }, .slice (some ⟨g, 0, none⟩) 2 2]) ∧ Hid (ItAt w' 0 w'.heap.size (mD { data := #[98] }) [.int .i64 5, .int .u64 0, .string { data := #[] }, .slice (some ⟨g, 0, none⟩) 2 2]) ∧ w'.cell? ⟨w.heap.size + 1 + 1, 0, none⟩ = some (.slice (some ⟨w.heap.size + 1, 0, none⟩) 2 2) ∧ Fr (fun _ => False) w1 w') (fun e w' g => by
    obtain ⟨g, h1, h2, h3⟩ := g
    exact ⟨g, h1, hid h2, HS.out w' (hf.2.then_ h3 (fun _ _ h => h))⟩))
  have HSC := hid (fun key x0 (hx : schV exD (mD key) = x0) wx (hf : Fr (fun _ => False) w1 wx) (wy : World) g (hi : ItAt wy 0 wy.heap.size (mD key) [.int .i64 5, .int .u64 0, .string { data := #[] }, .slice (some ⟨g, 0, none⟩) 2 2]) (hfy : Fr (fun _ => False) wy wx) => (schema_calls exD (some ⟨w.heap.size + 1, 0, none⟩) 2 2 0 wx (HDD.out.fr0 hf) rfl (Nat.le_refl _) (by decide) (HAT.out.fr0 hf) (mD key) (by show (3 : Nat) ≤ 2000000; decide) 0 wy.heap.size _ hfy.size (hi.fr0 hfy (Nat.le_refl _))).mono (R' := fun e w' => e = .returned (.tuple #[.bool x0.1, .int .i64 x0.2]) ∧ w'.cell? ⟨w.heap.size + 1 + 1, 0, none⟩ = some (.slice (some ⟨w.heap.size + 1, 0, none⟩) 2 2) ∧ Fr (fun _ => False) w1 w') (fun e w' g => ⟨by rw [g.1, hx], HS.out w' (hf.then_ g.2 (fun _ _ h => h))⟩))
  obtain ⟨c0, _⟩ := HS.out w1 (Fr.refl _ _)
  go_enter Tryd.func45, Tryd.ntmps45
  go_wp2_with fail
  rw [HW1.out]
  go_region_held3 (fun w' => w'.cell? ⟨w.heap.size + 1 + 1, 0, none⟩ = some (.slice (some ⟨w.heap.size + 1, 0, none⟩) 2 2) ∧ Fr (fun _ => False) w1 w')
    (first | exact HS.out _ (Fr.refl _ _) | exact HS.out _ (Fr.refl _ _).drew | assumption)
    (first
      | ((go_at_call 82; with_reducible refine (HCA.out _ (by assumption)).mono ?_; rintro e' w8 ⟨g, rfl, hit, hS⟩))
      | ((go_at_call 49; refine (HSC.out { data := #[97] } (true, 0) sch_a _ (by first | exact hS.2 | assumption) w8 g hit.out (Fr.refl _ _)).mono ?_; rintro e' w9 ⟨rfl, hS⟩)))
  all_goals
    have HF9 := hid hS.2
    clear c0
    obtain ⟨c0, _⟩ := hS
    go_wp2_with fail
    go_region_held3 (fun w' => w'.cell? ⟨w.heap.size + 1 + 1, 0, none⟩ = some (.slice (some ⟨w.heap.size + 1, 0, none⟩) 2 2) ∧ Fr (fun _ => False) w1 w')
      (first | exact HS.out _ HF9.out | exact HS.out _ HF9.out.drew | assumption)
      (first
        | ((go_at_call 82; with_reducible refine (HCB.out _ (by assumption)).mono ?_; rintro e' w10 ⟨g2, rfl, hit2, hT⟩))
        | ((go_at_call 49; refine (HSC.out { data := #[98] } (false, 0) sch_b _ (by first | exact hT.2 | assumption) w10 g2 hit2.out (Fr.refl _ _)).mono ?_; rintro e' w11 ⟨rfl, hT⟩)))
    all_goals
      go_wp2_with fail
      go_ret
      exact ⟨rfl, HF1.out.trans hT.2⟩
end Go.Proofs.YtkmgiodhaaajjaaDoor.DenY
