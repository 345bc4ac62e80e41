/- Layer mem: the law is awake. -/
import Derived.Test.YtkmgiodhaaajjaaDoorMemE
import Derived.Test.YtkmgiodhaaajjaaDoorRowItem
set_option linter.unusedVariables false
set_option linter.unusedSimpArgs false
namespace Go.Proofs.YtkmgiodhaaajjaaDoor.MemG
open Go.Proofs.YtkmgiodhaaajjaaDoor.UtfP Go.Proofs.YtkmgiodhaaajjaaDoor.UtfP Go.Proofs.YtkmgiodhaaajjaaDoor.SchO Go.IntWalk Go.RowKit Go.Proofs.YtkmgiodhaaajjaaDoor.Mem Go.Proofs.YtkmgiodhaaajjaaDoor.App Go.Proofs.YtkmgiodhaaajjaaDoor.FloatB Go.Proofs.YtkmgiodhaaajjaaDoor.ItemP Go.Proofs.YtkmgiodhaaajjaaDoor.ItemM Go.Proofs.YtkmgiodhaaajjaaDoor.SchP Go.Proofs.YtkmgiodhaaajjaaDoor.SchM Go.Proofs.YtkmgiodhaaajjaaDoor.SchG Go.Proofs.YtkmgiodhaaajjaaDoor.SchJ Go.Proofs.YtkmgiodhaaajjaaDoor.SchN Go.Proofs.YtkmgiodhaaajjaaDoor.SchR Go.Proofs.YtkmgiodhaaajjaaDoor.MemA Go.Proofs.YtkmgiodhaaajjaaDoor.MemB Go.Proofs.YtkmgiodhaaajjaaDoor.MemC Go.Proofs.YtkmgiodhaaajjaaDoor.MemD

/-- A record of one field, and nothing. -/
def exM : List Nod := [⟨8, 0, 0, noIt, [], [⟨{ data := #[97] }, 1, false⟩]⟩, ⟨0, 0, 0, noIt, [], []⟩]
theorem va : validS { data := #[97] } = true := by decide +kernel
theorem exm_check : checkS exM = (0, 0) := by
  have h0 : (⟨8, 0, 0, noIt, [], [⟨{ data := #[97] }, 1, false⟩]⟩ : Nod).wrong 0 2 = 0 := by
    simp [Nod.wrong, Nod.formB, Nod.ok, Nod.bare, Nod.bounds, keysE, va, Nod.named, badN]
    try decide
  have h1 : (⟨0, 0, 0, noIt, [], []⟩ : Nod).wrong 1 2 = 0 := by simp [Nod.wrong, Nod.formB, Nod.ok, Nod.bare, Nod.bounds, keysE, Nod.named, badN]
  rw [checkS, if_neg (by decide)]
  show checkFrom exM 0 2 = _
  rw [exM, checkFrom, if_neg (by rw [h0]; simp), checkFrom, if_neg (by rw [h1]; simp)]
  rfl
theorem exm_bound : boundV 4 9 1 exM = (80, 0) := by
  rw [boundV, if_neg (by decide), exm_check, if_neg (by simp)]
  rfl
theorem exm_at (w w1 : World) (g : Nat) (h1 : Blk w1 w.heap.size 111 #[.string { data := #[97] }, .int .i64 1, .bool false]) (h3 : Blk w1 g 54 #[.int .i64 8, .int .i64 0, .int .i64 0, .int .i64 0, .int .u64 0, .string { data := #[] }, .slice none 0 0, .slice none 0 0, .slice (some ⟨w.heap.size, 0, none⟩) 1 1, .int .i64 0, .int .i64 0, .int .i64 0, .int .i64 0, .int .u64 0, .string { data := #[] }, .slice none 0 0, .slice none 0 0, .slice none 0 0]) : RdN w1 0 (some ⟨g, 0, none⟩) exM := by
  have r1 : RdF w1 (some ⟨w.heap.size, 0, none⟩) [⟨{ data := #[97] }, 1, false⟩] := by
    intro i hi
    obtain rfl : i = 0 := by simp at hi; omega
    obtain ⟨c0, c1, c2⟩ := blk3 h1
    exact ⟨⟨w.heap.size, 0, none⟩, rfl, h1.lt, (show (1 : Nat) ≤ 140737488355328 by decide), (show -9223372036854775808 ≤ (1 : Int) ∧ (1 : Int) ≤ 9223372036854775807 by decide), by rw [add_plain]; exact c0, by rw [add_plain]; exact c1, by rw [add_plain]; exact c2⟩
  intro i hi
  have hi3 : i = 0 ∨ i = 1 := by simp [exM] at hi; omega
  rcases hi3 with rfl | rfl
  · refine ⟨⟨g, 0, none⟩, none, 0, none, 0, some ⟨w.heap.size, 0, none⟩, 1, rfl, h3.lt, fun j hj => ?_, noIt_r w1 0 _ (Nat.zero_le _) rfl (rdI_nil _ _ _) r1 (by simp [exM]) (by simp [exM]) (by simp [exM]) (by simp [exM]) (by simp [exM]) (by simp [exM]) (by simp [exM]) (by simp [exM])⟩
    rw [add_plain, h3.cell]
    rcases nine_cases hj with rfl | rfl | rfl | rfl | rfl | rfl | rfl | rfl | rfl <;> rfl
  · refine ⟨⟨g, 0, none⟩, none, 0, none, 0, none, 0, rfl, h3.lt, fun j hj => ?_, noIt_r w1 0 _ (Nat.zero_le _) rfl (rdI_nil _ _ _) (RdF.nil _ _) (by simp [exM]) (by simp [exM]) (by simp [exM]) (by simp [exM]) (by simp [exM]) (by simp [exM]) (by simp [exM]) (by simp [exM])⟩
    rw [add_plain, h3.cell]
    rcases nine_cases hj with rfl | rfl | rfl | rfl | rfl | rfl | rfl | rfl | rfl <;> rfl

set_option maxRecDepth 100000 in
set_option maxHeartbeats 4000000 in
theorem awake_calls (w : World) (hD : Dbl w) : Calls Tryd.prog 38 #[] w fun e w' => e = .returned (.bool true) ∧ Fr (fun _ => False) w w' := by
  obtain ⟨w1, hw1⟩ : ∃ w1, (w.alloc (.cells #[.string { data := #[97] }, .int .i64 1, .bool false] 111)).alloc (.cells #[.int .i64 8, .int .i64 0, .int .i64 0, .int .i64 0, .int .u64 0, .string { data := #[] }, .slice none 0 0, .slice none 0 0, .slice (some ⟨w.heap.size, 0, none⟩) 1 1, .int .i64 0, .int .i64 0, .int .i64 0, .int .i64 0, .int .u64 0, .string { data := #[] }, .slice none 0 0, .slice none 0 0, .slice none 0 0] 54) = w1 := ⟨_, rfl⟩
  have HF1 := hid (show Fr (fun _ => False) w w1 by rw [← hw1]; exact fr_2 _ _ _)
  have HAT := hid (show RdN w1 0 (some ⟨w.heap.size + 1, 0, none⟩) exM by
    rw [← hw1]
    exact exm_at w _ _ ((Blk.new w _ _).alloc _) (by have := Blk.new (w.alloc (.cells #[.string { data := #[97] }, .int .i64 1, .bool false] 111)) 54 #[.int .i64 8, .int .i64 0, .int .i64 0, .int .i64 0, .int .u64 0, .string { data := #[] }, .slice none 0 0, .slice none 0 0, .slice (some ⟨w.heap.size, 0, none⟩) 1 1, .int .i64 0, .int .i64 0, .int .i64 0, .int .i64 0, .int .u64 0, .string { data := #[] }, .slice none 0 0, .slice none 0 0, .slice none 0 0]; rwa [World.size_alloc] at this))
  have HDD := hid (hD.fr0 HF1.out)
  have HW1 := hid hw1
  clear hw1 hD
  go_enter Tryd.func38, Tryd.ntmps38
  go_wp2_with fail
  rw [HW1.out]
  refine (bound_calls 4 9 1 exM (some ⟨w.heap.size + 1, 0, none⟩) 2 2 0 w1 HDD.out rfl (Nat.le_refl _) (by decide) HAT.out).mono ?_
  rintro e w2 ⟨rfl, hf⟩
  have HF2 := hid hf
  rw [exm_bound]
  clear hf
  go_wp2_with fail
  go_ret
  exact ⟨rfl, HF1.out.trans HF2.out⟩
end Go.Proofs.YtkmgiodhaaajjaaDoor.MemG

namespace Go.Proofs.YtkmgiodhaaajjaaDoor.MemH
open Go.ChangeShapes Go.RowKit Go.Proofs.YtkmgiodhaaajjaaDoor.Mem Go.Proofs.YtkmgiodhaaajjaaDoor.SchP Go.Proofs.YtkmgiodhaaajjaaDoor.SchM
theorem mem_law (d k s : Int) (A : Option Addr) (ns : List Nod) (c : Nat) (g y : Int) (W : World) (_ : True) (hc : ns.length ≤ c) (hl : ns.length ≤ 1048576) (hx : RdN W W.heap.size A ns) (hw : (Lit.int .i64 g).wf = true) (hw' : (Lit.int .i64 y).wf = true) (hL : laidMetH Tryd.prog Rows.memBoundsUptoRow.laid W) :
    Calls Tryd.prog 7 #[.agg #[.int .i64 d, .int .i64 k, .int .i64 s], .agg #[.slice A ns.length c], .int .i64 g, .int .i64 y] W fun e W' => e = .returned (.bool true) ∧ Below W.heap.size W W' :=
  (MemE.law_calls MemG.awake_calls d k s g y ns A _ c W.heap.size W (RowItem.rng_i hw) (Dbl.dbl hL) rfl hc hl hx).mono fun e w' h => ⟨h.1, h.2.toBelow (fun _ _ h => h)⟩
end Go.Proofs.YtkmgiodhaaajjaaDoor.MemH
