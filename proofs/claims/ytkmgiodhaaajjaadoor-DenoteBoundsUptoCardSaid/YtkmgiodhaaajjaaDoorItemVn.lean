/- Layer item: the document's word: no kind at all. -/
import Derived.Test.YtkmgiodhaaajjaaDoorItemV
set_option linter.unusedVariables false
set_option linter.unusedSimpArgs false
namespace Go.Proofs.YtkmgiodhaaajjaaDoor.ItemVn
open Go.IntWalk Go.RowKit Go.Proofs.YtkmgiodhaaajjaaDoor.Mem Go.Proofs.YtkmgiodhaaajjaaDoor.App Go.Proofs.YtkmgiodhaaajjaaDoor.UtfP Go.Proofs.YtkmgiodhaaajjaaDoor.FloatP Go.Proofs.YtkmgiodhaaajjaaDoor.ItemP Go.Proofs.YtkmgiodhaaajjaaDoor.ItemM Go.Proofs.YtkmgiodhaaajjaaDoor.Own Go.Proofs.YtkmgiodhaaajjaaDoor.ItemA Go.Proofs.YtkmgiodhaaajjaaDoor.ItemB Go.Proofs.YtkmgiodhaaajjaaDoor.ItemC Go.Proofs.YtkmgiodhaaajjaaDoor.ItemD Go.Proofs.YtkmgiodhaaajjaaDoor.ItemE Go.Proofs.YtkmgiodhaaajjaaDoor.Range Go.Proofs.YtkmgiodhaaajjaaDoor.ItemT Go.Proofs.YtkmgiodhaaajjaaDoor.ItemU Go.Proofs.YtkmgiodhaaajjaaDoor.ItemV

set_option maxRecDepth 20000 in
set_option maxHeartbeats 8000000 in
theorem wr_n (k : Int) (hkk : k < 0 ∨ 8 < k) (n : Nat) (s : ByteArray) (l : List It) (hx : (It.mk k n s l).size ≤ 2000000) (lo hi : Nat) (cs : List Value) (w : World) (hh : hi ≤ w.heap.size) (h : ItAt w lo hi (It.mk k n s l) cs) :
    Calls Tryd.prog 73 #[.agg cs.toArray] w fun e w' => e = .returned (.int .i64 (It.mk k n s l).wrong) ∧ Fr (fun _ => False) w w' := by
  have hAt := h
  obtain ⟨A, c, rfl, hc, hk, hn, hs, hl, hL⟩ := h
  obtain ⟨r, hr⟩ : ∃ r, (It.mk k n s l).wrong = r := ⟨_, rfl⟩
  rw [hr]
  have HR := hid hr
  obtain ⟨m, hm⟩ : ∃ m, l.length = m := ⟨_, rfl⟩
  have HM := hid hm
  have HAT := hid hAt
  rw [hm] at hc hl HAT ⊢
  obtain ⟨w1, hw1⟩ : ∃ w1, w.alloc (.cells #[.int .i64 k, .int .u64 n, .string s, .slice A m c] 25) = w1 := ⟨_, rfl⟩
  have HF1 := hid (show Fr (fun _ => False) w w1 by rw [← hw1]; exact (Fr.refl _ w).alloc _)
  have HB1 := hid (show Blk w1 w.heap.size 25 #[.int .i64 k, .int .u64 n, .string s, .slice A m c] by rw [← hw1]; exact Blk.new w _ _)
  have HW1 := hid hw1
  have HSL := hid hh
  have HNN := hid hn
  have HSS := hid hs
  have HL := hid hL
  have HSZ := hid hx
  have c0 := HB1.out.cell 0
  have c1 := HB1.out.cell 1
  have c2 := HB1.out.cell 2
  have c3 := HB1.out.cell 3
  simp at c0 c1 c2 c3
  clear hAt hr hm hw1 hh hn hs hL hx hk
  have HRE := hid (show r = 11 by rw [← HR.out]; exact wv11 (form_no (by omega) n s l))
  rcases hkk with hkk | hkk
  · go_enter Tryd.func73, Tryd.ntmps73
    go_wp2_with fail
    rw [HW1.out]
    go_wp2_with fail
    go_ret
    exact ⟨by rw [HRE.out]; rfl, HF1.out⟩
  · have hk0 : ¬ k < 0 := by omega
    go_enter Tryd.func73, Tryd.ntmps73
    go_wp2_with fail
    rw [HW1.out]
    go_wp2_with fail
    go_ret
    exact ⟨by rw [HRE.out]; rfl, HF1.out⟩
end Go.Proofs.YtkmgiodhaaajjaaDoor.ItemVn
