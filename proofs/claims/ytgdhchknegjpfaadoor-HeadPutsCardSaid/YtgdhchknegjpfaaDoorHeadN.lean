/- Layer head: the example; a nil reader. -/
import Derived.Test.YtgdhchknegjpfaaDoorHeadE
import Derived.Test.YtgdhchknegjpfaaDoorDbl
set_option linter.unusedVariables false
set_option linter.unusedSimpArgs false
namespace Go.Proofs.YtgdhchknegjpfaaDoor.HeadN
open Go.IntWalk Go.RowKit Go.Proofs.YtgdhchknegjpfaaDoor.Mem Go.Proofs.YtgdhchknegjpfaaDoor.Num Go.Proofs.YtgdhchknegjpfaaDoor.BitsA Go.Proofs.YtgdhchknegjpfaaDoor.BitsB Go.Proofs.YtgdhchknegjpfaaDoor.App Go.Proofs.YtgdhchknegjpfaaDoor.FloatP Go.Proofs.YtgdhchknegjpfaaDoor.FloatB Go.Proofs.YtgdhchknegjpfaaDoor.FloatG Go.Proofs.YtgdhchknegjpfaaDoor.FloatI Go.Proofs.YtgdhchknegjpfaaDoor.HeadP Go.Proofs.YtgdhchknegjpfaaDoor.HeadA Go.Proofs.YtgdhchknegjpfaaDoor.HeadB Go.Proofs.YtgdhchknegjpfaaDoor.HeadC Go.Proofs.YtgdhchknegjpfaaDoor.HeadD Go.Proofs.YtgdhchknegjpfaaDoor.HeadE

theorem ex1 : firstH [24, 24] = ⟨0, 1, 24, 0, 2, 0⟩ := by kernel_rfl
theorem ex2 : firstH [24, 23] = ⟨0, 0, 0, 0, 1, 5⟩ := by kernel_rfl
theorem rd_new {k : IntKind} (w : World) (t : TypeId) (xs : List Int) : RdI k (w.alloc (.cells (xs.map (Value.int k)).toArray t)) (some ⟨w.heap.size, 0, none⟩) xs := VecI.rd (Blk.new w t _)
theorem awake_calls (w : World) (hd : Dbl w) : Calls Tryd.prog 10 #[] w fun e w' => e = .returned (.bool true) ∧ Fr (fun _ => False) w w' := by
  have HD := hid hd
  clear hd
  go_enter Tryd.func10, Tryd.ntmps10
  go_wp2_with fail
  have hr1 := hid (rd_new (k := .u8) w 5 [24, 24])
  have hd1 := hid (HD.out.fr0 ((Fr.refl _ w).alloc (.cells #[.int .u8 24, .int .u8 24] 5)))
  have hb1 := hid (show Bytes [24, 24] by unfold Bytes; decide)
  refine (first_calls (some ⟨w.heap.size, 0, none⟩) 2 2 [24, 24] (w.alloc (.cells #[.int .u8 24, .int .u8 24] 5)) hd1.out rfl hr1.out hb1.out (by decide)).mono ?_
  rintro e w2 ⟨rfl, hf⟩
  have HF := hid (((Fr.refl (fun _ => False) w).alloc (.cells #[.int .u8 24, .int .u8 24] 5)).then_ hf (fun _ _ h => h))
  rw [ex1]
  clear hf
  go_wp2_with fail
  have hr2 := hid (rd_new (k := .u8) (w2.alloc (.cells #[.int .i64 0, .int .i64 1, .int .u64 24] 29)) 5 [24, 23])
  have hd2 := hid (HD.out.fr0 ((HF.out.alloc (.cells #[.int .i64 0, .int .i64 1, .int .u64 24] 29)).alloc (.cells #[.int .u8 24, .int .u8 23] 5)))
  have hb2 := hid (show Bytes [24, 23] by unfold Bytes; decide)
  rw [World.size_alloc] at hr2
  refine (first_calls (some ⟨w2.heap.size + 1, 0, none⟩) 2 2 [24, 23] ((w2.alloc (.cells #[.int .i64 0, .int .i64 1, .int .u64 24] 29)).alloc (.cells #[.int .u8 24, .int .u8 23] 5)) hd2.out rfl hr2.out hb2.out (by decide)).mono ?_
  rintro e w3 ⟨rfl, hf⟩
  rw [ex2]
  have h1 := hid (Blk.fr (Blk.alloc (Blk.new w2 29 #[.int .i64 0, .int .i64 1, .int .u64 24]) (.cells #[.int .u8 24, .int .u8 23] 5)) hf id)
  have HF3 := hid (((HF.out.alloc (.cells #[.int .i64 0, .int .i64 1, .int .u64 24] 29)).alloc (.cells #[.int .u8 24, .int .u8 23] 5)).then_ hf (fun _ _ h => h))
  obtain ⟨c0, c1, c2, _⟩ := cells3 h1.out
  have hlt : w2.heap.size < w3.heap.size := Blk.lt h1.out
  clear hf
  go_wp2_with fail
  go_ret
  exact ⟨rfl, HF3.out.alloc _⟩
theorem none_calls (c : Int) (w : World) (hd : Dbl w) : Calls Tryd.prog 3 #[.int .u8 c] w fun e w' => e = .returned (.bool true) ∧ Fr (fun _ => False) w w' := by
  have HD := hid hd
  clear hd
  go_enter Tryd.func3, Tryd.ntmps3
  go_wp2_with fail
  refine (awake_calls w HD.out).mono ?_
  rintro e w1 ⟨rfl, hf⟩
  have HF := hid hf
  clear hf
  go_wp2_with fail
  refine (reset_nil w1).mono ?_
  rintro e w2 ⟨rfl, rfl⟩
  go_wp2_with fail
  refine (step_nil c w1).mono ?_
  rintro e w2 ⟨rfl, rfl⟩
  go_wp2_with fail
  refine (head_nil w1).mono ?_
  rintro e w2 ⟨rfl, hf⟩
  have HF2 := hid (HF.out.then_ hf (fun _ _ h => h))
  clear hf
  go_wp2_with fail
  refine (open_nil w2).mono ?_
  rintro e w3 ⟨rfl, rfl⟩
  go_wp2_with fail
  go_ret
  exact ⟨rfl, HF2.out⟩
theorem none_law (c : Int) (W : World) (h : (Lit.int .u8 c).wf = true) (hL : laidMetH Tryd.prog Rows.headNoneRow.laid W) :
    Calls Tryd.prog 3 #[.int .u8 c] W fun e W' => e = .returned (.bool true) ∧ Below W.heap.size W W' := by
  refine (none_calls c W (Dbl.dbl hL)).mono ?_
  rintro e w' ⟨he, hf⟩
  exact ⟨he, hf.toBelow (fun _ _ h => h)⟩
end Go.Proofs.YtgdhchknegjpfaaDoor.HeadN
