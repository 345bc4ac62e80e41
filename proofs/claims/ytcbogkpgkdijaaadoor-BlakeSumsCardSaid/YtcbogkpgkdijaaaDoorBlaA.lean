/- Walks of layer blake: mix. -/
import Derived.Test.YtcbogkpgkdijaaaDoorProg
import Derived.Test.YtcbogkpgkdijaaaDoorBlaP
import Derived.Deep.QuietTactic
import Derived.BigQuiet
import Derived.RegionTactic
import Derived.Deep.OwnRows
import Derived.Deep.RegionHeld3
import Derived.IntWalk
import Derived.Deep.Cut
set_option linter.unusedVariables false
set_option linter.unusedSimpArgs false
namespace Go.Proofs.YtcbogkpgkdijaaaDoor.BlaA
open Go.IntWalk Go.RowKit Go.Proofs.YtcbogkpgkdijaaaDoor.Mem Go.Proofs.YtcbogkpgkdijaaaDoor.Num Go.Proofs.YtcbogkpgkdijaaaDoor.BitsA Go.Proofs.YtcbogkpgkdijaaaDoor.BitsB Go.Proofs.YtcbogkpgkdijaaaDoor.BlaP

theorem right64_drew (x n : Int) (w : World) (h0 : 0 ≤ x) (hx : x < 18446744073709551616) :
    Calls Tryd.prog 67 #[.int .u64 x, .int .i64 n] w fun e w' => e = .returned (.int .u64 (ror 64 x n)) ∧ w = w' := right64_calls x n w h0 hx
theorem wrap3 (p q x : Int) : (p + q + x) % 18446744073709551616 = IntKind.u64.wrap (p + IntKind.u64.wrap (q + x)) := by simp only [wrap_u64]; omega
set_option maxRecDepth 100000 in
set_option maxHeartbeats 8000000 in
theorem mix_calls (g : Nat) (v : List Int) (a b c d : Nat) (x y : Int) (w : World) (hv : VecI .u64 85 w g v) (hl : v.length = 16) (hU : U64 v) (ha : a < 16) (hb : b < 16) (hc : c < 16) (hd : d < 16) (hx : 0 ≤ x ∧ x < 18446744073709551616) (hy : 0 ≤ y ∧ y < 18446744073709551616) :
    Calls Tryd.prog 62 #[.pointer (some ⟨g, 0, none⟩), .int .i64 a, .int .i64 b, .int .i64 c, .int .i64 d, .int .u64 x, .int .u64 y] w
      fun e w' => e = .returned (.tuple #[]) ∧ VecI .u64 85 w' g (mix v a b c d x y) ∧ Fr (fun i => i = g) w w' := by
  obtain ⟨x0, x1⟩ := hx
  obtain ⟨y0, y1⟩ := hy
  have HV0 := hid hv
  have HL0 := hid hl
  have HU0 := hid hU
  have HF0 := hid (Fr.refl (fun i => i = g) w)
  clear hv hl hU
  have ia : (a : Int) < 16 := by omega
  have ib : (b : Int) < 16 := by omega
  have ic : (c : Int) < 16 := by omega
  have id_ : (d : Int) < 16 := by omega
  have ja : (0 : Int) ≤ a := by omega
  have jb : (0 : Int) ≤ b := by omega
  have jc : (0 : Int) ≤ c := by omega
  have jd : (0 : Int) ≤ d := by omega
  go_enter Tryd.func62, Tryd.ntmps62
  obtain ⟨v0, hv0⟩ : ∃ v0, v = v0 := ⟨_, rfl⟩
  rw [hv0] at HV0 HL0 HU0
  have HQ0 := hid hv0
  clear hv0
  -- step 1
  obtain ⟨p0, hp⟩ : ∃ z, at_ v0 a = z := ⟨_, rfl⟩
  obtain ⟨q0, hq⟩ : ∃ z, at_ v0 b = z := ⟨_, rfl⟩
  have c1 : w.cell? ⟨g, a, none⟩ = some (.int .u64 p0) := by rw [← hp]; exact HV0.out.at_ a (by rw [HL0.out]; omega)
  have c2 : w.cell? ⟨g, b, none⟩ = some (.int .u64 q0) := by rw [← hq]; exact HV0.out.at_ b (by rw [HL0.out]; omega)
  have hz := Blk.frozen HV0.out a
  obtain ⟨v1, hn⟩ : ∃ z, addS v0 a b x = z := ⟨_, rfl⟩
  have HN1 := hid hn
  have HP := hid hp
  have HQ := hid hq
  clear hp hq hn
  go_wp2_with fail
  go_region
  obtain ⟨w1, hw⟩ : ∃ w', (w.setCell ⟨g, a, none⟩ (.int .u64 (IntKind.u64.wrap (p0 + IntKind.u64.wrap (q0 + x))))).drew = w' := ⟨_, rfl⟩
  have hs : v0.set a (IntKind.u64.wrap (p0 + IntKind.u64.wrap (q0 + x))) = v1 := by rw [← HN1.out]; unfold addS; rw [HP.out, HQ.out, wrap3]
  have hv1 : VecI .u64 85 w1 g v1 := by rw [← hw, ← hs]; exact Blk.drew (VecI.set_ HV0.out a _)
  have HV1 := hid hv1
  have HL1 := hid (show v1.length = 16 by rw [← hs, List.length_set]; exact HL0.out)
  have HF1 := hid (show Fr (fun i => i = g) w w1 by rw [← hw]; exact (HF0.out.set1 _ _).drew)
  try rw [hw]
  clear hw hs hv1 c1 c2 hz HV0 HL0 HF0 HP HQ
  -- step 2
  obtain ⟨p1, hp⟩ : ∃ z, at_ v1 d = z := ⟨_, rfl⟩
  obtain ⟨q1, hq⟩ : ∃ z, at_ v1 a = z := ⟨_, rfl⟩
  have c1 : w1.cell? ⟨g, d, none⟩ = some (.int .u64 p1) := by rw [← hp]; exact HV1.out.at_ d (by rw [HL1.out]; omega)
  have c2 : w1.cell? ⟨g, a, none⟩ = some (.int .u64 q1) := by rw [← hq]; exact HV1.out.at_ a (by rw [HL1.out]; omega)
  have hz := Blk.frozen HV1.out d
  obtain ⟨v2, hn⟩ : ∃ z, turnS v1 d a 32 = z := ⟨_, rfl⟩
  have HN2 := hid hn
  have HP := hid hp
  have HQ := hid hq
  clear hp hq hn
  go_wp2_with fail
  go_cut [] from 14 (fun wx => wx = (w1.setCell ⟨g, d, none⟩ (.int .u64 (ror 64 (X p1 q1) 32))).drew)
  case first =>
    go_region_with ((go_at_call 67; refine (right64_calls _ _ _ (X_lt (a := p1) (b := q1)).1 (X_lt (a := p1) (b := q1)).2).mono ?_; rintro e w9 ⟨rfl, rfl⟩))
    all_goals
      go_wp2_with fail
      go_meet
      case rel => rfl
  obtain rfl := hcut
  obtain ⟨w2, hw⟩ : ∃ w', (w1.setCell ⟨g, d, none⟩ (.int .u64 (ror 64 (X p1 q1) 32))).drew = w' := ⟨_, rfl⟩
  have hs : v1.set d (ror 64 (X p1 q1) 32) = v2 := by rw [← HN2.out]; unfold turnS; rw [HP.out, HQ.out]
  have hv1 : VecI .u64 85 w2 g v2 := by rw [← hw, ← hs]; exact Blk.drew (VecI.set_ HV1.out d _)
  have HV2 := hid hv1
  have HL2 := hid (show v2.length = 16 by rw [← hs, List.length_set]; exact HL1.out)
  have HF2 := hid (show Fr (fun i => i = g) w w2 by rw [← hw]; exact (HF1.out.set1 _ _).drew)
  try rw [hw]
  clear hw hs hv1 c1 c2 hz HV1 HL1 HF1 HP HQ
  -- step 3
  obtain ⟨p2, hp⟩ : ∃ z, at_ v2 c = z := ⟨_, rfl⟩
  obtain ⟨q2, hq⟩ : ∃ z, at_ v2 d = z := ⟨_, rfl⟩
  have c1 : w2.cell? ⟨g, c, none⟩ = some (.int .u64 p2) := by rw [← hp]; exact HV2.out.at_ c (by rw [HL2.out]; omega)
  have c2 : w2.cell? ⟨g, d, none⟩ = some (.int .u64 q2) := by rw [← hq]; exact HV2.out.at_ d (by rw [HL2.out]; omega)
  have hz := Blk.frozen HV2.out c
  obtain ⟨v3, hn⟩ : ∃ z, addS v2 c d 0 = z := ⟨_, rfl⟩
  have HN3 := hid hn
  have HP := hid hp
  have HQ := hid hq
  clear hp hq hn
  go_wp2_with fail
  go_region
  obtain ⟨w3, hw⟩ : ∃ w', (w2.setCell ⟨g, c, none⟩ (.int .u64 (IntKind.u64.wrap (p2 + q2)))).drew = w' := ⟨_, rfl⟩
  have hs : v2.set c (IntKind.u64.wrap (p2 + q2)) = v3 := by rw [← HN3.out]; unfold addS; rw [HP.out, HQ.out, Int.add_zero, ← wrap_u64]
  have hv1 : VecI .u64 85 w3 g v3 := by rw [← hw, ← hs]; exact Blk.drew (VecI.set_ HV2.out c _)
  have HV3 := hid hv1
  have HL3 := hid (show v3.length = 16 by rw [← hs, List.length_set]; exact HL2.out)
  have HF3 := hid (show Fr (fun i => i = g) w w3 by rw [← hw]; exact (HF2.out.set1 _ _).drew)
  try rw [hw]
  clear hw hs hv1 c1 c2 hz HV2 HL2 HF2 HP HQ
  -- step 4
  obtain ⟨p3, hp⟩ : ∃ z, at_ v3 b = z := ⟨_, rfl⟩
  obtain ⟨q3, hq⟩ : ∃ z, at_ v3 c = z := ⟨_, rfl⟩
  have c1 : w3.cell? ⟨g, b, none⟩ = some (.int .u64 p3) := by rw [← hp]; exact HV3.out.at_ b (by rw [HL3.out]; omega)
  have c2 : w3.cell? ⟨g, c, none⟩ = some (.int .u64 q3) := by rw [← hq]; exact HV3.out.at_ c (by rw [HL3.out]; omega)
  have hz := Blk.frozen HV3.out b
  obtain ⟨v4, hn⟩ : ∃ z, turnS v3 b c 24 = z := ⟨_, rfl⟩
  have HN4 := hid hn
  have HP := hid hp
  have HQ := hid hq
  clear hp hq hn
  go_wp2_with fail
  go_cut [] from 14 (fun wx => wx = (w3.setCell ⟨g, b, none⟩ (.int .u64 (ror 64 (X p3 q3) 24))).drew)
  case first =>
    go_region_with ((go_at_call 67; refine (right64_calls _ _ _ (X_lt (a := p3) (b := q3)).1 (X_lt (a := p3) (b := q3)).2).mono ?_; rintro e w9 ⟨rfl, rfl⟩))
    all_goals
      go_wp2_with fail
      go_meet
      case rel => rfl
  obtain rfl := hcut
  obtain ⟨w4, hw⟩ : ∃ w', (w3.setCell ⟨g, b, none⟩ (.int .u64 (ror 64 (X p3 q3) 24))).drew = w' := ⟨_, rfl⟩
  have hs : v3.set b (ror 64 (X p3 q3) 24) = v4 := by rw [← HN4.out]; unfold turnS; rw [HP.out, HQ.out]
  have hv1 : VecI .u64 85 w4 g v4 := by rw [← hw, ← hs]; exact Blk.drew (VecI.set_ HV3.out b _)
  have HV4 := hid hv1
  have HL4 := hid (show v4.length = 16 by rw [← hs, List.length_set]; exact HL3.out)
  have HF4 := hid (show Fr (fun i => i = g) w w4 by rw [← hw]; exact (HF3.out.set1 _ _).drew)
  try rw [hw]
  clear hw hs hv1 c1 c2 hz HV3 HL3 HF3 HP HQ
  -- step 5
  obtain ⟨p4, hp⟩ : ∃ z, at_ v4 a = z := ⟨_, rfl⟩
  obtain ⟨q4, hq⟩ : ∃ z, at_ v4 b = z := ⟨_, rfl⟩
  have c1 : w4.cell? ⟨g, a, none⟩ = some (.int .u64 p4) := by rw [← hp]; exact HV4.out.at_ a (by rw [HL4.out]; omega)
  have c2 : w4.cell? ⟨g, b, none⟩ = some (.int .u64 q4) := by rw [← hq]; exact HV4.out.at_ b (by rw [HL4.out]; omega)
  have hz := Blk.frozen HV4.out a
  obtain ⟨v5, hn⟩ : ∃ z, addS v4 a b y = z := ⟨_, rfl⟩
  have HN5 := hid hn
  have HP := hid hp
  have HQ := hid hq
  clear hp hq hn
  go_wp2_with fail
  go_region
  obtain ⟨w5, hw⟩ : ∃ w', (w4.setCell ⟨g, a, none⟩ (.int .u64 (IntKind.u64.wrap (p4 + IntKind.u64.wrap (q4 + y))))).drew = w' := ⟨_, rfl⟩
  have hs : v4.set a (IntKind.u64.wrap (p4 + IntKind.u64.wrap (q4 + y))) = v5 := by rw [← HN5.out]; unfold addS; rw [HP.out, HQ.out, wrap3]
  have hv1 : VecI .u64 85 w5 g v5 := by rw [← hw, ← hs]; exact Blk.drew (VecI.set_ HV4.out a _)
  have HV5 := hid hv1
  have HL5 := hid (show v5.length = 16 by rw [← hs, List.length_set]; exact HL4.out)
  have HF5 := hid (show Fr (fun i => i = g) w w5 by rw [← hw]; exact (HF4.out.set1 _ _).drew)
  try rw [hw]
  clear hw hs hv1 c1 c2 hz HV4 HL4 HF4 HP HQ
  -- step 6
  obtain ⟨p5, hp⟩ : ∃ z, at_ v5 d = z := ⟨_, rfl⟩
  obtain ⟨q5, hq⟩ : ∃ z, at_ v5 a = z := ⟨_, rfl⟩
  have c1 : w5.cell? ⟨g, d, none⟩ = some (.int .u64 p5) := by rw [← hp]; exact HV5.out.at_ d (by rw [HL5.out]; omega)
  have c2 : w5.cell? ⟨g, a, none⟩ = some (.int .u64 q5) := by rw [← hq]; exact HV5.out.at_ a (by rw [HL5.out]; omega)
  have hz := Blk.frozen HV5.out d
  obtain ⟨v6, hn⟩ : ∃ z, turnS v5 d a 16 = z := ⟨_, rfl⟩
  have HN6 := hid hn
  have HP := hid hp
  have HQ := hid hq
  clear hp hq hn
  go_wp2_with fail
  go_cut [] from 14 (fun wx => wx = (w5.setCell ⟨g, d, none⟩ (.int .u64 (ror 64 (X p5 q5) 16))).drew)
  case first =>
    go_region_with ((go_at_call 67; refine (right64_calls _ _ _ (X_lt (a := p5) (b := q5)).1 (X_lt (a := p5) (b := q5)).2).mono ?_; rintro e w9 ⟨rfl, rfl⟩))
    all_goals
      go_wp2_with fail
      go_meet
      case rel => rfl
  obtain rfl := hcut
  obtain ⟨w6, hw⟩ : ∃ w', (w5.setCell ⟨g, d, none⟩ (.int .u64 (ror 64 (X p5 q5) 16))).drew = w' := ⟨_, rfl⟩
  have hs : v5.set d (ror 64 (X p5 q5) 16) = v6 := by rw [← HN6.out]; unfold turnS; rw [HP.out, HQ.out]
  have hv1 : VecI .u64 85 w6 g v6 := by rw [← hw, ← hs]; exact Blk.drew (VecI.set_ HV5.out d _)
  have HV6 := hid hv1
  have HL6 := hid (show v6.length = 16 by rw [← hs, List.length_set]; exact HL5.out)
  have HF6 := hid (show Fr (fun i => i = g) w w6 by rw [← hw]; exact (HF5.out.set1 _ _).drew)
  try rw [hw]
  clear hw hs hv1 c1 c2 hz HV5 HL5 HF5 HP HQ
  -- step 7
  obtain ⟨p6, hp⟩ : ∃ z, at_ v6 c = z := ⟨_, rfl⟩
  obtain ⟨q6, hq⟩ : ∃ z, at_ v6 d = z := ⟨_, rfl⟩
  have c1 : w6.cell? ⟨g, c, none⟩ = some (.int .u64 p6) := by rw [← hp]; exact HV6.out.at_ c (by rw [HL6.out]; omega)
  have c2 : w6.cell? ⟨g, d, none⟩ = some (.int .u64 q6) := by rw [← hq]; exact HV6.out.at_ d (by rw [HL6.out]; omega)
  have hz := Blk.frozen HV6.out c
  obtain ⟨v7, hn⟩ : ∃ z, addS v6 c d 0 = z := ⟨_, rfl⟩
  have HN7 := hid hn
  have HP := hid hp
  have HQ := hid hq
  clear hp hq hn
  go_wp2_with fail
  go_region
  obtain ⟨w7, hw⟩ : ∃ w', (w6.setCell ⟨g, c, none⟩ (.int .u64 (IntKind.u64.wrap (p6 + q6)))).drew = w' := ⟨_, rfl⟩
  have hs : v6.set c (IntKind.u64.wrap (p6 + q6)) = v7 := by rw [← HN7.out]; unfold addS; rw [HP.out, HQ.out, Int.add_zero, ← wrap_u64]
  have hv1 : VecI .u64 85 w7 g v7 := by rw [← hw, ← hs]; exact Blk.drew (VecI.set_ HV6.out c _)
  have HV7 := hid hv1
  have HL7 := hid (show v7.length = 16 by rw [← hs, List.length_set]; exact HL6.out)
  have HF7 := hid (show Fr (fun i => i = g) w w7 by rw [← hw]; exact (HF6.out.set1 _ _).drew)
  try rw [hw]
  clear hw hs hv1 c1 c2 hz HV6 HL6 HF6 HP HQ
  -- step 8
  obtain ⟨p7, hp⟩ : ∃ z, at_ v7 b = z := ⟨_, rfl⟩
  obtain ⟨q7, hq⟩ : ∃ z, at_ v7 c = z := ⟨_, rfl⟩
  have c1 : w7.cell? ⟨g, b, none⟩ = some (.int .u64 p7) := by rw [← hp]; exact HV7.out.at_ b (by rw [HL7.out]; omega)
  have c2 : w7.cell? ⟨g, c, none⟩ = some (.int .u64 q7) := by rw [← hq]; exact HV7.out.at_ c (by rw [HL7.out]; omega)
  have hz := Blk.frozen HV7.out b
  obtain ⟨v8, hn⟩ : ∃ z, turnS v7 b c 63 = z := ⟨_, rfl⟩
  have HN8 := hid hn
  have HP := hid hp
  have HQ := hid hq
  clear hp hq hn
  go_wp2_with fail
  go_region_with ((go_at_call 67; refine (right64_calls _ _ _ (X_lt (a := p7) (b := q7)).1 (X_lt (a := p7) (b := q7)).2).mono ?_; rintro e w9 ⟨rfl, rfl⟩))
  all_goals
    obtain ⟨w8, hw⟩ : ∃ w', (w7.setCell ⟨g, b, none⟩ (.int .u64 (ror 64 (X p7 q7) 63))).drew = w' := ⟨_, rfl⟩
    have hs : v7.set b (ror 64 (X p7 q7) 63) = v8 := by rw [← HN8.out]; unfold turnS; rw [HP.out, HQ.out]
    have hv1 : VecI .u64 85 w8 g v8 := by rw [← hw, ← hs]; exact Blk.drew (VecI.set_ HV7.out b _)
    have HV8 := hid hv1
    have HL8 := hid (show v8.length = 16 by rw [← hs, List.length_set]; exact HL7.out)
    have HF8 := hid (show Fr (fun i => i = g) w w8 by rw [← hw]; exact (HF7.out.set1 _ _).drew)
    try rw [hw]
    clear hw hs hv1 c1 c2 hz HV7 HL7 HF7 HP HQ
    go_wp2_with fail
    go_end0
    refine ⟨rfl, ?_, HF8.out⟩
    have e : mix v a b c d x y = v8 := by unfold mix; rw [HQ0.out, HN1.out, HN2.out, HN3.out, HN4.out, HN5.out, HN6.out, HN7.out, HN8.out]
    rw [e]
    exact HV8.out
end Go.Proofs.YtcbogkpgkdijaaaDoor.BlaA
