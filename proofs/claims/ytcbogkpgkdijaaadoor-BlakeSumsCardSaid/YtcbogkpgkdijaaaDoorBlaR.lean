/- Walks of layer blake: the document's pieces: turn, row, first numbers, mix. -/
import Derived.Test.YtcbogkpgkdijaaaDoorBlaC
set_option linter.unusedVariables false
set_option linter.unusedSimpArgs false
namespace Go.Proofs.YtcbogkpgkdijaaaDoor.BlaR
open Go.IntWalk Go.RowKit Go.Proofs.YtcbogkpgkdijaaaDoor.Mem Go.Proofs.YtcbogkpgkdijaaaDoor.Num Go.Proofs.YtcbogkpgkdijaaaDoor.BitsA Go.Proofs.YtcbogkpgkdijaaaDoor.BitsB Go.Proofs.YtcbogkpgkdijaaaDoor.App Go.Proofs.YtcbogkpgkdijaaaDoor.BlaP Go.Proofs.YtcbogkpgkdijaaaDoor.BlaB Go.Proofs.YtcbogkpgkdijaaaDoor.BlaA Go.Proofs.YtcbogkpgkdijaaaDoor.BlaC

theorem or_nat64 (a b : Nat) (ha : a < 2 ^ 64) (hb : b < 2 ^ 64) : Go.bits .or .u64 a b = ((a ||| b : Nat) : Int) := by
  have hx : a ||| b < 2 ^ 64 := Nat.or_lt_two_pow ha hb
  have h1 : (BitVec.ofInt 64 (a : Int)).toNat = a := by
    rw [BitVec.ofInt_natCast, BitVec.toNat_ofNat]; exact Nat.mod_eq_of_lt ha
  have h2 : (BitVec.ofInt 64 (b : Int)).toNat = b := by
    rw [BitVec.ofInt_natCast, BitVec.toNat_ofNat]; exact Nat.mod_eq_of_lt hb
  show IntKind.u64.wrap ((BitVec.ofInt 64 (a : Int) ||| BitVec.ofInt 64 (b : Int)).toNat : Int) = _
  rw [BitVec.toNat_or, h1, h2, wrap_u64]
  omega
/-- The document's turn. -/
theorem ref_right64 (x : Int) (n : Nat) (m : Int) (hm : (n : Int) = m) (h1 : 1 ≤ n) (h2 : n ≤ 63) (w : World) (h0 : 0 ≤ x) (hx : x < 18446744073709551616) :
    Calls Tryd.prog 60 #[.int .u64 x, .int .i64 m] w fun e w' => e = .returned (.int .u64 (ror 64 x m)) ∧ ∃ j, w' = w.drewN j := by
  subst hm
  have e1 : ((n : Int) % 64 + 64) % 64 = n := by omega
  have e2 : (n : Int) % 64 = n := by omega
  have e3 : ((n : Int) + 64) % 64 = n := by omega
  have e4 : ((n : Int) == 0) = false := by rw [beq_eq_false_iff_ne]; omega
  obtain ⟨y, rfl⟩ : ∃ y : Nat, x = y := ⟨x.toNat, by omega⟩
  have hy : y < 2 ^ 64 := by omega
  have hfin : Go.bits .or .u64 ((y : Int) / 2 ^ n) ((y : Int) * 2 ^ (64 - n) % 18446744073709551616) = ror 64 (y : Int) n := by
    unfold ror
    have e5 : ((-(n : Int)) % ((64 : Nat) : Int)).toNat = 64 - n := by omega
    have h3 : y / 2 ^ n < 2 ^ 64 := Nat.lt_of_le_of_lt (Nat.div_le_self _ _) hy
    have h4 : y * 2 ^ (64 - n) % 2 ^ 64 < 2 ^ 64 := Nat.mod_lt _ (by decide)
    rw [e5, Int.toNat_natCast, ← or_rot 64 (64 - n) y (by omega) hy, show ((y : Int) / 2 ^ n) = ((y / 2 ^ n : Nat) : Int) by simp, show ((y : Int) * 2 ^ (64 - n)) % 18446744073709551616 = ((y * 2 ^ (64 - n) % 2 ^ 64 : Nat) : Int) by simp,
      or_nat64 _ _ h3 h4, show 64 - (64 - n) = n by omega, Nat.or_comm]
  have HFIN := hid hfin
  clear hfin
  go_enter Tryd.func60, Tryd.ntmps60
  go_wp2
  go_quiet (fail)
  go_wp2
  go_ret
  exact ⟨ret_int HFIN.out, _, rfl⟩
theorem right_32 (x : Int) (w : World) (h0 : 0 ≤ x) (hx : x < 18446744073709551616) : Calls Tryd.prog 60 #[.int .u64 x, .int .i64 32] w fun e w' => e = .returned (.int .u64 (ror 64 x 32)) ∧ ∃ j, w' = w.drewN j := ref_right64 x 32 32 rfl (by decide) (by decide) w h0 hx
theorem right_24 (x : Int) (w : World) (h0 : 0 ≤ x) (hx : x < 18446744073709551616) : Calls Tryd.prog 60 #[.int .u64 x, .int .i64 24] w fun e w' => e = .returned (.int .u64 (ror 64 x 24)) ∧ ∃ j, w' = w.drewN j := ref_right64 x 24 24 rfl (by decide) (by decide) w h0 hx
theorem right_16 (x : Int) (w : World) (h0 : 0 ≤ x) (hx : x < 18446744073709551616) : Calls Tryd.prog 60 #[.int .u64 x, .int .i64 16] w fun e w' => e = .returned (.int .u64 (ror 64 x 16)) ∧ ∃ j, w' = w.drewN j := ref_right64 x 16 16 rfl (by decide) (by decide) w h0 hx
theorem right_63 (x : Int) (w : World) (h0 : 0 ≤ x) (hx : x < 18446744073709551616) : Calls Tryd.prog 60 #[.int .u64 x, .int .i64 63] w fun e w' => e = .returned (.int .u64 (ror 64 x 63)) ∧ ∃ j, w' = w.drewN j := ref_right64 x 63 63 rfl (by decide) (by decide) w h0 hx
theorem first_calls (w : World) : Calls Tryd.prog 47 #[] w (NewVecN .u64 22 w 8 iv) := by
  go_enter Tryd.func47, Tryd.ntmps47
  go_wp2
  go_ret
  exact ⟨w.heap.size, rfl, Nat.le_refl _, Blk.new w 22 _, (Fr.refl _ w).alloc _⟩
theorem row_0 (r : Int) (hr0 : 0 ≤ r) (hr1 : r < 12) (h : r % 10 = 0) (w : World) : Calls Tryd.prog 49 #[.int .i64 r] w (NewVecN .i64 3 w 16 [0, 1, 2, 3, 4, 5, 6, 7, 8, 9, 10, 11, 12, 13, 14, 15]) := by
  go_enter Tryd.func49, Tryd.ntmps49
  go_wp2
  go_ret
  exact ⟨w.heap.size, rfl, Nat.le_refl _, Blk.new w 3 _, (Fr.refl _ w).alloc _⟩
theorem row_1 (r : Int) (hr0 : 0 ≤ r) (hr1 : r < 12) (h : r % 10 = 1) (w : World) : Calls Tryd.prog 49 #[.int .i64 r] w (NewVecN .i64 3 w 16 [14, 10, 4, 8, 9, 15, 13, 6, 1, 12, 0, 2, 11, 7, 5, 3]) := by
  go_enter Tryd.func49, Tryd.ntmps49
  go_wp2
  go_ret
  exact ⟨w.heap.size, rfl, Nat.le_refl _, Blk.new w 3 _, (Fr.refl _ w).alloc _⟩
theorem row_2 (r : Int) (hr0 : 0 ≤ r) (hr1 : r < 12) (h : r % 10 = 2) (w : World) : Calls Tryd.prog 49 #[.int .i64 r] w (NewVecN .i64 3 w 16 [11, 8, 12, 0, 5, 2, 15, 13, 10, 14, 3, 6, 7, 1, 9, 4]) := by
  go_enter Tryd.func49, Tryd.ntmps49
  go_wp2
  go_ret
  exact ⟨w.heap.size, rfl, Nat.le_refl _, Blk.new w 3 _, (Fr.refl _ w).alloc _⟩
theorem row_3 (r : Int) (hr0 : 0 ≤ r) (hr1 : r < 12) (h : r % 10 = 3) (w : World) : Calls Tryd.prog 49 #[.int .i64 r] w (NewVecN .i64 3 w 16 [7, 9, 3, 1, 13, 12, 11, 14, 2, 6, 5, 10, 4, 0, 15, 8]) := by
  go_enter Tryd.func49, Tryd.ntmps49
  go_wp2
  go_ret
  exact ⟨w.heap.size, rfl, Nat.le_refl _, Blk.new w 3 _, (Fr.refl _ w).alloc _⟩
theorem row_4 (r : Int) (hr0 : 0 ≤ r) (hr1 : r < 12) (h : r % 10 = 4) (w : World) : Calls Tryd.prog 49 #[.int .i64 r] w (NewVecN .i64 3 w 16 [9, 0, 5, 7, 2, 4, 10, 15, 14, 1, 11, 12, 6, 8, 3, 13]) := by
  go_enter Tryd.func49, Tryd.ntmps49
  go_wp2
  go_ret
  exact ⟨w.heap.size, rfl, Nat.le_refl _, Blk.new w 3 _, (Fr.refl _ w).alloc _⟩
theorem row_5 (r : Int) (hr0 : 0 ≤ r) (hr1 : r < 12) (h : r % 10 = 5) (w : World) : Calls Tryd.prog 49 #[.int .i64 r] w (NewVecN .i64 3 w 16 [2, 12, 6, 10, 0, 11, 8, 3, 4, 13, 7, 5, 15, 14, 1, 9]) := by
  go_enter Tryd.func49, Tryd.ntmps49
  go_wp2
  go_ret
  exact ⟨w.heap.size, rfl, Nat.le_refl _, Blk.new w 3 _, (Fr.refl _ w).alloc _⟩
theorem row_6 (r : Int) (hr0 : 0 ≤ r) (hr1 : r < 12) (h : r % 10 = 6) (w : World) : Calls Tryd.prog 49 #[.int .i64 r] w (NewVecN .i64 3 w 16 [12, 5, 1, 15, 14, 13, 4, 10, 0, 7, 6, 3, 9, 2, 8, 11]) := by
  go_enter Tryd.func49, Tryd.ntmps49
  go_wp2
  go_ret
  exact ⟨w.heap.size, rfl, Nat.le_refl _, Blk.new w 3 _, (Fr.refl _ w).alloc _⟩
theorem row_7 (r : Int) (hr0 : 0 ≤ r) (hr1 : r < 12) (h : r % 10 = 7) (w : World) : Calls Tryd.prog 49 #[.int .i64 r] w (NewVecN .i64 3 w 16 [13, 11, 7, 14, 12, 1, 3, 9, 5, 0, 15, 4, 8, 6, 2, 10]) := by
  go_enter Tryd.func49, Tryd.ntmps49
  go_wp2
  go_ret
  exact ⟨w.heap.size, rfl, Nat.le_refl _, Blk.new w 3 _, (Fr.refl _ w).alloc _⟩
theorem row_8 (r : Int) (hr0 : 0 ≤ r) (hr1 : r < 12) (h : r % 10 = 8) (w : World) : Calls Tryd.prog 49 #[.int .i64 r] w (NewVecN .i64 3 w 16 [6, 15, 14, 9, 11, 3, 0, 8, 12, 2, 13, 7, 1, 4, 10, 5]) := by
  go_enter Tryd.func49, Tryd.ntmps49
  go_wp2
  go_ret
  exact ⟨w.heap.size, rfl, Nat.le_refl _, Blk.new w 3 _, (Fr.refl _ w).alloc _⟩
theorem row_9 (r : Int) (hr0 : 0 ≤ r) (hr1 : r < 12) (h : r % 10 = 9) (w : World) : Calls Tryd.prog 49 #[.int .i64 r] w (NewVecN .i64 3 w 16 [10, 2, 8, 4, 7, 6, 1, 5, 15, 11, 9, 14, 3, 12, 13, 0]) := by
  go_enter Tryd.func49, Tryd.ntmps49
  go_wp2
  go_ret
  exact ⟨w.heap.size, rfl, Nat.le_refl _, Blk.new w 3 _, (Fr.refl _ w).alloc _⟩
theorem row_calls (r : Nat) (hr : r < 12) (w : World) : Calls Tryd.prog 49 #[.int .i64 r] w (NewVecN .i64 3 w 16 (rowOf (r % 10))) := by
  have h : r % 10 = 0 ∨ r % 10 = 1 ∨ r % 10 = 2 ∨ r % 10 = 3 ∨ r % 10 = 4 ∨ r % 10 = 5 ∨ r % 10 = 6 ∨ r % 10 = 7 ∨ r % 10 = 8 ∨ r % 10 = 9 := by omega
  rcases h with h | h | h | h | h | h | h | h | h | h <;> rw [h]
  · exact row_0 r (by omega) (by omega) (by omega) w
  · exact row_1 r (by omega) (by omega) (by omega) w
  · exact row_2 r (by omega) (by omega) (by omega) w
  · exact row_3 r (by omega) (by omega) (by omega) w
  · exact row_4 r (by omega) (by omega) (by omega) w
  · exact row_5 r (by omega) (by omega) (by omega) w
  · exact row_6 r (by omega) (by omega) (by omega) w
  · exact row_7 r (by omega) (by omega) (by omega) w
  · exact row_8 r (by omega) (by omega) (by omega) w
  · exact row_9 r (by omega) (by omega) (by omega) w
theorem own_at {k : IntKind} {e : TypeId} {w : World} {base g n c : Nat} {xs : List Int} (h : Own k e w base (.slice (some ⟨g, 0, none⟩) n c) xs) (i : Nat) (hi : i < xs.length) : w.cell? ⟨g, i, none⟩ = some (.int k (xs.getD i 0)) := by
  have := rd_cell h.rd.1 i hi
  rw [Nat.zero_add] at this
  exact this
theorem wrap4 (p q x : Int) : (p + q + x) % 18446744073709551616 = IntKind.u64.wrap (IntKind.u64.wrap (p + q) + x) := by simp only [wrap_u64]; omega
/-- One step's end. -/
def Stepped (base V cV : Nat) (w : World) (v : List Int) (wx : World) : Prop := Own .u64 22 wx base (.slice (some ⟨V, 0, none⟩) 16 cV) v ∧ Fr (fun i => i = V) w wx
theorem stepped {base V cV : Nat} {w : World} {v : List Int} (h : Own .u64 22 w base (.slice (some ⟨V, 0, none⟩) 16 cV) v) (i : Nat) (hi : i < v.length) (u : Int) (n : Nat) : Stepped base V cV w (v.set i u) ((w.setCell ⟨V, i, none⟩ (.int .u64 u)).drewN n) :=
  ⟨(own_set h i hi u).fr (drewN_fr (fun _ => False) _ n) (fun _ _ h => h), ((Fr.refl (fun i => i = V) w).set1 i _).drewN n⟩
theorem stepped2 {base V cV : Nat} {w : World} {v : List Int} (h : Own .u64 22 w base (.slice (some ⟨V, 0, none⟩) 16 cV) v) (i : Nat) (hi : i < v.length) (u : Int) (n : Nat) : Stepped base V cV w (v.set i u) ((w.drewN n).setCell ⟨V, i, none⟩ (.int .u64 u)) :=
  ⟨own_set (h.fr (drewN_fr (fun _ => False) _ n) (fun _ _ h => h)) i hi u, ((drewN_fr (fun i => i = V) w n).set1 i _)⟩
set_option maxRecDepth 100000 in
set_option maxHeartbeats 8000000 in
theorem mix_calls (base V cV : Nat) (v : List Int) (a b c d : Nat) (x y : Int) (w : World) (hv : Own .u64 22 w base (.slice (some ⟨V, 0, none⟩) 16 cV) v) (hl : v.length = 16) (hU : U64 v) (ha : a < 16) (hb : b < 16) (hc : c < 16) (hd : d < 16) (hx : 0 ≤ x ∧ x < 18446744073709551616) (hy : 0 ≤ y ∧ y < 18446744073709551616) :
    Calls Tryd.prog 50 #[.slice (some ⟨V, 0, none⟩) 16 cV, .int .i64 a, .int .i64 b, .int .i64 c, .int .i64 d, .int .u64 x, .int .u64 y] w
      fun e w' => e = .returned (.tuple #[]) ∧ Stepped base V cV w (mix v a b c d x y) w' := by
  obtain ⟨x0, x1⟩ := hx
  obtain ⟨y0, y1⟩ := hy
  have HV0 := hid hv
  have HL0 := hid hl
  have HU0 := hid hU
  have HF0 := hid (Fr.refl (fun i => i = V) w)
  clear hv hl hU
  have ia : (a : Int) < 16 := by omega
  have ib : (b : Int) < 16 := by omega
  have ic : (c : Int) < 16 := by omega
  have id_ : (d : Int) < 16 := by omega
  have ja : (0 : Int) ≤ a := by omega
  have jb : (0 : Int) ≤ b := by omega
  have jc : (0 : Int) ≤ c := by omega
  have jd : (0 : Int) ≤ d := by omega
  go_enter Tryd.func50, Tryd.ntmps50
  obtain ⟨v0, hv0⟩ : ∃ v0, v = v0 := ⟨_, rfl⟩
  rw [hv0] at HV0 HL0 HU0
  have HQ0 := hid hv0
  clear hv0
  -- step 1
  obtain ⟨p0, hp⟩ : ∃ z, at_ v0 a = z := ⟨_, rfl⟩
  obtain ⟨q0, hq⟩ : ∃ z, at_ v0 b = z := ⟨_, rfl⟩
  have c1 : w.cell? ⟨V, a, none⟩ = some (.int .u64 p0) := by rw [← hp]; exact own_at HV0.out a (by rw [HL0.out]; omega)
  have c2 : w.cell? ⟨V, b, none⟩ = some (.int .u64 q0) := by rw [← hq]; exact own_at HV0.out b (by rw [HL0.out]; omega)
  have hz := own_froz HV0.out a
  obtain ⟨v1, hn⟩ : ∃ z, addS v0 a b x = z := ⟨_, rfl⟩
  have HN1 := hid hn
  have HP := hid hp
  have HQ := hid hq
  clear hp hq hn
  have hs : v0.set a (IntKind.u64.wrap (IntKind.u64.wrap (p0 + q0) + x)) = v1 := by rw [← HN1.out]; unfold addS; rw [HP.out, HQ.out, wrap4]
  have HS := hid hs
  clear hs
  go_wp2_with fail
  go_cut [] from 14 (fun wx => Stepped base V cV w v1 wx)
  case first =>
    go_region
    all_goals
      go_wp2_with fail
      go_meet
      case rel =>
        rw [← HS.out]
        exact stepped HV0.out a (by rw [HL0.out]; omega) _ 1
  obtain ⟨hv1, hf1⟩ := hcut
  have HV1 := hid hv1
  have HL1 := hid (show v1.length = 16 by rw [← HS.out, List.length_set]; exact HL0.out)
  have HF1 := hid (HF0.out.then_ hf1 (fun _ _ h => h))
  obtain ⟨w1, rfl⟩ : ∃ w', w' = wc := ⟨_, rfl⟩
  clear hv1 hf1 c1 c2 hz HV0 HL0 HF0 HP HQ HS
  -- step 2
  obtain ⟨p1, hp⟩ : ∃ z, at_ v1 d = z := ⟨_, rfl⟩
  obtain ⟨q1, hq⟩ : ∃ z, at_ v1 a = z := ⟨_, rfl⟩
  have c1 : w1.cell? ⟨V, d, none⟩ = some (.int .u64 p1) := by rw [← hp]; exact own_at HV1.out d (by rw [HL1.out]; omega)
  have c2 : w1.cell? ⟨V, a, none⟩ = some (.int .u64 q1) := by rw [← hq]; exact own_at HV1.out a (by rw [HL1.out]; omega)
  have hz := own_froz HV1.out d
  obtain ⟨v2, hn⟩ : ∃ z, turnS v1 d a 32 = z := ⟨_, rfl⟩
  have HN2 := hid hn
  have HP := hid hp
  have HQ := hid hq
  clear hp hq hn
  have hs : v1.set d (ror 64 (X p1 q1) 32) = v2 := by rw [← HN2.out]; unfold turnS; rw [HP.out, HQ.out]
  have HS := hid hs
  clear hs
  go_wp2_with fail
  go_cut [] from 14 (fun wx => Stepped base V cV w1 v2 wx)
  case first =>
    go_region_with ((go_at_call 60; refine (right_32 _ _ (X_lt (a := p1) (b := q1)).1 (X_lt (a := p1) (b := q1)).2).mono ?_; rintro e w9 ⟨rfl, j9, rfl⟩))
    all_goals
      go_wp2_with fail
      go_meet
      case rel =>
        rw [← HS.out]
        exact stepped2 HV1.out d (by rw [HL1.out]; omega) _ _
  obtain ⟨hv1, hf1⟩ := hcut
  have HV2 := hid hv1
  have HL2 := hid (show v2.length = 16 by rw [← HS.out, List.length_set]; exact HL1.out)
  have HF2 := hid (HF1.out.then_ hf1 (fun _ _ h => h))
  obtain ⟨w2, rfl⟩ : ∃ w', w' = wc := ⟨_, rfl⟩
  clear hv1 hf1 c1 c2 hz HV1 HL1 HF1 HP HQ HS
  -- step 3
  obtain ⟨p2, hp⟩ : ∃ z, at_ v2 c = z := ⟨_, rfl⟩
  obtain ⟨q2, hq⟩ : ∃ z, at_ v2 d = z := ⟨_, rfl⟩
  have c1 : w2.cell? ⟨V, c, none⟩ = some (.int .u64 p2) := by rw [← hp]; exact own_at HV2.out c (by rw [HL2.out]; omega)
  have c2 : w2.cell? ⟨V, d, none⟩ = some (.int .u64 q2) := by rw [← hq]; exact own_at HV2.out d (by rw [HL2.out]; omega)
  have hz := own_froz HV2.out c
  obtain ⟨v3, hn⟩ : ∃ z, addS v2 c d 0 = z := ⟨_, rfl⟩
  have HN3 := hid hn
  have HP := hid hp
  have HQ := hid hq
  clear hp hq hn
  have hs : v2.set c (IntKind.u64.wrap (p2 + q2)) = v3 := by rw [← HN3.out]; unfold addS; rw [HP.out, HQ.out, Int.add_zero, ← wrap_u64]
  have HS := hid hs
  clear hs
  go_wp2_with fail
  go_cut [] from 14 (fun wx => Stepped base V cV w2 v3 wx)
  case first =>
    go_region
    all_goals
      go_wp2_with fail
      go_meet
      case rel =>
        rw [← HS.out]
        exact stepped HV2.out c (by rw [HL2.out]; omega) _ 1
  obtain ⟨hv1, hf1⟩ := hcut
  have HV3 := hid hv1
  have HL3 := hid (show v3.length = 16 by rw [← HS.out, List.length_set]; exact HL2.out)
  have HF3 := hid (HF2.out.then_ hf1 (fun _ _ h => h))
  obtain ⟨w3, rfl⟩ : ∃ w', w' = wc := ⟨_, rfl⟩
  clear hv1 hf1 c1 c2 hz HV2 HL2 HF2 HP HQ HS
  -- step 4
  obtain ⟨p3, hp⟩ : ∃ z, at_ v3 b = z := ⟨_, rfl⟩
  obtain ⟨q3, hq⟩ : ∃ z, at_ v3 c = z := ⟨_, rfl⟩
  have c1 : w3.cell? ⟨V, b, none⟩ = some (.int .u64 p3) := by rw [← hp]; exact own_at HV3.out b (by rw [HL3.out]; omega)
  have c2 : w3.cell? ⟨V, c, none⟩ = some (.int .u64 q3) := by rw [← hq]; exact own_at HV3.out c (by rw [HL3.out]; omega)
  have hz := own_froz HV3.out b
  obtain ⟨v4, hn⟩ : ∃ z, turnS v3 b c 24 = z := ⟨_, rfl⟩
  have HN4 := hid hn
  have HP := hid hp
  have HQ := hid hq
  clear hp hq hn
  have hs : v3.set b (ror 64 (X p3 q3) 24) = v4 := by rw [← HN4.out]; unfold turnS; rw [HP.out, HQ.out]
  have HS := hid hs
  clear hs
  go_wp2_with fail
  go_cut [] from 14 (fun wx => Stepped base V cV w3 v4 wx)
  case first =>
    go_region_with ((go_at_call 60; refine (right_24 _ _ (X_lt (a := p3) (b := q3)).1 (X_lt (a := p3) (b := q3)).2).mono ?_; rintro e w9 ⟨rfl, j9, rfl⟩))
    all_goals
      go_wp2_with fail
      go_meet
      case rel =>
        rw [← HS.out]
        exact stepped2 HV3.out b (by rw [HL3.out]; omega) _ _
  obtain ⟨hv1, hf1⟩ := hcut
  have HV4 := hid hv1
  have HL4 := hid (show v4.length = 16 by rw [← HS.out, List.length_set]; exact HL3.out)
  have HF4 := hid (HF3.out.then_ hf1 (fun _ _ h => h))
  obtain ⟨w4, rfl⟩ : ∃ w', w' = wc := ⟨_, rfl⟩
  clear hv1 hf1 c1 c2 hz HV3 HL3 HF3 HP HQ HS
  -- step 5
  obtain ⟨p4, hp⟩ : ∃ z, at_ v4 a = z := ⟨_, rfl⟩
  obtain ⟨q4, hq⟩ : ∃ z, at_ v4 b = z := ⟨_, rfl⟩
  have c1 : w4.cell? ⟨V, a, none⟩ = some (.int .u64 p4) := by rw [← hp]; exact own_at HV4.out a (by rw [HL4.out]; omega)
  have c2 : w4.cell? ⟨V, b, none⟩ = some (.int .u64 q4) := by rw [← hq]; exact own_at HV4.out b (by rw [HL4.out]; omega)
  have hz := own_froz HV4.out a
  obtain ⟨v5, hn⟩ : ∃ z, addS v4 a b y = z := ⟨_, rfl⟩
  have HN5 := hid hn
  have HP := hid hp
  have HQ := hid hq
  clear hp hq hn
  have hs : v4.set a (IntKind.u64.wrap (IntKind.u64.wrap (p4 + q4) + y)) = v5 := by rw [← HN5.out]; unfold addS; rw [HP.out, HQ.out, wrap4]
  have HS := hid hs
  clear hs
  go_wp2_with fail
  go_cut [] from 14 (fun wx => Stepped base V cV w4 v5 wx)
  case first =>
    go_region
    all_goals
      go_wp2_with fail
      go_meet
      case rel =>
        rw [← HS.out]
        exact stepped HV4.out a (by rw [HL4.out]; omega) _ 1
  obtain ⟨hv1, hf1⟩ := hcut
  have HV5 := hid hv1
  have HL5 := hid (show v5.length = 16 by rw [← HS.out, List.length_set]; exact HL4.out)
  have HF5 := hid (HF4.out.then_ hf1 (fun _ _ h => h))
  obtain ⟨w5, rfl⟩ : ∃ w', w' = wc := ⟨_, rfl⟩
  clear hv1 hf1 c1 c2 hz HV4 HL4 HF4 HP HQ HS
  -- step 6
  obtain ⟨p5, hp⟩ : ∃ z, at_ v5 d = z := ⟨_, rfl⟩
  obtain ⟨q5, hq⟩ : ∃ z, at_ v5 a = z := ⟨_, rfl⟩
  have c1 : w5.cell? ⟨V, d, none⟩ = some (.int .u64 p5) := by rw [← hp]; exact own_at HV5.out d (by rw [HL5.out]; omega)
  have c2 : w5.cell? ⟨V, a, none⟩ = some (.int .u64 q5) := by rw [← hq]; exact own_at HV5.out a (by rw [HL5.out]; omega)
  have hz := own_froz HV5.out d
  obtain ⟨v6, hn⟩ : ∃ z, turnS v5 d a 16 = z := ⟨_, rfl⟩
  have HN6 := hid hn
  have HP := hid hp
  have HQ := hid hq
  clear hp hq hn
  have hs : v5.set d (ror 64 (X p5 q5) 16) = v6 := by rw [← HN6.out]; unfold turnS; rw [HP.out, HQ.out]
  have HS := hid hs
  clear hs
  go_wp2_with fail
  go_cut [] from 14 (fun wx => Stepped base V cV w5 v6 wx)
  case first =>
    go_region_with ((go_at_call 60; refine (right_16 _ _ (X_lt (a := p5) (b := q5)).1 (X_lt (a := p5) (b := q5)).2).mono ?_; rintro e w9 ⟨rfl, j9, rfl⟩))
    all_goals
      go_wp2_with fail
      go_meet
      case rel =>
        rw [← HS.out]
        exact stepped2 HV5.out d (by rw [HL5.out]; omega) _ _
  obtain ⟨hv1, hf1⟩ := hcut
  have HV6 := hid hv1
  have HL6 := hid (show v6.length = 16 by rw [← HS.out, List.length_set]; exact HL5.out)
  have HF6 := hid (HF5.out.then_ hf1 (fun _ _ h => h))
  obtain ⟨w6, rfl⟩ : ∃ w', w' = wc := ⟨_, rfl⟩
  clear hv1 hf1 c1 c2 hz HV5 HL5 HF5 HP HQ HS
  -- step 7
  obtain ⟨p6, hp⟩ : ∃ z, at_ v6 c = z := ⟨_, rfl⟩
  obtain ⟨q6, hq⟩ : ∃ z, at_ v6 d = z := ⟨_, rfl⟩
  have c1 : w6.cell? ⟨V, c, none⟩ = some (.int .u64 p6) := by rw [← hp]; exact own_at HV6.out c (by rw [HL6.out]; omega)
  have c2 : w6.cell? ⟨V, d, none⟩ = some (.int .u64 q6) := by rw [← hq]; exact own_at HV6.out d (by rw [HL6.out]; omega)
  have hz := own_froz HV6.out c
  obtain ⟨v7, hn⟩ : ∃ z, addS v6 c d 0 = z := ⟨_, rfl⟩
  have HN7 := hid hn
  have HP := hid hp
  have HQ := hid hq
  clear hp hq hn
  have hs : v6.set c (IntKind.u64.wrap (p6 + q6)) = v7 := by rw [← HN7.out]; unfold addS; rw [HP.out, HQ.out, Int.add_zero, ← wrap_u64]
  have HS := hid hs
  clear hs
  go_wp2_with fail
  go_cut [] from 14 (fun wx => Stepped base V cV w6 v7 wx)
  case first =>
    go_region
    all_goals
      go_wp2_with fail
      go_meet
      case rel =>
        rw [← HS.out]
        exact stepped HV6.out c (by rw [HL6.out]; omega) _ 1
  obtain ⟨hv1, hf1⟩ := hcut
  have HV7 := hid hv1
  have HL7 := hid (show v7.length = 16 by rw [← HS.out, List.length_set]; exact HL6.out)
  have HF7 := hid (HF6.out.then_ hf1 (fun _ _ h => h))
  obtain ⟨w7, rfl⟩ : ∃ w', w' = wc := ⟨_, rfl⟩
  clear hv1 hf1 c1 c2 hz HV6 HL6 HF6 HP HQ HS
  -- step 8
  obtain ⟨p7, hp⟩ : ∃ z, at_ v7 b = z := ⟨_, rfl⟩
  obtain ⟨q7, hq⟩ : ∃ z, at_ v7 c = z := ⟨_, rfl⟩
  have c1 : w7.cell? ⟨V, b, none⟩ = some (.int .u64 p7) := by rw [← hp]; exact own_at HV7.out b (by rw [HL7.out]; omega)
  have c2 : w7.cell? ⟨V, c, none⟩ = some (.int .u64 q7) := by rw [← hq]; exact own_at HV7.out c (by rw [HL7.out]; omega)
  have hz := own_froz HV7.out b
  obtain ⟨v8, hn⟩ : ∃ z, turnS v7 b c 63 = z := ⟨_, rfl⟩
  have HN8 := hid hn
  have HP := hid hp
  have HQ := hid hq
  clear hp hq hn
  have hs : v7.set b (ror 64 (X p7 q7) 63) = v8 := by rw [← HN8.out]; unfold turnS; rw [HP.out, HQ.out]
  have HS := hid hs
  clear hs
  have e : mix v a b c d x y = v8 := by unfold mix; rw [HQ0.out, HN1.out, HN2.out, HN3.out, HN4.out, HN5.out, HN6.out, HN7.out, HN8.out]
  have HE := hid e
  clear e
  go_wp2_with fail
  go_region_with ((go_at_call 60; refine (right_63 _ _ (X_lt (a := p7) (b := q7)).1 (X_lt (a := p7) (b := q7)).2).mono ?_; rintro e w9 ⟨rfl, j9, rfl⟩))
  all_goals
    have ST := stepped2 HV7.out b (by rw [HL7.out]; omega) (ror 64 (X p7 q7) 63) (1 + j9)
    rw [HS.out] at ST
    have HST := hid ST
    clear ST c1 c2 hz
    go_wp2_with fail
    go_end0
    rw [HE.out]
    exact ⟨rfl, HST.out.1, HF7.out.then_ HST.out.2 (fun _ _ h => h)⟩
end Go.Proofs.YtcbogkpgkdijaaaDoor.BlaR
