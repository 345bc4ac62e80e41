/- Layer mem: the document's longest key; bounds. -/
import Derived.Test.YtkmgiodhaaajjaaDoorMemA
import Derived.Deep.RegionHeld3
set_option linter.unusedVariables false
set_option linter.unusedSimpArgs false
namespace Go.Proofs.YtkmgiodhaaajjaaDoor.MemB
open Go.IntWalk Go.RowKit Go.Proofs.YtkmgiodhaaajjaaDoor.Mem Go.Proofs.YtkmgiodhaaajjaaDoor.App Go.Proofs.YtkmgiodhaaajjaaDoor.FloatB Go.Proofs.YtkmgiodhaaajjaaDoor.ItemP Go.Proofs.YtkmgiodhaaajjaaDoor.ItemM Go.Proofs.YtkmgiodhaaajjaaDoor.SchP Go.Proofs.YtkmgiodhaaajjaaDoor.SchM Go.Proofs.YtkmgiodhaaajjaaDoor.SchG Go.Proofs.YtkmgiodhaaajjaaDoor.SchJ Go.Proofs.YtkmgiodhaaajjaaDoor.SchN Go.Proofs.YtkmgiodhaaajjaaDoor.SchR Go.Proofs.YtkmgiodhaaajjaaDoor.MemA

set_option maxRecDepth 100000 in
set_option maxHeartbeats 8000000 in
theorem rlongest_calls (ns : List Nod) (A : Option Addr) (M c h : Nat) (w : World) (hM : ns.length = M) (hc : M ≤ c) (hMm : M ≤ 1048576) (H : RdN w h A ns) :
    Calls Tryd.prog 44 #[.agg #[.slice A M c]] w fun e w' => e = .returned (.int .i64 (longN ns : Nat)) ∧ Fr (fun _ => False) w w' := by
  have HR := hid H
  have HM := hid hM
  have HLB := hid (long_rd H)
  clear H hM
  obtain ⟨w1, hw1⟩ : ∃ w1, w.alloc (.cells #[.slice A M c] 42) = w1 := ⟨_, rfl⟩
  have HF1 := hid (show Fr (fun _ => False) w w1 by rw [← hw1]; exact (Fr.refl _ w).alloc _)
  have HBS := hid (show Blk w1 w.heap.size 42 #[.slice A M c] by rw [← hw1]; exact Blk.new w _ _)
  have HW1 := hid hw1
  have HR1 := hid (HR.out.fr0 HF1.out)
  obtain ⟨s0, _⟩ := blk1 HBS.out
  clear hw1
  go_enter Tryd.func44, Tryd.ntmps44
  go_wp2_with fail
  rw [HW1.out]
  go_loop [3, 4] (fun v3 v4 => ∃ j : Nat, j ≤ M ∧ v4 = .int .i64 j ∧ v3 = .int .i64 (longN (ns.take j) : Nat)) (fun _ v4 => M - (intOf v4).toNat)
  case atStart => exact ⟨0, Nat.zero_le _, rfl, rfl⟩
  case round =>
    obtain ⟨j, hj, rfl, rfl⟩ := hrel
    by_cases hlt : j < M
    · obtain ⟨ad, Av, cv, Al, cl, Af, cf, rfl, hab, hnine, hr⟩ := RdN.at_ HR1.out j (by rw [HM.out]; exact hlt)
      have HNS := hid (longN_step ns j (by rw [HM.out]; exact hlt))
      have HNG := hid (longN_get ns j (by rw [HM.out]; exact hlt))
      obtain ⟨x, hx⟩ : ∃ x, ns[j]'(by rw [HM.out]; exact hlt) = x := ⟨_, rfl⟩
      rw [hx] at hnine hr HNS HNG
      have HRX := hid hr
      obtain ⟨_, _, _, _, _, _, _, _, n8⟩ := hnine
      have hfc := hr.fc
      have hfm := hr.fm
      obtain ⟨x8, hx8⟩ : ∃ q, x.f.length = q := ⟨_, rfl⟩
      rw [hx8] at n8 hfc hfm
      have HX8 := hid hx8
      obtain ⟨T, hT⟩ : ∃ t, longN (ns.take j) = t := ⟨_, rfl⟩
      have hTB : T ≤ 140737488355328 := by rw [← hT]; exact Nat.le_trans (longN_take ns j) HLB.out
      rw [hT] at HNS ⊢
      have hj0 : (0 : Int) ≤ (j : Int) := by omega
      have hjm : (j : Int) < (M : Int) := by omega
      have hjc : (j : Int) < (c : Int) := by omega
      clear hx hr hx8 hT
      go_wp2_with fail
      go_loop [3, 5] (fun v3 v5 => ∃ q : Nat, q ≤ x8 ∧ v5 = .int .i64 q ∧ v3 = .int .i64 (max T (longF (x.f.take q)) : Nat)) (fun _ v5 => x8 - (intOf v5).toNat)
      case atStart => exact ⟨0, Nat.zero_le _, rfl, congrArg (fun n : Nat => Value.int .i64 (n : Int)) (by simp [longF])⟩
      case round =>
        obtain ⟨q, hq, rfl, rfl⟩ := hrel
        by_cases hlq : q < x8
        · obtain ⟨ax, rfl, _, hks, _, f0, f1, f2⟩ := HRX.out.f q (by rw [HX8.out]; exact hlq)
          have HFS := hid (longF_step x.f q (by rw [HX8.out]; exact hlq))
          obtain ⟨y, hy⟩ : ∃ y, x.f[q]'(by rw [HX8.out]; exact hlq) = y := ⟨_, rfl⟩
          rw [hy] at hks f0 f1 f2 HFS
          obtain ⟨key, node, opt⟩ := y
          simp only at hks f0 f1 f2 HFS
          obtain ⟨R, hR⟩ : ∃ r, max T (longF (x.f.take q)) = r := ⟨_, rfl⟩
          have hRB : R ≤ 140737488355328 := by
            have h1 := Nat.le_trans (longF_take x.f q) (Nat.le_trans HNG.out HLB.out)
            omega
          have HRE := hid hR
          rw [hR]
          have hq0 : (0 : Int) ≤ (q : Int) := by omega
          have hqm : (q : Int) < (x8 : Int) := by omega
          have hqc : (q : Int) < (cf : Int) := by omega
          clear hy hR
          by_cases hk : R < key.size
          · have hk' : (R : Int) < (key.size : Int) := by omega
            go_wp2_with fail
            go_round
            case rel => exact ⟨q + 1, by omega, by go_num, congrArg (fun n : Nat => Value.int .i64 (n : Int)) (by have := HRE.out; rw [HFS.out]; omega)⟩
            case measure => simp [intOf]; omega
          · have hk' : ¬ (R : Int) < (key.size : Int) := by omega
            go_wp2_with fail
            go_round
            case rel => exact ⟨q + 1, by omega, by go_num, congrArg (fun n : Nat => Value.int .i64 (n : Int)) (by have := HRE.out; rw [HFS.out]; omega)⟩
            case measure => simp [intOf]; omega
        · obtain rfl : q = x8 := by omega
          have htk : x.f.take q = x.f := List.take_of_length_le (by rw [HX8.out]; omega)
          rw [htk]
          have HFQ := hid (show max T (longF x.f) = longN (ns.take (j + 1)) by rw [HNS.out])
          rw [HFQ.out]
          clear htk
          go_wp2_with fail
          go_round
          case rel => exact ⟨j + 1, by omega, by go_num, rfl⟩
          case measure => simp [intOf]; omega
    · obtain rfl : j = M := by omega
      go_wp2_with fail
      go_ret
      refine ⟨?_, HF1.out⟩
      rw [List.take_of_length_le (by rw [HM.out]; omega)]
      rfl

set_option maxRecDepth 20000 in
set_option maxHeartbeats 4000000 in
theorem open_calls (d k s : Int) (ns : List Nod) (A : Option Addr) (M c h : Nat) (w : World) (hM : ns.length = M) (hc : M ≤ c) (hMm : M ≤ 1048576) (H : RdN w h A ns) :
    Calls Tryd.prog 81 #[.agg #[.int .i64 d, .int .i64 k, .int .i64 s], .agg #[.slice A M c]] w fun e w' => e = .returned (.int .i64 (if right d k s = false then 15 else (checkS ns).2)) ∧ Fr (fun _ => False) w w' := by
  have HR := hid H
  have HM := hid hM
  obtain ⟨r, hr⟩ : ∃ r, (if right d k s = false then 15 else (checkS ns).2) = r := ⟨_, rfl⟩
  have HRE := hid hr
  rw [hr]
  clear H hM hr
  obtain ⟨b, hb⟩ : ∃ b, right d k s = b := ⟨_, rfl⟩
  have HB := hid hb
  clear hb
  obtain ⟨w1, hw1⟩ : ∃ w1, (w.alloc (.cells #[.int .i64 d, .int .i64 k, .int .i64 s] 59)).alloc (.cells #[.slice A M c] 42) = w1 := ⟨_, rfl⟩
  have HF1 := hid (show Fr (fun _ => False) w w1 by rw [← hw1]; exact fr_2 _ _ _)
  have HBL := hid (show Blk w1 w.heap.size 59 #[.int .i64 d, .int .i64 k, .int .i64 s] by rw [← hw1]; exact (Blk.new w _ _).alloc _)
  have HBS := hid (show Blk w1 (w.heap.size + 1) 42 #[.slice A M c] by rw [← hw1]; have := Blk.new (w.alloc (.cells #[.int .i64 d, .int .i64 k, .int .i64 s] 59)) 42 #[.slice A M c]; rwa [World.size_alloc] at this)
  have HW1 := hid hw1
  clear hw1
  obtain ⟨l0, l1, l2⟩ := blk3 HBL.out
  go_enter Tryd.func81, Tryd.ntmps81
  go_wp2_with fail
  rw [HW1.out]
  refine (right_calls d k s w1).mono ?_
  rintro e w2 ⟨rfl, hf⟩
  have HF2 := hid hf
  rw [HB.out]
  clear hf l0 l1 l2
  obtain ⟨s0, _⟩ := blk1 (HBS.out.fr HF2.out (fun h => h))
  cases b with
  | false =>
    have HE := hid (show r = 15 by rw [← HRE.out, if_pos HB.out])
    go_wp2_with fail
    go_ret
    exact ⟨by rw [HE.out]; rfl, HF1.out.trans HF2.out⟩
  | true =>
    have HE := hid (show r = (checkS ns).2 by rw [← HRE.out, if_neg (by rw [HB.out]; simp)])
    go_wp2_with fail
    refine (rcheck_calls ns A M c h w2 HM.out hc hMm ((HR.out.fr0 HF1.out).fr0 HF2.out)).mono ?_
    rintro e w3 ⟨rfl, hf⟩
    have HF3 := hid (HF2.out.then_ hf (fun _ _ h => h))
    clear hf s0
    go_wp2_with fail
    go_ret
    exact ⟨by rw [HE.out]; rfl, HF1.out.trans HF3.out⟩
end Go.Proofs.YtkmgiodhaaajjaaDoor.MemB
