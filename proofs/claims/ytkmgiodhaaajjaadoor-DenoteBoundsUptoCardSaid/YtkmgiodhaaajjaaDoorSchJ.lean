/- Layer schema: whether a schema is well-formed; whether two are the same. -/
import Derived.Test.YtkmgiodhaaajjaaDoorSchI
set_option linter.unusedVariables false
set_option linter.unusedSimpArgs false
namespace Go.Proofs.YtkmgiodhaaajjaaDoor.SchJ
open Go.IntWalk Go.RowKit Go.Proofs.YtkmgiodhaaajjaaDoor.Mem Go.Proofs.YtkmgiodhaaajjaaDoor.App Go.Proofs.YtkmgiodhaaajjaaDoor.FloatB Go.Proofs.YtkmgiodhaaajjaaDoor.ItemP Go.Proofs.YtkmgiodhaaajjaaDoor.ItemM Go.Proofs.YtkmgiodhaaajjaaDoor.SchP Go.Proofs.YtkmgiodhaaajjaaDoor.SchM Go.Proofs.YtkmgiodhaaajjaaDoor.SchA Go.Proofs.YtkmgiodhaaajjaaDoor.SchB Go.Proofs.YtkmgiodhaaajjaaDoor.SchC Go.Proofs.YtkmgiodhaaajjaaDoor.SchD Go.Proofs.YtkmgiodhaaajjaaDoor.SchE Go.Proofs.YtkmgiodhaaajjaaDoor.SchF Go.Proofs.YtkmgiodhaaajjaaDoor.SchG Go.Proofs.YtkmgiodhaaajjaaDoor.SchH Go.Proofs.YtkmgiodhaaajjaaDoor.SchI

theorem ret_two {a b : Int} {p : Int × Int} (h : p = (a, b)) : Ending.returned (.tuple #[.int .i64 a, .int .i64 b]) = .returned (.tuple #[.int .i64 p.1, .int .i64 p.2]) := by rw [h]

set_option maxRecDepth 20000 in
set_option maxHeartbeats 4000000 in
theorem scheck_calls (ns : List Nod) (A : Option Addr) (M c h : Nat) (w : World) (hM : ns.length = M) (hc : M ≤ c) (hMm : M ≤ 1048576) (hD : Dbl w) (H : RdN w h A ns) :
    Calls Tryd.prog 28 #[.agg #[.slice A M c]] w fun e w' => e = .returned (.tuple #[.int .i64 (checkS ns).1, .int .i64 (checkS ns).2]) ∧ Fr (fun _ => False) w w' := by
  have HR := hid H
  have HDD := hid hD
  have HM := hid hM
  clear H hD hM
  obtain ⟨w1, hw1⟩ : ∃ w1, w.alloc (.cells #[.slice A M c] 42) = w1 := ⟨_, rfl⟩
  have HF1 := hid (show Fr (fun _ => False) w w1 by rw [← hw1]; exact (Fr.refl _ w).alloc _)
  have HBS := hid (show Blk w1 w.heap.size 42 #[.slice A M c] by rw [← hw1]; exact Blk.new w _ _)
  have HW1 := hid hw1
  clear hw1
  have hbad : (M < 1 ∨ (¬ M < 1 ∧ 256 < M)) ∨ (¬ M < 1 ∧ ¬ 256 < M) := by omega
  rcases hbad with hbad | ⟨h1, h2⟩
  · have HE := hid (show checkS ns = (0, 16) by rw [checkS, if_pos (by rw [HM.out]; omega)])
    rcases hbad with h1 | ⟨h1, h2⟩
    all_goals
      go_enter Tryd.func28, Tryd.ntmps28
      go_wp2_with fail
      rw [HW1.out]
      go_ret2
      exact ⟨ret_two HE.out, HF1.out⟩
  · have HE := hid (show checkS ns = checkFrom ns 0 M by rw [checkS, if_neg (by rw [HM.out]; omega), HM.out])
    go_enter Tryd.func28, Tryd.ntmps28
    go_wp2_with fail
    rw [HW1.out]
    go_loopw [19] (fun i wr => ∃ j : Nat, j ≤ M ∧ i = .int .i64 j ∧ Hid (∀ q (hq : q < ns.length), q < j → (ns[q]).wrong q M = 0) ∧ Hid (Fr (fun _ => False) w1 wr)) (fun i _ => M - (intOf i).toNat)
    case atStart => exact ⟨0, Nat.zero_le _, rfl, hid (fun q hq h => by omega), hid (Fr.refl _ _)⟩
    case round =>
      obtain ⟨j, hj, rfl, HA, HF⟩ := hrel
      obtain ⟨c0, _⟩ := blk1 (HBS.out.fr HF.out (fun h => h))
      by_cases hlt : j < M
      · have hj0 : (0 : Int) ≤ (j : Int) := by omega
        have hjm : (j : Int) < (M : Int) := by omega
        go_wp2_with fail
        refine (swrong_calls ns j A M c h wr HM.out hc hMm hlt (by exact (HDD.out.fr0 HF1.out).fr0 HF.out) (by exact (HR.out.fr0 HF1.out).fr0 HF.out)).mono ?_
        rintro e w2 ⟨rfl, hf⟩
        have HF2 := hid (HF.out.then_ hf (fun _ _ h => h))
        obtain ⟨x, hx⟩ : ∃ x, (ns[j]'(by rw [HM.out]; exact hlt)).wrong j M = x := ⟨_, rfl⟩
        have HX := hid hx
        rw [hx]
        clear hf hx c0
        by_cases h0 : x = 0
        · subst h0
          go_wp2_with fail
          go_roundw
          case rel => exact ⟨j + 1, by omega, by go_num, hid (fun q hq h => by
            by_cases h3 : q < j
            · exact HA.out q hq h3
            · obtain rfl : q = j := by omega
              exact HX.out), HF2⟩
          case measure => simp [intOf]; omega
        · have hb : (x != 0) = true := bne_iff_ne.2 h0
          have HX0 := hid h0
          clear h0
          go_wp2_with fail
          go_ret2
          refine ⟨ret_two ?_, HF1.out.trans HF2.out⟩
          rw [HE.out, checkFrom_at ns 0 M j (by rw [HM.out]; exact hlt) (fun k hk => by
            have := HA.out k (by rw [HM.out]; omega) hk
            simpa using this) (by
            have := HX.out
            simp only [Nat.zero_add]
            rw [this]
            exact HX0.out)]
          simp only [Nat.zero_add, HX.out]
      · obtain rfl : j = M := by omega
        go_wp2_with fail
        go_ret2
        refine ⟨ret_two ?_, HF1.out.trans HF.out⟩
        rw [HE.out]
        exact checkFrom_all ns 0 j (fun q hq => by
          have := HA.out q hq (by rw [HM.out] at hq; exact hq)
          simpa using this)

set_option maxRecDepth 100000 in
set_option maxHeartbeats 8000000 in
theorem eqnodes_calls (xs ys : List Nod) (A B : Option Addr) (n m c d h h' : Nat) (w : World) (hn : xs.length = n) (hm : ys.length = m) (hc : n ≤ c) (hd : m ≤ d) (hl : n ≤ 1048576) (hx : RdN w h A xs) (hy : RdN w h' B ys) :
    Calls Tryd.prog 76 #[.slice A n c, .slice B m d, .func (.func 77) #[] #[]] w fun e w' => e = .returned (.bool (decide (xs = ys))) ∧ Fr (fun _ => False) w w' := by
  have HN := hid hn
  have HM := hid hm
  have HX := hid hx
  have HY := hid hy
  clear hn hm hx hy
  by_cases hnm : n = m
  · subst hnm
    go_enter Tryd.func76, Tryd.ntmps76
    go_wp2_with fail
    go_loopw [17] (fun i wr => ∃ j : Nat, j ≤ n ∧ i = .int .i64 j ∧ Hid (∀ i, i < j → xs[i]? = ys[i]?) ∧ Hid (Fr (fun _ => False) w wr)) (fun i _ => n - (intOf i).toNat)
    case atStart => exact ⟨0, Nat.zero_le _, rfl, hid (fun i hi => by omega), hid (Fr.refl _ _)⟩
    case round =>
      obtain ⟨j, hj, rfl, HA, HF⟩ := hrel
      by_cases hlt : j < n
      · obtain ⟨ad, Av, cv, Al, cl, Af, cf, rfl, _, hnine, hr⟩ := RdN.at_ (HX.out.fr0 HF.out) j (by rw [HN.out]; exact hlt)
        obtain ⟨be, Bv, dv, Bl, dl, Bf, df, rfl, _, hnine', hr'⟩ := RdN.at_ (HY.out.fr0 HF.out) j (by rw [HM.out]; exact hlt)
        have HGX := hid (List.getElem?_eq_getElem (show j < xs.length by rw [HN.out]; exact hlt))
        have HGY := hid (List.getElem?_eq_getElem (show j < ys.length by rw [HM.out]; exact hlt))
        obtain ⟨x, hx⟩ : ∃ x, xs[j]'(by rw [HN.out]; exact hlt) = x := ⟨_, rfl⟩
        obtain ⟨y, hy⟩ : ∃ y, ys[j]'(by rw [HM.out]; exact hlt) = y := ⟨_, rfl⟩
        rw [hx] at hnine hr HGX
        rw [hy] at hnine' hr' HGY
        have HRX := hid hr
        have HRY := hid hr'
        obtain ⟨n0, n1, n2, n3, n4, n5, n6, n7, n8⟩ := hnine
        obtain ⟨p0, p1, p2, p3, p4, p5, p6, p7, p8⟩ := hnine'
        replace p0 := fun o => cell_a p0 o
        replace p1 := fun o => cell_a p1 o
        replace p2 := fun o => cell_a p2 o
        replace p3 := fun o => cell_a p3 o
        replace p4 := fun o => cell_a p4 o
        replace p5 := fun o => cell_a p5 o
        replace p6 := fun o => cell_a p6 o
        replace p7 := fun o => cell_a p7 o
        replace p8 := fun o => cell_a p8 o
        have HDX := hid (ndC_eq x Av cv Al cl Af cf)
        have HDY := hid (ndC_eq y Bv dv Bl dl Bf df)
        have hj0 : (0 : Int) ≤ (j : Int) := by omega
        have hjm : (j : Int) < (n : Int) := by omega
        have hjc : (j : Int) < (c : Int) := by omega
        have hjd : (j : Int) < (d : Int) := by omega
        obtain ⟨x6, hx6⟩ : ∃ q, x.v.l.length = q := ⟨_, rfl⟩
        obtain ⟨x7, hx7⟩ : ∃ q, x.l.length = q := ⟨_, rfl⟩
        obtain ⟨x8, hx8⟩ : ∃ q, x.f.length = q := ⟨_, rfl⟩
        obtain ⟨y6, hy6⟩ : ∃ q, y.v.l.length = q := ⟨_, rfl⟩
        obtain ⟨y7, hy7⟩ : ∃ q, y.l.length = q := ⟨_, rfl⟩
        obtain ⟨y8, hy8⟩ : ∃ q, y.f.length = q := ⟨_, rfl⟩
        rw [hx6] at n6 HDX
        rw [hx7] at n7 HDX
        rw [hx8] at n8 HDX
        rw [hy6] at p6 HDY
        rw [hy7] at p7 HDY
        rw [hy8] at p8 HDY
        clear hx hy hr hr' hx6 hx7 hx8 hy6 hy7 hy8
        have HFA := hid (fun o o' => show Fr (fun _ => False) wr ((wr.alloc o).alloc o') from ((Fr.refl _ wr).alloc o).alloc o')
        go_wp2_with fail
        rw [← HDX.out, ← HDY.out]
        refine (nsame_calls x y h h' Av Al Af Bv Bl Bf cv cl cf dv dl df _ (by exact HRX.out.fr0 (HFA.out _ _)) (by exact HRY.out.fr0 (HFA.out _ _))).mono ?_
        rintro e w2 ⟨rfl, hf⟩
        have HF2 := hid (HF.out.then_ ((HFA.out _ _).then_ hf (fun _ _ h => h)) (fun _ _ h => h))
        obtain ⟨b, hb⟩ : ∃ b, decide (x = y) = b := ⟨_, rfl⟩
        have HB := hid hb
        rw [hb]
        clear hf hb n0 n1 n2 n3 n4 n5 n6 n7 n8 p0 p1 p2 p3 p4 p5 p6 p7 p8
        cases b with
        | true =>
          have HE := hid (of_decide_eq_true HB.out)
          go_wp2_with fail
          go_roundw
          case rel => exact ⟨j + 1, by omega, by go_num, hid (fun i hi => by
            by_cases h : i < j
            · exact HA.out i h
            · obtain rfl : i = j := by omega
              rw [HGX.out, HGY.out, HE.out]), HF2⟩
          case measure => simp [intOf]; omega
        | false =>
          have HE := hid (of_decide_eq_false HB.out)
          go_wp2_with fail
          go_ret
          refine ⟨ret_bool ?_, HF2.out⟩
          rw [decide_eq_false]
          intro h
          have h2 := HGX.out
          rw [h, HGY.out] at h2
          exact HE.out (Option.some.inj h2).symm
      · obtain rfl : j = n := by omega
        go_wp2_with fail
        go_ret
        refine ⟨ret_bool ?_, HF.out⟩
        rw [decide_eq_true]
        apply List.ext_getElem?
        intro i
        by_cases hi : i < j
        · exact HA.out i hi
        · rw [List.getElem?_eq_none (by rw [HN.out]; omega), List.getElem?_eq_none (by rw [HM.out]; omega)]
  · have hb : ((n : Int) != (m : Int)) = true := bne_iff_ne.2 (by omega)
    have HNM := hid hnm
    clear hnm
    go_enter Tryd.func76, Tryd.ntmps76
    go_wp2_with fail
    go_ret
    refine ⟨ret_bool ?_, Fr.refl _ _⟩
    rw [decide_eq_false]
    intro h
    exact HNM.out (by rw [← HN.out, ← HM.out, h])

set_option maxRecDepth 20000 in
set_option maxHeartbeats 4000000 in
theorem ssame_calls (xs ys : List Nod) (A B : Option Addr) (n m c d h h' : Nat) (w : World) (hn : xs.length = n) (hm : ys.length = m) (hc : n ≤ c) (hd : m ≤ d) (hl : n ≤ 1048576) (hx : RdN w h A xs) (hy : RdN w h' B ys) :
    Calls Tryd.prog 30 #[.agg #[.slice A n c], .agg #[.slice B m d]] w fun e w' => e = .returned (.bool (decide (xs = ys))) ∧ Fr (fun _ => False) w w' := by
  have HN := hid hn
  have HM := hid hm
  have HX := hid hx
  have HY := hid hy
  clear hn hm hx hy
  have HFA := hid (fun o o' => show Fr (fun _ => False) w ((w.alloc o).alloc o') from ((Fr.refl _ w).alloc o).alloc o')
  go_enter Tryd.func30, Tryd.ntmps30
  go_wp2_with fail
  refine (eqnodes_calls xs ys A B n m c d h h' _ HN.out HM.out hc hd hl (by exact HX.out.fr0 (HFA.out _ _)) (by exact HY.out.fr0 (HFA.out _ _))).mono ?_
  rintro e w2 ⟨rfl, hf⟩
  have HF2 := hid ((HFA.out _ _).then_ hf (fun _ _ h => h))
  clear hf
  go_wp2_with fail
  go_ret
  exact ⟨rfl, HF2.out⟩
theorem swidth_calls (A : Option Addr) (M c : Nat) (w : World) (hMm : M ≤ 1048576) :
    Calls Tryd.prog 32 #[.agg #[.slice A M c]] w fun e w' => e = .returned (.int .i64 (((M + 63) / 64 : Nat) : Int)) ∧ Fr (fun _ => False) w w' := by
  have HFA := hid (fun o => show Fr (fun _ => False) w (w.alloc o) from (Fr.refl _ w).alloc o)
  have HE := hid (show ((M : Int) + 63) / 64 = (((M + 63) / 64 : Nat) : Int) by omega)
  go_enter Tryd.func32, Tryd.ntmps32
  go_wp2_with fail
  go_ret
  exact ⟨ret_int HE.out, HFA.out _⟩
end Go.Proofs.YtkmgiodhaaajjaaDoor.SchJ
