/- Layer schema: the document's word: is there more than is looked at? Layer schema: the laws: whether a schema is well-formed; are two the same? Layer schema: the law SchemaChecks, over a row's list. -/
import Derived.Test.YtkmgiodhaaajjaaDoorSchGJ
import Derived.Test.YtkmgiodhaaajjaaDoorItemU
import Derived.Test.YtkmgiodhaaajjaaDoorSchQ
import Derived.Test.YtkmgiodhaaajjaaDoorDbl
set_option linter.unusedVariables false
set_option linter.unusedSimpArgs false
namespace Go.Proofs.YtkmgiodhaaajjaaDoor.SchO
open Go.IntWalk Go.RowKit Go.Proofs.YtkmgiodhaaajjaaDoor.Mem Go.Proofs.YtkmgiodhaaajjaaDoor.App Go.Proofs.YtkmgiodhaaajjaaDoor.ItemP Go.Proofs.YtkmgiodhaaajjaaDoor.ItemM Go.Proofs.YtkmgiodhaaajjaaDoor.ItemU Go.Proofs.YtkmgiodhaaajjaaDoor.SchP Go.Proofs.YtkmgiodhaaajjaaDoor.SchM

set_option maxRecDepth 100000 in
set_option maxHeartbeats 8000000 in
theorem sgreat_calls (ns : List Nod) (A : Option Addr) (M c h : Nat) (w : World) (hM : ns.length = M) (hc : M ≤ c) (hMm : M ≤ 1048576) (H : RdN w h A ns) :
    Calls Tryd.prog 27 #[.agg #[.slice A M c]] w fun e w' => IsB e ∧ Fr (fun _ => False) w w' := by
  have HR := hid H
  have HM := hid hM
  clear H hM
  obtain ⟨w1, hw1⟩ : ∃ w1, w.alloc (.cells #[.slice A M c] 42) = w1 := ⟨_, rfl⟩
  have HF1 := hid (show Fr (fun _ => False) w w1 by rw [← hw1]; exact (Fr.refl _ w).alloc _)
  have HBS := hid (show Blk w1 w.heap.size 42 #[.slice A M c] by rw [← hw1]; exact Blk.new w _ _)
  have HW1 := hid hw1
  clear hw1
  go_enter Tryd.func27, Tryd.ntmps27
  go_wp2_with fail
  rw [HW1.out]
  go_loopw [3] (fun i wr => ∃ j : Nat, j ≤ M ∧ i = .int .i64 j ∧ Hid (Fr (fun _ => False) w1 wr)) (fun i _ => M - (intOf i).toNat)
  case atStart => exact ⟨0, Nat.zero_le _, rfl, hid (Fr.refl _ _)⟩
  case round =>
    obtain ⟨j, hj, rfl, HF⟩ := hrel
    obtain ⟨s0, _⟩ := blk1 (HBS.out.fr HF.out (fun h => h))
    have hcase : (j < M ∧ j ≤ 40) ∨ (j < M ∧ ¬ j ≤ 40) ∨ ¬ j < M := by omega
    rcases hcase with ⟨hlt, h40⟩ | hcase
    · obtain ⟨ad, Av, cv, Al, cl, Af, cf, rfl, hab, hnine, hr⟩ := RdN.at_ ((HR.out.fr0 HF1.out).fr0 HF.out) j (by rw [HM.out]; exact hlt)
      obtain ⟨x, hx⟩ : ∃ x, ns[j]'(by rw [HM.out]; exact hlt) = x := ⟨_, rfl⟩
      rw [hx] at hnine hr
      have HRX := hid hr
      obtain ⟨n0, n1, n2, n3, n4, n5, n6, n7, n8⟩ := hnine
      have HV := hid hr.v
      have hfc := hr.fc
      have hfm := hr.fm
      obtain ⟨k, lo, hi, v, l, f⟩ := x
      simp only at n0 n1 n2 n3 n4 n5 n6 n7 n8 HV hfc hfm
      obtain ⟨x3, hx3⟩ : ∃ x, v.k = x := ⟨_, rfl⟩
      obtain ⟨x4, hx4⟩ : ∃ x, v.n = x := ⟨_, rfl⟩
      obtain ⟨x5, hx5⟩ : ∃ x, v.s = x := ⟨_, rfl⟩
      obtain ⟨x6, hx6⟩ : ∃ x, v.l.length = x := ⟨_, rfl⟩
      obtain ⟨x7, hx7⟩ : ∃ x, l.length = x := ⟨_, rfl⟩
      obtain ⟨x8, hx8⟩ : ∃ x, f.length = x := ⟨_, rfl⟩
      rw [hx3] at n3 HV
      rw [hx4] at n4 HV
      rw [hx5] at n5 HV
      rw [hx6] at n6 HV
      rw [hx7] at n7
      rw [hx8] at n8 hfc hfm
      have HX8 := hid hx8
      have hj0 : (0 : Int) ≤ (j : Int) := by omega
      have hjm : (j : Int) < (M : Int) := by omega
      have hjc : (j : Int) < (c : Int) := by omega
      obtain ⟨w2, hw2⟩ : ∃ w2, wr.alloc (.cells #[.int .i64 k, .int .i64 lo, .int .i64 hi, .int .i64 x3, .int .u64 x4, .string x5, .slice Av x6 cv, .slice Al x7 cl, .slice Af x8 cf] 54) = w2 := ⟨_, rfl⟩
      have HF2 := hid (show Fr (fun _ => False) wr w2 by rw [← hw2]; exact (Fr.refl _ wr).alloc _)
      have HBN := hid (show Blk w2 wr.heap.size 54 #[.int .i64 k, .int .i64 lo, .int .i64 hi, .int .i64 x3, .int .u64 x4, .string x5, .slice Av x6 cv, .slice Al x7 cl, .slice Af x8 cf] by rw [← hw2]; exact Blk.new wr _ _)
      have HW2 := hid hw2
      clear hx hr hx3 hx4 hx5 hx6 hx7 hx8 hw2
      have hg : ((20 < x7) ∨ (¬ 20 < x7 ∧ 20 < x8)) ∨ (¬ 20 < x7 ∧ ¬ 20 < x8) := by omega
      rcases hg with hg | ⟨h7, h8⟩
      · rcases hg with h7 | ⟨h7, h8⟩
        all_goals
          go_wp2_with fail
          rw [HW2.out]
          go_ret
          exact ⟨⟨_, rfl⟩, HF1.out.trans (HF.out.then_ HF2.out (fun _ _ h => h))⟩
      · go_wp2_with fail
        rw [HW2.out]
        refine (great_calls v (by have := HRX.out.vm; simp only at this; omega) 0 h _ w2 (Nat.le_trans HRX.out.hh HF2.out.size) (HV.out.fr0 HF2.out HRX.out.hh)).mono ?_
        rintro e w3 ⟨⟨b, rfl⟩, hf⟩
        have HF3 := hid (HF2.out.then_ hf (fun _ _ h => h))
        have HB3 := hid (HBN.out.fr hf (fun h => h))
        obtain ⟨c0, c1, c2, c3, c4, c5, c6, c7, c8⟩ := blk9 HB3.out
        clear hf c0 c1 c2 c3 c4 c5 c6 c7 n0 n1 n2 n3 n4 n5 n6 n7 n8
        cases b with
        | true =>
          go_wp2_with fail
          go_ret
          exact ⟨⟨_, rfl⟩, HF1.out.trans (HF.out.then_ HF3.out (fun _ _ h => h))⟩
        | false =>
          go_wp2_with fail
          clear c8 s0
          obtain ⟨wo, rfl⟩ : ∃ wo : World, wo = wr := ⟨_, rfl⟩
          go_loopw [5] (fun i wr => ∃ q : Nat, q ≤ x8 ∧ i = .int .i64 q ∧ Hid (Fr (fun _ => False) wo wr) ∧ Hid (Fr (fun _ => False) w3 wr)) (fun i _ => x8 - (intOf i).toNat)
          case atStart => exact ⟨0, Nat.zero_le _, rfl, HF3, hid (Fr.refl _ _)⟩
          case round =>
            obtain ⟨q, hq, rfl, HF4, HF5⟩ := hrel
            obtain ⟨_, _, _, _, _, _, _, _, c8⟩ := blk9 (HB3.out.fr HF5.out (fun h => h))
            by_cases hlq : q < x8
            · obtain ⟨ax, rfl, _, _, _, f0, f1, f2⟩ := HRX.out.f.fr0 HF4.out q (by simp only [HX8.out]; exact hlq)
              simp only at f0
              have hq0 : (0 : Int) ≤ (q : Int) := by omega
              have hqm : (q : Int) < (x8 : Int) := by omega
              have hqc : (q : Int) < (cf : Int) := by omega
              by_cases hk : 300 < (f[q]'(by rw [HX8.out]; exact hlq)).key.size
              · have hk' : (300 : Int) < ((f[q]'(by rw [HX8.out]; exact hlq)).key.size : Int) := by omega
                go_wp2_with fail
                go_ret
                exact ⟨⟨_, rfl⟩, HF1.out.trans (HF.out.then_ HF4.out (fun _ _ h => h))⟩
              · have hk' : ¬ (300 : Int) < ((f[q]'(by rw [HX8.out]; exact hlq)).key.size : Int) := by omega
                go_wp2_with fail
                go_roundw
                case rel => exact ⟨q + 1, by omega, by go_num, HF4, HF5⟩
                case measure => simp [intOf]; omega
            · obtain rfl : q = x8 := by omega
              go_wp2_with fail
              go_roundw
              case rel => exact ⟨j + 1, by omega, by go_num, hid (HF.out.then_ HF4.out (fun _ _ h => h))⟩
              case measure => simp [intOf]; omega
    · rcases hcase with ⟨hlt, h40⟩ | hlt
      all_goals
        go_wp2_with fail
        go_ret
        exact ⟨⟨_, rfl⟩, HF1.out.trans HF.out⟩
end Go.Proofs.YtkmgiodhaaajjaaDoor.SchO

namespace Go.Proofs.YtkmgiodhaaajjaaDoor.SchR
open Go.IntWalk Go.RowKit Go.Proofs.YtkmgiodhaaajjaaDoor.Mem Go.Proofs.YtkmgiodhaaajjaaDoor.App Go.Proofs.YtkmgiodhaaajjaaDoor.FloatB Go.Proofs.YtkmgiodhaaajjaaDoor.ItemP Go.Proofs.YtkmgiodhaaajjaaDoor.ItemM Go.Proofs.YtkmgiodhaaajjaaDoor.ItemU Go.Proofs.YtkmgiodhaaajjaaDoor.ItemT Go.Proofs.YtkmgiodhaaajjaaDoor.SchP Go.Proofs.YtkmgiodhaaajjaaDoor.SchM Go.Proofs.YtkmgiodhaaajjaaDoor.SchA Go.Proofs.YtkmgiodhaaajjaaDoor.SchB Go.Proofs.YtkmgiodhaaajjaaDoor.SchC Go.Proofs.YtkmgiodhaaajjaaDoor.SchF Go.Proofs.YtkmgiodhaaajjaaDoor.SchG Go.Proofs.YtkmgiodhaaajjaaDoor.SchI Go.Proofs.YtkmgiodhaaajjaaDoor.SchJ Go.Proofs.YtkmgiodhaaajjaaDoor.SchK Go.Proofs.YtkmgiodhaaajjaaDoor.SchL Go.Proofs.YtkmgiodhaaajjaaDoor.SchN Go.Proofs.YtkmgiodhaaajjaaDoor.SchO Go.Proofs.YtkmgiodhaaajjaaDoor.SchQ

set_option maxRecDepth 20000 in
set_option maxHeartbeats 4000000 in
theorem rcheck_calls (ns : List Nod) (A : Option Addr) (M c h : Nat) (w : World) (hM : ns.length = M) (hc : M ≤ c) (hMm : M ≤ 1048576) (H : RdN w h A ns) :
    Calls Tryd.prog 29 #[.agg #[.slice A M c]] w fun e w' => e = .returned (.tuple #[.int .i64 (checkS ns).1, .int .i64 (checkS ns).2]) ∧ Fr (fun _ => False) w w' := by
  have HR := hid H
  have HM := hid hM
  clear H hM
  obtain ⟨w1, hw1⟩ : ∃ w1, w.alloc (.cells #[.slice A M c] 42) = w1 := ⟨_, rfl⟩
  have HF1 := hid (show Fr (fun _ => False) w w1 by rw [← hw1]; exact (Fr.refl _ w).alloc _)
  have HBS := hid (show Blk w1 w.heap.size 42 #[.slice A M c] by rw [← hw1]; exact Blk.new w _ _)
  have HW1 := hid hw1
  clear hw1
  have hbad : (M < 1 ∨ (¬ M < 1 ∧ 256 < M)) ∨ (¬ M < 1 ∧ ¬ 256 < M) := by omega
  rcases hbad with hbad | ⟨h1, h2⟩
  · have HE := hid (show checkS ns = (0, 16) by rw [checkS, if_pos (by rw [HM.out]; omega)])
    rcases hbad with h1 | ⟨h1, h2⟩
    all_goals
      go_enter Tryd.func29, Tryd.ntmps29
      go_wp2_with fail
      rw [HW1.out]
      go_ret2
      exact ⟨ret_two HE.out, HF1.out⟩
  · have HE := hid (show checkS ns = checkFrom ns 0 M by rw [checkS, if_neg (by rw [HM.out]; omega), HM.out])
    go_enter Tryd.func29, Tryd.ntmps29
    go_wp2_with fail
    rw [HW1.out]
    go_loopw [4] (fun i wr => ∃ j : Nat, j ≤ M ∧ i = .int .i64 j ∧ Hid (∀ q (hq : q < ns.length), q < j → (ns[q]).wrong q M = 0) ∧ Hid (Fr (fun _ => False) w1 wr)) (fun i _ => M - (intOf i).toNat)
    case atStart => exact ⟨0, Nat.zero_le _, rfl, hid (fun q hq h => by omega), hid (Fr.refl _ _)⟩
    case round =>
      obtain ⟨j, hj, rfl, HA, HF⟩ := hrel
      obtain ⟨c0, _⟩ := blk1 (HBS.out.fr HF.out (fun h => h))
      by_cases hlt : j < M
      · have hj0 : (0 : Int) ≤ (j : Int) := by omega
        have hjm : (j : Int) < (M : Int) := by omega
        go_wp2_with fail
        refine (rwrong_calls ns j A M c h wr HM.out hc hMm hlt (by exact (HR.out.fr0 HF1.out).fr0 HF.out)).mono ?_
        rintro e w2 ⟨rfl, hf⟩
        have HF2 := hid (HF.out.then_ hf (fun _ _ h => h))
        obtain ⟨x, hx⟩ : ∃ x, (ns[j]'(by rw [HM.out]; exact hlt)).wrong j M = x := ⟨_, rfl⟩
        have HX := hid hx
        rw [hx]
        clear hf hx c0
        by_cases h0 : x = 0
        · subst h0
          go_wp2_with fail
          go_roundw
          case rel => exact ⟨j + 1, by omega, by go_num, hid (fun q hq h => by
            by_cases h3 : q < j
            · exact HA.out q hq h3
            · obtain rfl : q = j := by omega
              exact HX.out), HF2⟩
          case measure => simp [intOf]; omega
        · have hb : (x != 0) = true := bne_iff_ne.2 h0
          have HX0 := hid h0
          clear h0
          go_wp2_with fail
          go_ret2
          refine ⟨ret_two ?_, HF1.out.trans HF2.out⟩
          rw [HE.out, checkFrom_at ns 0 M j (by rw [HM.out]; exact hlt) (fun k hk => by
            have := HA.out k (by rw [HM.out]; omega) hk
            simpa using this) (by
            have := HX.out
            simp only [Nat.zero_add]
            rw [this]
            exact HX0.out)]
          simp only [Nat.zero_add, HX.out]
      · obtain rfl : j = M := by omega
        go_wp2_with fail
        go_ret2
        refine ⟨ret_two ?_, HF1.out.trans HF.out⟩
        rw [HE.out]
        exact checkFrom_all ns 0 j (fun q hq => by
          have := HA.out q hq (by rw [HM.out] at hq; exact hq)
          simpa using this)


/-- The document's example. -/
def exN : List Nod := [⟨10, 0, 0, noIt, [1, 2], []⟩, ⟨3, 0, 9, noIt, [], []⟩, ⟨6, 0, 9, noIt, [2], []⟩]
theorem ex_check : checkS exN = (2, 13) := by
  have h0 : (⟨10, 0, 0, noIt, [1, 2], []⟩ : Nod).wrong 0 3 = 0 := by simp [Nod.wrong, Nod.formB, Nod.ok, Nod.bare, Nod.bounds, keysE, Nod.named, badN]
  have h1 : (⟨3, 0, 9, noIt, [], []⟩ : Nod).wrong 1 3 = 0 := by simp [Nod.wrong, Nod.formB, Nod.ok, Nod.bare, Nod.bounds, keysE, Nod.named, badN]
  have h2 : (⟨6, 0, 9, noIt, [2], []⟩ : Nod).wrong 2 3 = 13 := by simp [Nod.wrong, Nod.formB, Nod.ok, Nod.bare, Nod.bounds, keysE, Nod.named, badN]
  rw [checkS, if_neg (by decide)]
  show checkFrom exN 0 3 = _
  rw [exN, checkFrom, if_neg (by rw [h0]; simp), checkFrom, if_neg (by rw [h1]; simp), checkFrom, if_pos (by rw [h2]; simp), h2]
  rfl
theorem noIt_r (w : World) (h : Nat) (n : Nod) (hh : h ≤ w.heap.size) {Al Af : Option Addr} {cl cf : Nat} (hv : n.v = noIt) (hl : RdI .i64 w Al n.l) (hf : RdF w Af n.f) (lc : n.l.length ≤ cl) (fc : n.f.length ≤ cf) (lm : n.l.length ≤ 1048576) (fm : n.f.length ≤ 1048576) (kr : -9223372036854775808 ≤ n.k ∧ n.k ≤ 9223372036854775807) (lor : -9223372036854775808 ≤ n.lo ∧ n.lo ≤ 9223372036854775807) (hir : -9223372036854775808 ≤ n.hi ∧ n.hi ≤ 9223372036854775807)
    (ln : ∀ x ∈ n.l, -9223372036854775808 ≤ x ∧ x ≤ 9223372036854775807) : NdR w h n none 0 Al cl Af cf :=
  ⟨hh, by rw [hv]; exact noIt_at w h, hl, hf, lc, fc, lm, fm, by rw [hv]; decide, kr, lor, hir, ln⟩
theorem nine_cases {j : Nat} (h : j < 9) : j = 0 ∨ j = 1 ∨ j = 2 ∨ j = 3 ∨ j = 4 ∨ j = 5 ∨ j = 6 ∨ j = 7 ∨ j = 8 := by omega
theorem ex_at (w w1 : World) (g : Nat) (h1 : Blk w1 w.heap.size 3 #[.int .i64 1, .int .i64 2]) (h2 : Blk w1 (w.heap.size + 1) 3 #[.int .i64 2]) (h3 : Blk w1 g 54 #[.int .i64 10, .int .i64 0, .int .i64 0, .int .i64 0, .int .u64 0, .string { data := #[] }, .slice none 0 0, .slice (some ⟨w.heap.size, 0, none⟩) 2 2, .slice none 0 0, .int .i64 3, .int .i64 0, .int .i64 9, .int .i64 0, .int .u64 0, .string { data := #[] }, .slice none 0 0, .slice none 0 0, .slice none 0 0, .int .i64 6, .int .i64 0, .int .i64 9, .int .i64 0, .int .u64 0, .string { data := #[] }, .slice none 0 0, .slice (some ⟨w.heap.size + 1, 0, none⟩) 1 1, .slice none 0 0]) : RdN w1 0 (some ⟨g, 0, none⟩) exN := by
  have r1 : RdI .i64 w1 (some ⟨w.heap.size, 0, none⟩) [1, 2] := VecI.rd (show VecI .i64 3 w1 w.heap.size [1, 2] from h1)
  have r2 : RdI .i64 w1 (some ⟨w.heap.size + 1, 0, none⟩) [2] := VecI.rd (show VecI .i64 3 w1 (w.heap.size + 1) [2] from h2)
  intro i hi
  have hi3 : i = 0 ∨ i = 1 ∨ i = 2 := by simp [exN] at hi; omega
  rcases hi3 with rfl | rfl | rfl
  · refine ⟨⟨g, 0, none⟩, none, 0, some ⟨w.heap.size, 0, none⟩, 2, none, 0, rfl, h3.lt, fun j hj => ?_, noIt_r w1 0 _ (Nat.zero_le _) rfl r1 (RdF.nil _ _) (by simp [exN]) (by simp [exN]) (by simp [exN]) (by simp [exN]) (by simp [exN]) (by simp [exN]) (by simp [exN]) (by simp [exN])⟩
    rw [add_plain, h3.cell]
    rcases nine_cases hj with rfl | rfl | rfl | rfl | rfl | rfl | rfl | rfl | rfl <;> rfl
  · refine ⟨⟨g, 0, none⟩, none, 0, none, 0, none, 0, rfl, h3.lt, fun j hj => ?_, noIt_r w1 0 _ (Nat.zero_le _) rfl (rdI_nil _ _ _) (RdF.nil _ _) (by simp [exN]) (by simp [exN]) (by simp [exN]) (by simp [exN]) (by simp [exN]) (by simp [exN]) (by simp [exN]) (by simp [exN])⟩
    rw [add_plain, h3.cell]
    rcases nine_cases hj with rfl | rfl | rfl | rfl | rfl | rfl | rfl | rfl | rfl <;> rfl
  · refine ⟨⟨g, 0, none⟩, none, 0, some ⟨w.heap.size + 1, 0, none⟩, 1, none, 0, rfl, h3.lt, fun j hj => ?_, noIt_r w1 0 _ (Nat.zero_le _) rfl r2 (RdF.nil _ _) (by simp [exN]) (by simp [exN]) (by simp [exN]) (by simp [exN]) (by simp [exN]) (by simp [exN]) (by simp [exN]) (by simp [exN])⟩
    rw [add_plain, h3.cell]
    rcases nine_cases hj with rfl | rfl | rfl | rfl | rfl | rfl | rfl | rfl | rfl <;> rfl

set_option maxRecDepth 100000 in
set_option maxHeartbeats 4000000 in
theorem awake_calls (w : World) (hD : Dbl w) : Calls Tryd.prog 26 #[] w fun e w' => e = .returned (.bool true) ∧ Fr (fun _ => False) w w' := by
  obtain ⟨w1, hw1⟩ : ∃ w1, ((w.alloc (.cells #[.int .i64 1, .int .i64 2] 3)).alloc (.cells #[.int .i64 2] 3)).alloc (.cells #[.int .i64 10, .int .i64 0, .int .i64 0, .int .i64 0, .int .u64 0, .string { data := #[] }, .slice none 0 0, .slice (some ⟨w.heap.size, 0, none⟩) 2 2, .slice none 0 0, .int .i64 3, .int .i64 0, .int .i64 9, .int .i64 0, .int .u64 0, .string { data := #[] }, .slice none 0 0, .slice none 0 0, .slice none 0 0, .int .i64 6, .int .i64 0, .int .i64 9, .int .i64 0, .int .u64 0, .string { data := #[] }, .slice none 0 0, .slice (some ⟨w.heap.size + 1, 0, none⟩) 1 1, .slice none 0 0] 54) = w1 := ⟨_, rfl⟩
  have HF1 := hid (show Fr (fun _ => False) w w1 by rw [← hw1]; exact fr_3 _ _ _ _)
  have HAT := hid (show RdN w1 0 (some ⟨w.heap.size + 1 + 1, 0, none⟩) exN by
    rw [← hw1]
    exact ex_at w _ _ (blk_1of3 _ _ _ _ _) (blk_2 _ _ _ _ _) (blk_3 _ _ _ _ _))
  have HDD := hid (hD.fr0 HF1.out)
  have HW1 := hid hw1
  clear hw1 hD
  go_enter Tryd.func26, Tryd.ntmps26
  go_wp2_with fail
  rw [HW1.out]
  refine (scheck_calls exN (some ⟨w.heap.size + 1 + 1, 0, none⟩) 3 3 0 w1 rfl (Nat.le_refl _) (by decide) HDD.out HAT.out).mono ?_
  rintro e w2 ⟨rfl, hf⟩
  have HF2 := hid hf
  rw [ex_check]
  clear hf
  go_wp2_with fail
  go_ret
  exact ⟨rfl, HF1.out.trans HF2.out⟩

set_option maxRecDepth 100000 in
set_option maxHeartbeats 8000000 in
theorem law_calls (xs ys : List Nod) (A B : Option Addr) (n m c d h h' : Nat) (w : World) (hD : Dbl w) (hn : xs.length = n) (hm : ys.length = m) (hc : n ≤ c) (hd : m ≤ d) (hl : n ≤ 1048576) (hl' : m ≤ 1048576) (hx : RdN w h A xs) (hy : RdN w h' B ys) :
    Calls Tryd.prog 5 #[.agg #[.slice A n c], .agg #[.slice B m d]] w fun e w' => e = .returned (.bool true) ∧ Fr (fun _ => False) w w' := by
  have HN := hid hn
  have HM := hid hm
  have HX := hid hx
  have HY := hid hy
  have HDD := hid hD
  clear hn hm hx hy hD
  obtain ⟨w1, hw1⟩ : ∃ w1, (w.alloc (.cells #[.slice A n c] 42)).alloc (.cells #[.slice B m d] 42) = w1 := ⟨_, rfl⟩
  have HF1 := hid (show Fr (fun _ => False) w w1 by rw [← hw1]; exact fr_2 _ _ _)
  have HBA := hid (show Blk w1 w.heap.size 42 #[.slice A n c] by rw [← hw1]; exact (Blk.new w _ _).alloc _)
  have HBB := hid (show Blk w1 (w.heap.size + 1) 42 #[.slice B m d] by rw [← hw1]; have := Blk.new (w.alloc (.cells #[.slice A n c] 42)) 42 #[.slice B m d]; rwa [World.size_alloc] at this)
  have HW1 := hid hw1
  clear hw1
  have HS := hid (show ∀ w', Fr (fun _ => False) w1 w' → w'.cell? ⟨w.heap.size, 0, none⟩ = some (.slice A n c) ∧ w'.cell? ⟨w.heap.size + 1, 0, none⟩ = some (.slice B m d) ∧ Fr (fun _ => False) w1 w' from fun w' hf => ⟨(blk1 (HBA.out.fr hf (fun h => h))).1, (blk1 (HBB.out.fr hf (fun h => h))).1, hf⟩)
  have HXW := hid (show ∀ w', Fr (fun _ => False) w1 w' → RdN w' h A xs ∧ RdN w' h' B ys ∧ Dbl w' from fun w' hf => ⟨(HX.out.fr0 HF1.out).fr0 hf, (HY.out.fr0 HF1.out).fr0 hf, (HDD.out.fr0 HF1.out).fr0 hf⟩)
  obtain ⟨q, hq⟩ : ∃ q, decide (xs = ys) = q := ⟨_, rfl⟩
  have HQ := hid hq
  obtain ⟨a, ha⟩ : ∃ a, (checkS xs).1 = a := ⟨_, rfl⟩
  obtain ⟨e0, he0⟩ : ∃ a, (checkS xs).2 = a := ⟨_, rfl⟩
  have HCA := hid ha
  have HCE := hid he0
  clear hq ha he0
  have HXY := hid (fun wx (hf : wx.cell? ⟨w.heap.size, 0, none⟩ = some (.slice A n c) ∧ wx.cell? ⟨w.heap.size + 1, 0, none⟩ = some (.slice B m d) ∧ Fr (fun _ => False) w1 wx) => (ssame_calls xs ys A B n m c d h h' wx HN.out HM.out hc hd hl (HXW.out wx hf.2.2).1 (HXW.out wx hf.2.2).2.1).mono (R' := fun e w' => e = .returned (.bool q) ∧ w'.cell? ⟨w.heap.size, 0, none⟩ = some (.slice A n c) ∧ w'.cell? ⟨w.heap.size + 1, 0, none⟩ = some (.slice B m d) ∧ Fr (fun _ => False) w1 w') (fun e w' g => ⟨by rw [g.1, HQ.out], HS.out w' (hf.2.2.then_ g.2 (fun _ _ h => h))⟩))
  have HXX := hid (fun wx (hf : wx.cell? ⟨w.heap.size, 0, none⟩ = some (.slice A n c) ∧ wx.cell? ⟨w.heap.size + 1, 0, none⟩ = some (.slice B m d) ∧ Fr (fun _ => False) w1 wx) => (ssame_calls xs xs A A n n c c h h wx HN.out HN.out hc hc hl (HXW.out wx hf.2.2).1 (HXW.out wx hf.2.2).1).mono (R' := fun e w' => e = .returned (.bool true) ∧ w'.cell? ⟨w.heap.size, 0, none⟩ = some (.slice A n c) ∧ w'.cell? ⟨w.heap.size + 1, 0, none⟩ = some (.slice B m d) ∧ Fr (fun _ => False) w1 w') (fun e w' g => ⟨by rw [g.1, decide_eq_true rfl], HS.out w' (hf.2.2.then_ g.2 (fun _ _ h => h))⟩))
  have HRXY := hid (fun wx (hf : wx.cell? ⟨w.heap.size, 0, none⟩ = some (.slice A n c) ∧ wx.cell? ⟨w.heap.size + 1, 0, none⟩ = some (.slice B m d) ∧ Fr (fun _ => False) w1 wx) => (rssame_calls xs ys A B n m c d h h' wx HN.out HM.out hc hd hl (HXW.out wx hf.2.2).1 (HXW.out wx hf.2.2).2.1).mono (R' := fun e w' => e = .returned (.bool q) ∧ w'.cell? ⟨w.heap.size, 0, none⟩ = some (.slice A n c) ∧ w'.cell? ⟨w.heap.size + 1, 0, none⟩ = some (.slice B m d) ∧ Fr (fun _ => False) w1 w') (fun e w' g => ⟨by rw [g.1, HQ.out], HS.out w' (hf.2.2.then_ g.2 (fun _ _ h => h))⟩))
  have HWD := hid (fun wx (hf : wx.cell? ⟨w.heap.size, 0, none⟩ = some (.slice A n c) ∧ wx.cell? ⟨w.heap.size + 1, 0, none⟩ = some (.slice B m d) ∧ Fr (fun _ => False) w1 wx) => (swidth_calls A n c wx hl).mono (R' := fun e w' => e = .returned (.int .i64 (((n : Int) + 63) / 64)) ∧ w'.cell? ⟨w.heap.size, 0, none⟩ = some (.slice A n c) ∧ w'.cell? ⟨w.heap.size + 1, 0, none⟩ = some (.slice B m d) ∧ Fr (fun _ => False) w1 w') (fun e w' g => ⟨by rw [g.1]; exact ret_int (by omega), HS.out w' (hf.2.2.then_ g.2 (fun _ _ h => h))⟩))
  obtain ⟨c0, d0, _⟩ := HS.out w1 (Fr.refl _ _)
  go_enter Tryd.func5, Tryd.ntmps5
  go_wp2_with fail
  rw [HW1.out]
  refine (awake_calls w1 (HXW.out w1 (Fr.refl _ _)).2.2).mono ?_
  rintro e w2 ⟨rfl, hf⟩
  have HF2 := hid hf
  clear hf c0 d0
  obtain ⟨c0, d0, _⟩ := HS.out w2 HF2.out
  go_wp2_with fail
  refine (sgreat_calls xs A n c h w2 HN.out hc hl (HXW.out w2 HF2.out).1).mono ?_
  rintro e w3 ⟨⟨b, rfl⟩, hf⟩
  have HF3 := hid (HF2.out.then_ hf (fun _ _ h => h))
  clear hf c0 d0
  obtain ⟨c0, d0, _⟩ := HS.out w3 HF3.out
  cases b with
  | true =>
    go_wp2_with fail
    go_ret
    exact ⟨rfl, HF1.out.trans HF3.out⟩
  | false =>
  go_wp2_with fail
  refine (sgreat_calls ys B m d h' w3 HM.out hd hl' (HXW.out w3 HF3.out).2.1).mono ?_
  rintro e w4 ⟨⟨b, rfl⟩, hf⟩
  have HF4 := hid (HF3.out.then_ hf (fun _ _ h => h))
  clear hf c0 d0
  obtain ⟨c0, d0, _⟩ := HS.out w4 HF4.out
  cases b with
  | true =>
    go_wp2_with fail
    go_ret
    exact ⟨rfl, HF1.out.trans HF4.out⟩
  | false =>
  go_wp2_with fail
  refine (scheck_calls xs A n c h w4 HN.out hc hl (HXW.out w4 HF4.out).2.2 (HXW.out w4 HF4.out).1).mono ?_
  rintro e w5 ⟨rfl, hf⟩
  have HF5 := hid (HF4.out.then_ hf (fun _ _ h => h))
  rw [HCA.out, HCE.out]
  clear hf c0 d0
  obtain ⟨c0, d0, _⟩ := HS.out w5 HF5.out
  go_wp2_with fail
  refine (rcheck_calls xs A n c h w5 HN.out hc hl (HXW.out w5 HF5.out).1).mono ?_
  rintro e w6 ⟨rfl, hf⟩
  have HF6 := hid (HF5.out.then_ hf (fun _ _ h => h))
  rw [HCA.out, HCE.out]
  clear hf c0 d0
  obtain ⟨c0, d0, _⟩ := HS.out w6 HF6.out
  have hqq : (q == q) = true := by cases q <;> rfl
  have hn1 : (n : Int) + 63 ≤ 2000000 := by omega
  have hw63 : IntKind.i64.wrap ((n : Int) + 63) = (n : Int) + 63 := i64_in _ (by omega)
  have htd : ((n : Int) + 63).tdiv 64 = ((n : Int) + 63) / 64 := Int.tdiv_eq_ediv_of_nonneg (by omega)
  have hw64 : IntKind.i64.wrap (((n : Int) + 63) / 64) = ((n : Int) + 63) / 64 := i64_in _ (by omega)
  go_wp2_with fail
  go_region_held3 (fun w' => w'.cell? ⟨w.heap.size, 0, none⟩ = some (.slice A n c) ∧ w'.cell? ⟨w.heap.size + 1, 0, none⟩ = some (.slice B m d) ∧ Fr (fun _ => False) w1 w')
    (first | exact HS.out _ HF6.out | exact HS.out _ HF6.out.drew | assumption)
    (first
      | ((go_at_call 30; with_reducible refine (HXY.out _ (by assumption)).mono ?_; rintro e w7 ⟨rfl, hS⟩))
      | ((go_at_call 30; with_reducible refine (HXX.out _ (by assumption)).mono ?_; rintro e w7 ⟨rfl, hS⟩))
      | ((go_at_call 31; with_reducible refine (HRXY.out _ (by assumption)).mono ?_; rintro e w7 ⟨rfl, hS⟩))
      | ((go_at_call 32; with_reducible refine (HWD.out _ (by assumption)).mono ?_; rintro e w7 ⟨rfl, hS⟩)))
  all_goals
    go_wp2_with fail
    go_ret
    exact ⟨rfl, HF1.out.trans hS.2.2⟩
end Go.Proofs.YtkmgiodhaaajjaaDoor.SchR

namespace Go.Proofs.YtkmgiodhaaajjaaDoor.SchS
open Go.ChangeShapes Go.RowKit Go.Proofs.YtkmgiodhaaajjaaDoor.Mem Go.Proofs.YtkmgiodhaaajjaaDoor.SchP Go.Proofs.YtkmgiodhaaajjaaDoor.SchM
theorem checks_law (A : Option Addr) (xs : List Nod) (c : Nat) (B : Option Addr) (ys : List Nod) (d : Nat) (W : World) (hc : xs.length ≤ c) (hl : xs.length ≤ 1048576) (hx : RdN W W.heap.size A xs) (hd : ys.length ≤ d) (hl' : ys.length ≤ 1048576) (hy : RdN W W.heap.size B ys) (hL : laidMetH Tryd.prog Rows.schemaChecksUptoRow.laid W) :
    Calls Tryd.prog 5 #[.agg #[.slice A xs.length c], .agg #[.slice B ys.length d]] W fun e W' => e = .returned (.bool true) ∧ Below W.heap.size W W' :=
  (SchR.law_calls xs ys A B _ _ c d W.heap.size W.heap.size W (Dbl.dbl hL) rfl rfl hc hd hl hl' hx hy).mono fun e w' h => ⟨h.1, h.2.toBelow (fun _ _ h => h)⟩
end Go.Proofs.YtkmgiodhaaajjaaDoor.SchS
