/- Layer mem: limits; the longest key. -/
import Derived.Test.YtkmgiodhaaajjaaDoorSchR
set_option linter.unusedVariables false
set_option linter.unusedSimpArgs false
namespace Go.Proofs.YtkmgiodhaaajjaaDoor.MemA
open Go.IntWalk Go.RowKit Go.Proofs.YtkmgiodhaaajjaaDoor.Mem Go.Proofs.YtkmgiodhaaajjaaDoor.App Go.Proofs.YtkmgiodhaaajjaaDoor.FloatB Go.Proofs.YtkmgiodhaaajjaaDoor.ItemP Go.Proofs.YtkmgiodhaaajjaaDoor.ItemM Go.Proofs.YtkmgiodhaaajjaaDoor.SchP Go.Proofs.YtkmgiodhaaajjaaDoor.SchM Go.Proofs.YtkmgiodhaaajjaaDoor.SchG Go.Proofs.YtkmgiodhaaajjaaDoor.SchJ Go.Proofs.YtkmgiodhaaajjaaDoor.SchN Go.Proofs.YtkmgiodhaaajjaaDoor.SchR

def within (n m : Int) : Bool := decide (1 ≤ n) && decide (n ≤ m)
def right (d k s : Int) : Bool := within d 64 && within k 1024 && within s 2305843009213693951
def rightE (d k s : Int) : Int := if right d k s = true then 0 else 15
theorem within_calls (n m : Int) (w : World) : Calls Tryd.prog 108 #[.int .i64 n, .int .i64 m] w fun e w' => e = .returned (.bool (within n m)) ∧ w = w' := by
  by_cases h1 : 1 ≤ n
  · by_cases h2 : n ≤ m
    · have HE := hid (show within n m = true by rw [within, decide_eq_true h1, decide_eq_true h2]; rfl)
      go_enter Tryd.func108, Tryd.ntmps108
      go_wp2
      go_ret
      exact ⟨ret_bool HE.out.symm, rfl⟩
    · have HE := hid (show within n m = false by rw [within, decide_eq_false h2, Bool.and_false])
      go_enter Tryd.func108, Tryd.ntmps108
      go_wp2
      go_ret
      exact ⟨ret_bool HE.out.symm, rfl⟩
  · have HE := hid (show within n m = false by rw [within, decide_eq_false h1]; rfl)
    go_enter Tryd.func108, Tryd.ntmps108
    go_wp2
    go_ret
    exact ⟨ret_bool HE.out.symm, rfl⟩
set_option maxRecDepth 20000 in
set_option maxHeartbeats 2000000 in
theorem lcheck_calls (d k s : Int) (w : World) : Calls Tryd.prog 80 #[.agg #[.int .i64 d, .int .i64 k, .int .i64 s]] w fun e w' => e = .returned (.int .i64 (rightE d k s)) ∧ Fr (fun _ => False) w w' := by
  have HF := hid (fun o => show Fr (fun _ => False) w (w.alloc o) from (Fr.refl _ w).alloc o)
  obtain ⟨b1, h1⟩ : ∃ b, within d 64 = b := ⟨_, rfl⟩
  obtain ⟨b2, h2⟩ : ∃ b, within k 1024 = b := ⟨_, rfl⟩
  obtain ⟨b3, h3⟩ : ∃ b, within s 2305843009213693951 = b := ⟨_, rfl⟩
  have H1 := hid h1
  have H2 := hid h2
  have H3 := hid h3
  have HR := hid (show right d k s = (b1 && b2 && b3) by rw [right, h1, h2, h3])
  clear h1 h2 h3
  cases b1 with
  | false =>
    have HE := hid (show right d k s = false by rw [HR.out]; rfl)
    go_enter Tryd.func80, Tryd.ntmps80
    go_wp2_with fail
    refine (within_calls d 64 _).mono ?_
    rintro e w' ⟨rfl, rfl⟩
    rw [H1.out]
    go_wp2_with fail
    go_ret
    exact ⟨by rw [rightE, HE.out]; rfl, HF.out _⟩
  | true =>
  cases b2 with
  | false =>
    have HE := hid (show right d k s = false by rw [HR.out]; rfl)
    go_enter Tryd.func80, Tryd.ntmps80
    go_wp2_with fail
    refine (within_calls d 64 _).mono ?_
    rintro e w' ⟨rfl, rfl⟩
    rw [H1.out]
    go_wp2_with fail
    refine (within_calls k 1024 _).mono ?_
    rintro e w' ⟨rfl, rfl⟩
    rw [H2.out]
    go_wp2_with fail
    go_ret
    exact ⟨by rw [rightE, HE.out]; rfl, HF.out _⟩
  | true =>
    have HE := hid (show right d k s = b3 by rw [HR.out]; rfl)
    go_enter Tryd.func80, Tryd.ntmps80
    go_wp2_with fail
    refine (within_calls d 64 _).mono ?_
    rintro e w' ⟨rfl, rfl⟩
    rw [H1.out]
    go_wp2_with fail
    refine (within_calls k 1024 _).mono ?_
    rintro e w' ⟨rfl, rfl⟩
    rw [H2.out]
    go_wp2_with fail
    refine (within_calls s 2305843009213693951 _).mono ?_
    rintro e w' ⟨rfl, rfl⟩
    rw [H3.out]
    cases b3 with
    | false =>
      go_wp2_with fail
      go_ret
      exact ⟨by rw [rightE, HE.out]; rfl, HF.out _⟩
    | true =>
      go_wp2_with fail
      go_ret
      exact ⟨by rw [rightE, HE.out]; rfl, HF.out _⟩
set_option maxRecDepth 20000 in
set_option maxHeartbeats 4000000 in
theorem right_calls (d k s : Int) (w : World) : Calls Tryd.prog 109 #[.agg #[.int .i64 d, .int .i64 k, .int .i64 s]] w fun e w' => e = .returned (.bool (right d k s)) ∧ Fr (fun _ => False) w w' := by
  have HF := hid (fun o => show Fr (fun _ => False) w (w.alloc o) from (Fr.refl _ w).alloc o)
  have hc : (1 ≤ d ∧ d ≤ 64 ∧ 1 ≤ k ∧ k ≤ 1024 ∧ 1 ≤ s ∧ s ≤ 2305843009213693951) ∨ (1 ≤ d ∧ d ≤ 64 ∧ 1 ≤ k ∧ k ≤ 1024 ∧ 1 ≤ s ∧ ¬ s ≤ 2305843009213693951) ∨ (1 ≤ d ∧ d ≤ 64 ∧ 1 ≤ k ∧ k ≤ 1024 ∧ ¬ 1 ≤ s) ∨ (1 ≤ d ∧ d ≤ 64 ∧ 1 ≤ k ∧ ¬ k ≤ 1024) ∨ (1 ≤ d ∧ d ≤ 64 ∧ ¬ 1 ≤ k) ∨ (1 ≤ d ∧ ¬ d ≤ 64) ∨ ¬ 1 ≤ d := by omega
  rcases hc with ⟨h1, h2, h3, h4, h5, h6⟩ | ⟨h1, h2, h3, h4, h5, h6⟩ | ⟨h1, h2, h3, h4, h5⟩ | ⟨h1, h2, h3, h4⟩ | ⟨h1, h2, h3⟩ | ⟨h1, h2⟩ | h1
  · have HE := hid (show right d k s = true by simp [right, within, h1, h2, h3, h4, h5, h6])
    go_enter Tryd.func109, Tryd.ntmps109
    go_wp2_with fail
    go_ret
    exact ⟨ret_bool HE.out.symm, HF.out _⟩
  all_goals
    have HE := hid (show right d k s = false by simp [right, within, *])
    go_enter Tryd.func109, Tryd.ntmps109
    go_wp2_with fail
    go_ret
    exact ⟨ret_bool HE.out.symm, HF.out _⟩

/-- The longest key. -/
def longF : List Fld → Nat
  | [] => 0
  | f :: l => max f.key.size (longF l)
def longN : List Nod → Nat
  | [] => 0
  | n :: l => max (longF n.f) (longN l)
theorem longF_append : ∀ a b : List Fld, longF (a ++ b) = max (longF a) (longF b)
  | [], b => by simp [longF]
  | f :: a, b => by simp [longF, longF_append a b, Nat.max_assoc]
theorem longN_append : ∀ a b : List Nod, longN (a ++ b) = max (longN a) (longN b)
  | [], b => by simp [longN]
  | f :: a, b => by simp [longN, longN_append a b, Nat.max_assoc]
theorem longF_step (l : List Fld) (j : Nat) (h : j < l.length) : longF (l.take (j + 1)) = max (longF (l.take j)) l[j].key.size := by
  rw [List.take_succ_eq_append_getElem h, longF_append]
  simp [longF]
theorem longN_step (l : List Nod) (j : Nat) (h : j < l.length) : longN (l.take (j + 1)) = max (longN (l.take j)) (longF l[j].f) := by
  rw [List.take_succ_eq_append_getElem h, longN_append]
  simp [longN]
theorem longF_bd (l : List Fld) (B : Nat) (h : ∀ i (hi : i < l.length), l[i].key.size ≤ B) : longF l ≤ B := by
  induction l with
  | nil => simp [longF]
  | cons f l ih =>
    have h0 := h 0 (by simp)
    have h1 := ih (fun i hi => by have := h (i + 1) (by simpa using hi); simpa using this)
    simp at h0
    simp only [longF]
    omega
theorem longN_bd (l : List Nod) (B : Nat) (h : ∀ i (hi : i < l.length), longF l[i].f ≤ B) : longN l ≤ B := by
  induction l with
  | nil => simp [longN]
  | cons f l ih =>
    have h0 := h 0 (by simp)
    have h1 := ih (fun i hi => by have := h (i + 1) (by simpa using hi); simpa using this)
    simp at h0
    simp only [longN]
    omega
theorem long_rd {w : World} {h : Nat} {A : Option Addr} {ns : List Nod} (H : RdN w h A ns) : longN ns ≤ 140737488355328 := by
  refine longN_bd _ _ fun i hi => ?_
  obtain ⟨ad, Av, cv, Al, cl, Af, cf, _, _, _, hr⟩ := H i hi
  refine longF_bd _ _ fun j hj => ?_
  obtain ⟨_, _, _, h1, _⟩ := hr.f j hj
  exact h1
theorem longF_take (l : List Fld) (j : Nat) : longF (l.take j) ≤ longF l := by
  have := longF_append (l.take j) (l.drop j)
  rw [List.take_append_drop] at this
  omega
theorem longN_take (l : List Nod) (j : Nat) : longN (l.take j) ≤ longN l := by
  have := longN_append (l.take j) (l.drop j)
  rw [List.take_append_drop] at this
  omega
theorem longN_get (l : List Nod) (j : Nat) (h : j < l.length) : longF l[j].f ≤ longN l := by
  have h1 := longN_step l j h
  have h2 := longN_take l (j + 1)
  omega

set_option maxRecDepth 100000 in
set_option maxHeartbeats 8000000 in
theorem longest_calls (ns : List Nod) (A : Option Addr) (M c h : Nat) (w : World) (hM : ns.length = M) (hc : M ≤ c) (hMm : M ≤ 1048576) (H : RdN w h A ns) :
    Calls Tryd.prog 43 #[.agg #[.slice A M c]] w fun e w' => e = .returned (.int .i64 (longN ns : Nat)) ∧ Fr (fun _ => False) w w' := by
  have HR := hid H
  have HM := hid hM
  have HLB := hid (long_rd H)
  clear H hM
  obtain ⟨w1, hw1⟩ : ∃ w1, w.alloc (.cells #[.slice A M c] 42) = w1 := ⟨_, rfl⟩
  have HF1 := hid (show Fr (fun _ => False) w w1 by rw [← hw1]; exact (Fr.refl _ w).alloc _)
  have HBS := hid (show Blk w1 w.heap.size 42 #[.slice A M c] by rw [← hw1]; exact Blk.new w _ _)
  have HW1 := hid hw1
  clear hw1
  go_enter Tryd.func43, Tryd.ntmps43
  go_wp2_with fail
  rw [HW1.out]
  go_loopw [3, 11] (fun v3 v11 wr => ∃ j : Nat, j ≤ M ∧ v11 = .int .i64 j ∧ v3 = .int .i64 (longN (ns.take j) : Nat) ∧ Hid (Fr (fun _ => False) w1 wr)) (fun _ v11 _ => M - (intOf v11).toNat)
  case atStart => exact ⟨0, Nat.zero_le _, rfl, rfl, hid (Fr.refl _ _)⟩
  case round =>
    obtain ⟨j, hj, rfl, rfl, HF⟩ := hrel
    by_cases hlt : j < M
    · obtain ⟨ad, Av, cv, Al, cl, Af, cf, rfl, hab, hnine, hr⟩ := RdN.at_ ((HR.out.fr0 HF1.out).fr0 HF.out) j (by rw [HM.out]; exact hlt)
      have HNS := hid (longN_step ns j (by rw [HM.out]; exact hlt))
      have HNG := hid (longN_get ns j (by rw [HM.out]; exact hlt))
      obtain ⟨x, hx⟩ : ∃ x, ns[j]'(by rw [HM.out]; exact hlt) = x := ⟨_, rfl⟩
      rw [hx] at hnine hr HNS HNG
      have HRX := hid hr
      obtain ⟨n0, n1, n2, n3, n4, n5, n6, n7, n8⟩ := hnine
      have hfc := hr.fc
      obtain ⟨x8, hx8⟩ : ∃ q, x.f.length = q := ⟨_, rfl⟩
      rw [hx8] at n8 hfc
      have HX8 := hid hx8
      have hfm := hr.fm
      rw [hx8] at hfm
      obtain ⟨T, hT⟩ : ∃ t, longN (ns.take j) = t := ⟨_, rfl⟩
      have HT := hid hT
      have hTB : T ≤ 140737488355328 := by rw [← hT]; exact Nat.le_trans (longN_take ns j) HLB.out
      rw [hT] at HNS ⊢
      have hj0 : (0 : Int) ≤ (j : Int) := by omega
      have hjm : (j : Int) < (M : Int) := by omega
      have hjc : (j : Int) < (c : Int) := by omega
      clear hx hr hx8 hT
      go_wp2_with fail
      clear n0 n1 n2 n3 n4 n5 n6 n7 n8
      obtain ⟨wo, rfl⟩ : ∃ wo : World, wo = wr := ⟨_, rfl⟩
      go_loopw [3, 18] (fun v3 v18 wr => ∃ q : Nat, q ≤ x8 ∧ v18 = .int .i64 q ∧ v3 = .int .i64 (max T (longF (x.f.take q)) : Nat) ∧ Hid (Fr (fun _ => False) wo wr)) (fun _ v18 _ => x8 - (intOf v18).toNat)
      case atStart => exact ⟨0, Nat.zero_le _, rfl, congrArg (fun n : Nat => Value.int .i64 (n : Int)) (by simp [longF]), hid ((Fr.refl _ _).alloc _)⟩
      case round =>
        obtain ⟨q, hq, rfl, rfl, HF4⟩ := hrel
        by_cases hlq : q < x8
        · obtain ⟨ax, rfl, _, hks, _, f0, f1, f2⟩ := HRX.out.f.fr0 HF4.out q (by rw [HX8.out]; exact hlq)
          have HFS := hid (longF_step x.f q (by rw [HX8.out]; exact hlq))
          obtain ⟨y, hy⟩ : ∃ y, x.f[q]'(by rw [HX8.out]; exact hlq) = y := ⟨_, rfl⟩
          rw [hy] at hks f0 f1 f2 HFS
          obtain ⟨key, node, opt⟩ := y
          simp only at hks f0 f1 f2 HFS
          obtain ⟨R, hR⟩ : ∃ r, longF (x.f.take q) = r := ⟨_, rfl⟩
          have hRB : R ≤ 140737488355328 := by rw [← hR]; exact Nat.le_trans (longF_take x.f q) (Nat.le_trans HNG.out HLB.out)
          rw [hR] at HFS ⊢
          have hq0 : (0 : Int) ≤ (q : Int) := by omega
          have hqm : (q : Int) < (x8 : Int) := by omega
          have hqc : (q : Int) < (cf : Int) := by omega
          clear hy hR
          go_wp2_with fail
          go_roundw
          case rel => exact ⟨q + 1, by omega, by go_num, congrArg (Value.int .i64) (by rw [HFS.out]; first | omega | (split <;> omega) | (simp; omega)), hid (HF4.out.alloc _)⟩
          case measure => simp [intOf]; omega
        · obtain rfl : q = x8 := by omega
          have htk : x.f.take q = x.f := List.take_of_length_le (by rw [HX8.out]; omega)
          rw [htk]
          have HFQ := hid (show max T (longF x.f) = longN (ns.take (j + 1)) by rw [HNS.out])
          rw [HFQ.out]
          clear htk
          go_wp2_with fail
          go_roundw
          case rel => exact ⟨j + 1, by omega, by go_num, rfl, hid (HF.out.then_ HF4.out (fun _ _ h => h))⟩
          case measure => simp [intOf]; omega
    · obtain rfl : j = M := by omega
      go_wp2_with fail
      go_ret
      refine ⟨?_, HF1.out.trans HF.out⟩
      rw [List.take_of_length_le (by rw [HM.out]; omega)]
      rfl
end Go.Proofs.YtkmgiodhaaajjaaDoor.MemA
