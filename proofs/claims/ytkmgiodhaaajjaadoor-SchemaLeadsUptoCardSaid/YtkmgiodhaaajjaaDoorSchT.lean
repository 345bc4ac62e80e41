/- Layer schema: the nodes to which a node leads. -/
import Derived.Test.YtkmgiodhaaajjaaDoorSchR
set_option linter.unusedVariables false
set_option linter.unusedSimpArgs false
namespace Go.Proofs.YtkmgiodhaaajjaaDoor.SchT
open Go.IntWalk Go.RowKit Go.Proofs.YtkmgiodhaaajjaaDoor.Mem Go.Proofs.YtkmgiodhaaajjaaDoor.App Go.Proofs.YtkmgiodhaaajjaaDoor.FloatB Go.Proofs.YtkmgiodhaaajjaaDoor.ItemP Go.Proofs.YtkmgiodhaaajjaaDoor.ItemM Go.Proofs.YtkmgiodhaaajjaaDoor.ItemU Go.Proofs.YtkmgiodhaaajjaaDoor.ItemT Go.Proofs.YtkmgiodhaaajjaaDoor.SchP Go.Proofs.YtkmgiodhaaajjaaDoor.SchM Go.Proofs.YtkmgiodhaaajjaaDoor.SchA Go.Proofs.YtkmgiodhaaajjaaDoor.SchB Go.Proofs.YtkmgiodhaaajjaaDoor.SchC Go.Proofs.YtkmgiodhaaajjaaDoor.SchF Go.Proofs.YtkmgiodhaaajjaaDoor.SchG Go.Proofs.YtkmgiodhaaajjaaDoor.SchI Go.Proofs.YtkmgiodhaaajjaaDoor.SchJ Go.Proofs.YtkmgiodhaaajjaaDoor.SchK Go.Proofs.YtkmgiodhaaajjaaDoor.SchL Go.Proofs.YtkmgiodhaaajjaaDoor.SchN Go.Proofs.YtkmgiodhaaajjaaDoor.SchO Go.Proofs.YtkmgiodhaaajjaaDoor.SchQ Go.Proofs.YtkmgiodhaaajjaaDoor.SchR

/-- A node names later nodes alone. -/
def Wf (ns : List Nod) : Prop := ∀ i (hi : i < ns.length), ∀ k ∈ ns[i].named, (i : Int) < k ∧ k < (ns.length : Int)
/-- A node leads to another one, or is it that. -/
inductive Lead (ns : List Nod) : Nat → Nat → Prop where
  | refl (a : Nat) : Lead ns a a
  | step (a k b : Nat) (ha : a < ns.length) (hk : (k : Int) ∈ ns[a].named) (h : Lead ns k b) : Lead ns a b
theorem Lead.snoc {ns : List Nod} {a j k : Nat} (h : Lead ns a j) (hj : j < ns.length) (hk : (k : Int) ∈ ns[j].named) : Lead ns a k := by
  induction h with
  | refl a => exact .step a k k hj hk (.refl k)
  | step a q b ha hq _ ih => exact .step a q k ha hq (ih hj hk)
theorem Lead.last {ns : List Nod} {a b : Nat} (h : Lead ns a b) : a = b ∨ ∃ j, ∃ hj : j < ns.length, Lead ns a j ∧ (b : Int) ∈ ns[j].named := by
  induction h with
  | refl a => exact .inl rfl
  | step a k b ha hk _ ih =>
    rcases ih with rfl | ⟨j, hj, h1, h2⟩
    · exact .inr ⟨a, ha, .refl a, hk⟩
    · exact .inr ⟨j, hj, .step a k j ha hk h1, h2⟩
theorem Lead.le {ns : List Nod} (hw : Wf ns) {a b : Nat} (h : Lead ns a b) : a ≤ b := by
  induction h with
  | refl a => exact Nat.le_refl _
  | step a k b ha hk _ ih => have := (hw a ha k hk).1; omega
theorem wf_of {ns : List Nod} (h : (checkS ns).2 = 0) : Wf ns := by
  intro i hi k hk
  have hlen : ¬ (ns.length < 1 ∨ 256 < ns.length) := fun e => by rw [checkS, if_pos e] at h; cases h
  rw [checkS, if_neg hlen] at h
  have hall : ∀ (l : List Nod) (s m : Nat), (checkFrom l s m).2 = 0 → ∀ j (hj : j < l.length), l[j].wrong (s + j) m = 0 := by
    intro l
    induction l with
    | nil => intro s m _ j hj; simp at hj
    | cons n l ih =>
      intro s m h j hj
      rw [checkFrom] at h
      by_cases h0 : n.wrong s m = 0
      · rw [if_neg (by rw [h0]; simp)] at h
        cases j with
        | zero => simpa using h0
        | succ j =>
          have := ih (s + 1) m h j (by simpa using hj)
          rw [show s + (j + 1) = s + 1 + j by omega]
          simpa using this
      · rw [if_pos h0] at h
        exact absurd h h0
  have hw := hall ns 0 ns.length h i hi
  rw [Nat.zero_add] at hw
  unfold Nod.wrong at hw
  split at hw
  · cases hw
  · split at hw
    · cases hw
    · split at hw
      · cases hw
      · split at hw
        · rename_i h1; exact absurd hw h1
        · split at hw
          · cases hw
          · rename_i h2
            rw [Bool.not_eq_true, List.any_eq_false] at h2
            have := h2 k hk
            simp [badN] at this
            omega

noncomputable instance (ns : List Nod) (a b : Nat) : Decidable (Lead ns a b) := Classical.propDecidable _

set_option maxRecDepth 100000 in
set_option maxHeartbeats 4000000 in
theorem rleads_calls (ns : List Nod) (hw : Wf ns) (A : Option Addr) (M c h : Nat) (hM : ns.length = M) (hc : M ≤ c) (hMm : M ≤ 1048576) (tt : Nat) (ht : tt < M) (N : Nat) : ∀ (a : Nat), a < M → M - a ≤ N → ∀ (w : World), RdN w h A ns →
    Calls Tryd.prog 36 #[.agg #[.slice A M c], .int .i64 a, .int .i64 tt] w fun e w' => e = .returned (.bool (decide (Lead ns a tt))) ∧ Fr (fun _ => False) w w' := by
  induction N with
  | zero => intro a ha hN; omega
  | succ N ih =>
    intro a ha hN w H
    have HIH := hid ih
    have HM := hid hM
    have HR := hid H
    have HWF := hid hw
    have HAN := hid hN
    obtain ⟨q, hq⟩ : ∃ q, decide (Lead ns a tt) = q := ⟨_, rfl⟩
    have HQ := hid hq
    rw [hq]
    clear ih hM H hw hq hN
    obtain ⟨w1, hw1⟩ : ∃ w1, w.alloc (.cells #[.slice A M c] 42) = w1 := ⟨_, rfl⟩
    have HF1 := hid (show Fr (fun _ => False) w w1 by rw [← hw1]; exact (Fr.refl _ w).alloc _)
    have HBS := hid (show Blk w1 w.heap.size 42 #[.slice A M c] by rw [← hw1]; exact Blk.new w _ _)
    have HW1 := hid hw1
    clear hw1
    by_cases hat : a = tt
    · subst hat
      have HE := hid (show q = true by rw [← HQ.out, decide_eq_true]; exact .refl a)
      go_enter Tryd.func36, Tryd.ntmps36
      go_wp2_with fail
      rw [HW1.out]
      go_ret
      exact ⟨by rw [HE.out]; rfl, HF1.out⟩
    have hb : ((a : Int) == (tt : Int)) = false := beq_eq_false_iff_ne.2 (by omega)
    have HNE := hid hat
    clear hat
    obtain ⟨ad, Av, cv, Al, cl, Af, cf, rfl, _, hnine, hr⟩ := RdN.at_ (HR.out.fr0 HF1.out) a (by rw [HM.out]; exact ha)
    obtain ⟨n, hn⟩ : ∃ n, ns[a]'(by rw [HM.out]; exact ha) = n := ⟨_, rfl⟩
    have HNA := hid hn
    rw [hn] at hnine hr
    have HRN := hid hr
    have HND := hid (ndC_eq n Av cv Al cl Af cf)
    obtain ⟨n0, n1, n2, n3, n4, n5, n6, n7, n8⟩ := hnine
    obtain ⟨x6, hx6⟩ : ∃ q, n.v.l.length = q := ⟨_, rfl⟩
    obtain ⟨x7, hx7⟩ : ∃ q, n.l.length = q := ⟨_, rfl⟩
    obtain ⟨x8, hx8⟩ : ∃ q, n.f.length = q := ⟨_, rfl⟩
    rw [hx6] at n6 HND
    rw [hx7] at n7 HND
    rw [hx8] at n8 HND
    have ha0 : (0 : Int) ≤ (a : Int) := by omega
    have ham : (a : Int) < (M : Int) := by omega
    have hac : (a : Int) < (c : Int) := by omega
    obtain ⟨s0, _⟩ := blk1 HBS.out
    clear hn hr hx6 hx7 hx8
    go_enter Tryd.func36, Tryd.ntmps36
    go_upto_region 3 with fail
    rw [HW1.out]
    go_wp2_with fail
    rw [← HND.out]
    refine (rnamed_calls n h Av cv Al cl Af cf w1 HRN.out).mono ?_
    rintro e w7 ⟨A7, c7', rfl, ho, hf⟩
    have HF7 := hid hf
    have HO := hid ho
    obtain ⟨nm, hnm⟩ : ∃ x, n.named = x := ⟨_, rfl⟩
    have HNM2 := hid hnm
    rw [hnm] at HO ⊢
    obtain ⟨p, hp⟩ : ∃ q, nm.length = q := ⟨_, rfl⟩
    have HP := hid hp
    rw [hp] at HO ⊢
    have hp2 : p ≤ 2097152 := by
      have h1 := HP.out
      have h2 := HNM2.out
      have h3 := HRN.out.lm
      have h4 := HRN.out.fm
      rw [← h1, ← h2]
      simp only [Nod.named, List.length_append, List.length_map] at h3 h4 ⊢
      omega
    have hpc : p ≤ c7' := by
      obtain ⟨A', c', e1, e2, _⟩ := HO.out.form
      injection e1 with _ e1 e3
      omega
    have HRD := hid HO.out.rd.1
    clear ho hf hnm hp n0 n1 n2 n3 n4 n5 n6 n7 n8 s0
    go_wp2_with fail
    go_loopw [8] (fun v8 wr => ∃ j : Nat, j ≤ p ∧ v8 = .int .i64 j ∧ Hid (∀ i (k : Nat), i < j → nm.getD i 0 = (k : Int) → ¬ Lead ns k tt) ∧ Hid (Fr (fun _ => False) w7 wr)) (fun v8 _ => p - (intOf v8).toNat)
    case atStart => exact ⟨0, Nat.zero_le _, rfl, hid (fun i k h => by omega), hid (Fr.refl _ _)⟩
    case round =>
      obtain ⟨j, hj, rfl, HA, HF⟩ := hrel
      have HFA := hid (HF7.out.then_ HF.out (fun _ _ h => h))
      obtain ⟨s0, _⟩ := blk1 (HBS.out.fr HFA.out (fun h => h))
      by_cases hlt : j < p
      · obtain ⟨ax, rfl, hax, cx⟩ := HRD.out.fr0 HF.out j (by rw [HP.out]; exact hlt)
        obtain ⟨x, hx⟩ : ∃ x, nm.getD j 0 = x := ⟨_, rfl⟩
        rw [hx] at cx
        have HXE := hid hx
        have HXM := hid (show x ∈ nm by
          rw [← hx]
          have hj' : j < nm.length := by rw [HP.out]; exact hlt
          simp [List.getD_eq_getElem?_getD, List.getElem?_eq_getElem hj'])
        have HXB := hid (show (a : Int) < x ∧ x < (M : Int) by
          have := HWF.out a (by rw [HM.out]; exact ha) x (by rw [HNA.out, HNM2.out]; exact HXM.out)
          rw [HM.out] at this
          exact this)
        obtain ⟨k, hk⟩ : ∃ k : Nat, x = k := ⟨x.toNat, by have := HXB.out; omega⟩
        subst hk
        have hkb := HXB.out
        have hkm : k < M := by omega
        have hak : a < k := by omega
        have hj0 : (0 : Int) ≤ (j : Int) := by omega
        have hjm : (j : Int) < (p : Int) := by omega
        have hjc : (j : Int) < (c7' : Int) := by omega
        clear hx hkb
        by_cases hkt : k ≤ tt
        · have hd : decide ((k : Int) ≤ (tt : Int)) = true := decide_eq_true (by omega)
          have hd2 : decide (k ≤ tt) = true := decide_eq_true hkt
          have HS := hid (show ∀ w', Fr (fun _ => False) wr w' → w'.cell? ⟨w.heap.size, 0, none⟩ = some (.slice (some ad) M c) ∧ w'.cell? (ax.add j) = some (.int .i64 (k : Int)) from fun w' hf => ⟨ItemB.cell_fr s0 hf, ItemB.cell_fr cx hf⟩)
          have HNG := hid (show M - k ≤ N by have := HAN.out; omega)
          clear s0 cx
          go_wp2_with fail
          go_region_held3 (fun w' => w'.cell? ⟨w.heap.size, 0, none⟩ = some (.slice (some ad) M c) ∧ w'.cell? (ax.add j) = some (.int .i64 (k : Int)))
            (first | exact HS.out _ (Fr.refl _ _).drew | exact HS.out _ (Fr.refl _ _) | exact HS.out _ HF9.out)
            ((go_at_call 36; refine (HIH.out k hkm HNG.out _ (by exact (((HR.out.fr0 HF1.out).fr0 HFA.out).fr0 (Fr.refl _ _).drew))).mono ?_; rintro e w9 ⟨rfl, hf⟩; have HF9 := hid (((Fr.refl (fun _ => False) wr).drew).then_ hf (fun _ _ h => h))))
          obtain ⟨b, hb9⟩ : ∃ b, decide (Lead ns k tt) = b := ⟨_, rfl⟩
          have HB := hid hb9
          rw [hb9]
          clear hf hb9
          cases b with
          | true =>
            have HE := hid (show q = true by
              rw [← HQ.out, decide_eq_true]
              exact .step a k tt (by rw [HM.out]; exact ha) (by rw [HNA.out, HNM2.out]; exact HXM.out) (of_decide_eq_true HB.out))
            go_wp2_with fail
            go_ret
            exact ⟨by rw [HE.out]; rfl, HF1.out.trans (HFA.out.then_ HF9.out (fun _ _ h => h))⟩
          | false =>
            have HE := hid (of_decide_eq_false HB.out)
            go_wp2_with fail
            go_roundw
            case rel => exact ⟨j + 1, by omega, by go_num, hid (fun i k' hi he => by
              by_cases h3 : i < j
              · exact HA.out i k' h3 he
              · obtain rfl : i = j := by omega
                rw [HXE.out] at he
                obtain rfl : k = k' := by omega
                exact HE.out), hid (HF.out.then_ HF9.out (fun _ _ h => h))⟩
            case measure => simp [intOf]; omega
        · have hd : decide ((k : Int) ≤ (tt : Int)) = false := decide_eq_false (by omega)
          have hd2 : decide (k ≤ tt) = false := decide_eq_false hkt
          have HKT := hid hkt
          go_wp2_with fail
          go_quiet (fail)
          go_wp2_with fail
          go_roundw
          case rel => exact ⟨j + 1, by omega, by go_num, hid (fun i k' hi he => by
            by_cases h3 : i < j
            · exact HA.out i k' h3 he
            · obtain rfl : i = j := by omega
              rw [HXE.out] at he
              obtain rfl : k = k' := by omega
              intro hl
              exact HKT.out (hl.le HWF.out)), hid (HF.out.drewN _)⟩
          case measure => simp [intOf]; omega
      · obtain rfl : j = p := by omega
        have HE := hid (show q = false by
          rw [← HQ.out, decide_eq_false]
          intro hl
          cases hl with
          | refl => exact HNE.out rfl
          | step _ k _ ha2 hk hl =>
            rw [HNA.out, HNM2.out] at hk
            obtain ⟨i, hi, he⟩ := List.getElem_of_mem hk
            exact HA.out i k (by rw [HP.out] at hi; exact hi) (by simp [List.getD_eq_getElem?_getD, List.getElem?_eq_getElem hi, he]) hl)
        go_wp2_with fail
        go_ret
        exact ⟨by rw [HE.out]; rfl, HF1.out.trans HFA.out⟩
end Go.Proofs.YtkmgiodhaaajjaaDoor.SchT
