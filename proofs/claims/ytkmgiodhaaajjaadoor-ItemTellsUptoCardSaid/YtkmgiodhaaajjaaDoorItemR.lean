/- Layer item: all items, one by one. -/
import Derived.Test.YtkmgiodhaaajjaaDoorItemA
import Derived.Test.YtkmgiodhaaajjaaDoorRange
set_option linter.unusedVariables false
set_option linter.unusedSimpArgs false
namespace Go.Proofs.YtkmgiodhaaajjaaDoor.ItemR
open Go Go.IntWalk Go.RowKit Go.Shelf Go.Proofs.YtkmgiodhaaajjaaDoor.Mem Go.Proofs.YtkmgiodhaaajjaaDoor.ItemP Go.Proofs.YtkmgiodhaaajjaaDoor.ItemM Go.Proofs.YtkmgiodhaaajjaaDoor.Own Go.Proofs.YtkmgiodhaaajjaaDoor.ItemA Go.Proofs.YtkmgiodhaaajjaaDoor.Range
attribute [local go_sem] Oper.semAt_some

theorem prefix_take {l : List It} {j : Nat} {d : Nat} (h : j < l.length) {q : List (It × Nat)} (hq : q <+: l[j].all d) : alls (l.take j) d ++ q <+: alls l d := by
  have e : alls l d = alls (l.take j) d ++ (l[j].all d ++ alls (l.drop (j + 1)) d) := by
    conv => lhs; rw [← List.take_append_drop (j + 1) l]
    rw [alls_append, alls_take_succ l j d h, List.append_assoc]
  rw [e]
  obtain ⟨r, hr⟩ := hq
  exact ⟨r ++ alls (l.drop (j + 1)) d, by rw [← hr]; simp [List.append_assoc]⟩

set_option maxRecDepth 100000 in
set_option maxHeartbeats 4000000 in
theorem walks_in (F : Fence) (hd : F.depth = none) (h71 : F.fn 71) (hro : F.round = none) (l n₀ N : Nat) (w0 : World) (lo hi M : Nat) (S : Nat → Prop)
    (hS : ∀ b, lo ≤ b → b < hi → ¬ S b) (hSn : ∀ b, S b → b < n₀) (hM : M ≤ 2000000) (J Jx : List (Vis w0 lo hi M) → World → Prop)
    (hJ : ∀ s (W W' : World), J s W → W.grownBy W' none → J s W') (hJx : ∀ s (W W' : World), Jx s W → W.grownBy W' none → Jx s W')
    (hY : ∀ m pre (v : Vis w0 lo hi M) W, J pre W → pre.length < N → YieldAt F m Tryd.prog l (visE v) W fun e W' =>
      (e = .returned (.bool true) ∧ J (pre ++ [v]) W' ∧ Kc S W W') ∨ (e = .returned (.bool false) ∧ Jx (pre ++ [v]) W')) (Z : Nat) :
    ∀ (x : It), x.size ≤ Z → ∀ (n d : Nat) (cs : List Value) (pre : List (Vis w0 lo hi M)) (W : World), n₀ ≤ W.heap.size → Kc S w0 W → ItAt w0 lo hi x cs → x.size ≤ M → d + x.size ≤ 4000000 → J pre W → pre.length + x.size ≤ N →
      CallsIn F n Tryd.prog 71 #[.agg cs.toArray, .int .i64 d, .func (.yield l) #[] #[]] W fun e W' =>
        (e = .returned (.bool true) ∧ (∃ q, prs q = x.all d ∧ J (pre ++ q) W') ∧ Kc S W W') ∨ (e = .returned (.bool false) ∧ ∃ q, prs q <+: x.all d ∧ Jx (pre ++ q) W') := by
  have hdd : ∀ k : Nat, (F.depth.isSome = true → 1 ≤ k) := fun k h => by rw [hd] at h; cases h
  induction Z with
  | zero => intro x hx; have := size_pos x; omega
  | succ Z ih =>
    intro x hx n d cs pre W hn hK0 hAt hxM hdz hJ0 hN
    obtain ⟨v, hv⟩ : ∃ v : Vis w0 lo hi M, v.1 = (x, d, cs) := ⟨vis x d cs hAt hxM, rfl⟩
    have HV := hid (hY (n - 1) pre v)
    obtain ⟨k, nn, s, l'⟩ := x
    obtain ⟨A, c, rfl, hc, hk, hnn, hs, hl, hL⟩ := hAt
    have HIH := hid ih
    have HSZ := hid hx
    have HXM := hid hxM
    have HDZ := hid hdz
    have HNN := hid hN
    have HLB := hid (sizes_length l')
    have hl2 : l'.length ≤ 2000000 := by have h1 := HXM.out; have h2 := HLB.out; simp only [It.size] at h1; omega
    have hd2 : d ≤ 4000000 := by omega
    obtain ⟨m, hm⟩ : ∃ m, l'.length = m := ⟨_, rfl⟩
    have HM := hid hm
    have HL := hid hL
    rw [hm] at hc hl2 ⊢
    obtain ⟨W1, hW1⟩ : ∃ W1, W.alloc (.cells #[.int .i64 k, .int .u64 nn, .string s, .slice A m c] 25) = W1 := ⟨_, rfl⟩
    have HF1 := hid (show Fr (fun _ => False) W W1 by rw [← hW1]; exact (Fr.refl _ W).alloc _)
    have HB1 := hid (show Blk W1 W.heap.size 25 #[.int .i64 k, .int .u64 nn, .string s, .slice A m c] by rw [← hW1]; exact Blk.new W _ _)
    have HJ1 := hid (hJ _ _ _ hJ0 (grown_of_fr HF1.out))
    have HK1 := hid (show Kc S w0 W1 from hK0.trans (Kc.grown (grown_of_fr HF1.out)))
    have hbs : ¬ S W.heap.size := fun h => by have := hSn _ h; omega
    obtain ⟨fn, tmps, assign, body, hy, hR⟩ := HV.out W1 HJ1.out (by have := HNN.out; simp only [It.size] at this; omega)
    rw [show visE v = #[.int .i64 d, .agg #[.int .i64 k, .int .u64 nn, .string s, .slice A m c]] by rw [← hm]; unfold visE; rw [hv]] at hy
    have HQ := hid (show prs [v] = [(It.mk k nn s l', d)] by unfold prs; simp [hv])
    have HW1 := hid hW1
    have c0 := HB1.out.cell 0
    have c1 := HB1.out.cell 1
    have c2 := HB1.out.cell 2
    have c3 := HB1.out.cell 3
    simp at c0 c1 c2 c3
    have HR := hid hR
    clear ih hx hL hm hk hnn hs hl hdz hN hxM hJ0 hK0 HV hW1 hR hv
    refine callsIn_of_wp Tryd.func71 rfl h71 ?_ hro
    simp only [Tryd.ntmps71, List.size_toArray, List.length_cons, List.length_nil, Nat.reduceAdd, Nat.reduceSub, Array.replicate_succ, Array.replicate_zero, List.push_toArray, List.append_toArray, List.nil_append, List.cons_append]
    gi_wp2_with fail
    rw [HW1.out]
    gi_wp2_with fail
    rw [hy]
    gi_wp2_with fail
    refine HR.out.mono ?_
    rintro e W2 (⟨rfl, hJ2, hK2⟩ | ⟨rfl, hX2⟩)
    · have g3 := hK2.cell c3 hbs
      have HK2 := hid hK2
      have HKw := hid (HK1.out.trans hK2)
      have HJ2 := hid hJ2
      clear c0 c1 c2 c3 hy hK2 hJ2
      gi_wp2_with fail
      gi_loopw [17] (fun i wr => ∃ j : Nat, j ≤ m ∧ i = .int .i64 j ∧ Hid (Kc S W1 wr) ∧ Hid (∃ q, prs q = alls (l'.take j) (d + 1) ∧ J (pre ++ [v] ++ q) wr)) (fun i _ => m - (intOf i).toNat)
      case atStart => exact ⟨0, Nat.zero_le _, rfl, HK2, hid ⟨[], by simp [prs, alls], by simpa using HJ2.out⟩⟩
      case round =>
        obtain ⟨j, hj, rfl, HK, HQJ⟩ := hrel
        by_cases hlt : j < m
        · obtain ⟨ad, k', n', s', l2, A', c', rfl, hla, hab, hx', b0, b1, b2, b3, hch⟩ := ItsAt.kid HL.out j (by rw [HM.out]; exact hlt)
          have HKK := hid (HK1.out.trans HK.out)
          have hbk : ¬ S (ad.add (j * 4)).block := by rw [block_of_add]; exact hS _ hla hab
          have c0 := HKK.out.cell b0 hbk
          have c1 := HKK.out.cell b1 hbk
          have c2 := HKK.out.cell b2 hbk
          have c3 := HKK.out.cell b3 hbk
          clear b0 b1 b2 b3
          have HX := hid hx'
          have HCH := hid hch
          have HSG := hid (fun q h => prefix_take (q := q) (d := d + 1) (show j < l'.length by rw [HM.out]; exact hlt) h)
          have HAS := hid (alls_take_succ l' j (d + 1) (by rw [HM.out]; exact hlt))
          have HGZ := hid (size_get k nn s l' j (by rw [HM.out]; exact hlt))
          have HTZ := hid (sizes_take_succ l' j (by rw [HM.out]; exact hlt))
          have HTL := hid (sizes_take_le l' (j + 1))
          rw [hx'] at HSG HAS HGZ HTZ
          have hj0 : (0 : Int) ≤ (j : Int) := by omega
          have hjm : (j : Int) < (m : Int) := by omega
          have hjc : (j : Int) < (c : Int) := by omega
          have HNW := hid (show n₀ ≤ wr.heap.size from Nat.le_trans hn (Nat.le_trans HF1.out.size HK.out.size))
          have HGA := hid (grown_of_fr ((Fr.refl (fun _ => False) wr).alloc (.cells #[.int .i64 k', .int .u64 n', .string s', .slice A' l2.length c'] 25)))
          obtain ⟨q, hq1, hq2⟩ := HQJ.out
          have HQ1 := hid hq1
          have HQ2 := hid (hJ _ _ _ hq2 HGA.out)
          have HLN := hid (show (pre ++ [v] ++ q).length = pre.length + 1 + sizes (l'.take j) by
            have h1 := congrArg List.length hq1
            rw [prs_length, alls_length] at h1
            simp [h1]
            omega)
          clear hch hx' hq1 hq2 HQJ
          gi_wp2_with fail
          rw [show (d : Int) + 1 = ((d + 1 : Nat) : Int) by omega]
          refine (HIH.out (.mk k' n' s' l2) (by have h1 := HGZ.out; have h2 := HSZ.out; omega) (n - 1) (d + 1) _ (pre ++ [v] ++ q) _ (Nat.le_trans HNW.out HGA.out.size) (HKK.out.trans (Kc.grown HGA.out)) HCH.out (by have h1 := HGZ.out; have h2 := HXM.out; omega) (by have h1 := HGZ.out; have h2 := HDZ.out; omega) HQ2.out (by
            have h1 := HLN.out
            have h2 := HTZ.out
            have h3 := HTL.out
            have h4 := HNN.out
            simp only [It.size] at h2 h4
            rw [h1]
            simp only [It.size]
            omega)).mono ?_
          rintro e W4 (⟨rfl, ⟨q2, hq3, hq4⟩, hK4⟩ | ⟨rfl, q2, hq3, hX4⟩)
          · have HE1 := hid (show Kc S W1 W4 from (HK.out.trans (Kc.grown HGA.out)).trans hK4)
            have HE2 := hid (show ∃ q, prs q = alls (l'.take (j + 1)) (d + 1) ∧ J (pre ++ [v] ++ q) W4 from ⟨q ++ q2, by rw [prs_append, HQ1.out, hq3, HAS.out], by rw [← List.append_assoc]; exact hq4⟩)
            clear hq3 hq4 hK4 c0 c1 c2 c3
            gi_wp2_with fail
            go_roundw
            case rel => exact ⟨j + 1, by omega, by go_num, HE1, HE2⟩
            case measure => simp [intOf]; omega
          · have HE2 := hid (show ∃ q, prs q <+: (It.mk k nn s l').all d ∧ Jx (pre ++ q) W4 from ⟨[v] ++ (q ++ q2), by
              have h1 := HSG.out _ hq3
              rw [prs_append, prs_append, HQ.out, HQ1.out]
              obtain ⟨r, hr⟩ := h1
              exact ⟨r, by rw [It.all, ← hr]; rfl⟩, by simpa [List.append_assoc] using hX4⟩)
            clear hq3 hX4 c0 c1 c2 c3
            gi_wp2_with fail
            go_ret
            exact .inr ⟨rfl, HE2.out⟩
        · have HQE := HQJ
          clear HQJ
          obtain rfl : j = m := by omega
          gi_wp2_with fail
          go_ret
          obtain ⟨q, hq1, hq2⟩ := HQE.out
          refine .inl ⟨rfl, ⟨[v] ++ q, ?_, by simpa [List.append_assoc] using hq2⟩, (Kc.grown (grown_of_fr HF1.out)).trans HK.out⟩
          rw [prs_append, HQ.out, hq1, List.take_of_length_le (by rw [HM.out]; omega), It.all]
          rfl
    · gi_wp2_with fail
      go_ret
      refine .inr ⟨rfl, [v], ?_, hX2⟩
      rw [HQ.out, It.all]
      exact ⟨_, rfl⟩

set_option maxHeartbeats 1000000 in
/-- 'func(yield) { walk(x, 1, yield) }'. -/
theorem all1_in (F : Fence) (hd : F.depth = none) (n : Nat) (h70 : F.fn 70) (h71 : F.fn 71) (hro : F.round = none) (l n₀ N : Nat) (w0 : World) (lo hi M : Nat) (S : Nat → Prop)
    (hS : ∀ b, lo ≤ b → b < hi → ¬ S b) (hSn : ∀ b, S b → b < n₀) (hM : M ≤ 2000000) (J Jx : List (Vis w0 lo hi M) → World → Prop)
    (hJ : ∀ s (W W' : World), J s W → W.grownBy W' none → J s W') (hJx : ∀ s (W W' : World), Jx s W → W.grownBy W' none → Jx s W')
    (x : It) (cs : List Value) (hxM : x.size ≤ M) (hN : x.size ≤ N) (hAt : ItAt w0 lo hi x cs)
    (hY : ∀ pre (v : Vis w0 lo hi M) W, J pre W → pre.length < N → YieldAt F (n - 1) Tryd.prog l (visE v) W fun e W' =>
      (e = .returned (.bool true) ∧ J (pre ++ [v]) W' ∧ Kc S W W') ∨ (e = .returned (.bool false) ∧ Jx (pre ++ [v]) W'))
    (W : World) (hn : n₀ ≤ W.heap.size) (hK : Kc S w0 W) (Bt : Nat) (hB : Blk W Bt 25 cs.toArray) (h0 : J [] W) :
    CallsIn F n Tryd.prog 70 #[.func (.yield l) #[] #[], .pointer (some ⟨Bt, 0, none⟩)] W fun e W' => (∃ v, e = .returned v) ∧
      ((∃ ys, prs ys = x.all 1 ∧ J ys W') ∨ (∃ pre, prs pre <+: x.all 1 ∧ Jx pre W')) := by
  have hdd : ∀ k : Nat, (F.depth.isSome = true → 1 ≤ k) := fun k h => by rw [hd] at h; cases h
  have HP := hid (walks_in F hd h71 hro l n₀ N w0 lo hi M S hS hSn hM J Jx hJ hJx (fun m pre v W hj hl => YieldAt.any hd m (hY pre v W hj hl)) x.size x (Nat.le_refl _) (n - 1) 1 cs [] W hn hK hAt hxM (by omega) h0 (by simpa using hN))
  have HBB := hid hB
  have hAt' := hAt
  obtain ⟨k, nn, s, l'⟩ := x
  obtain ⟨A, c, rfl, hc, hk, hnn, hs, hl, hL⟩ := hAt'
  have c0 := HBB.out.cell 0
  have c1 := HBB.out.cell 1
  have c2 := HBB.out.cell 2
  have c3 := HBB.out.cell 3
  simp at c0 c1 c2 c3
  clear hAt hL hxM hN hY hB hK h0 hn hk hnn hs hl hc hM
  refine callsIn_of_wp Tryd.func70 rfl h70 ?_ hro
  simp only [Tryd.ntmps70, List.size_toArray, List.length_cons, List.length_nil, Nat.reduceAdd, Nat.reduceSub, Array.replicate_succ, Array.replicate_zero, List.push_toArray, List.append_toArray, List.nil_append, List.cons_append]
  gi_wp2_with fail
  refine HP.out.mono ?_
  rintro e W1 (⟨rfl, ⟨q, hq, hJ1⟩, _⟩ | ⟨rfl, q, hq, hx⟩)
  · gi_wp2_with fail
    go_end0
    exact ⟨⟨_, rfl⟩, .inl ⟨q, hq, by simpa using hJ1⟩⟩
  · gi_wp2_with fail
    go_end0
    exact ⟨⟨_, rfl⟩, .inr ⟨q, hq, by simpa using hx⟩⟩

/-- **All(x) HANDS BACK A VALUE THAT 'SeqStopsK'.** -/
theorem all_stops (F : Fence) (hd : F.depth = none) (n : Nat) (h70 : F.fn 70) (h71 : F.fn 71) (hro : F.round = none) (n₀ : Nat) (w0 : World) (lo hi M : Nat) (S : Nat → Prop)
    (hS : ∀ b, lo ≤ b → b < hi → ¬ S b) (hSn : ∀ b, S b → b < n₀) (hM : M ≤ 2000000) (x : It) (cs : List Value) (hxM : x.size ≤ M) (hAt : ItAt w0 lo hi x cs)
    (w : World) (hn : n₀ ≤ w.heap.size) (hK : Kc S w0 w) (Bt : Nat) (hB : Blk w Bt 25 cs.toArray) :
    SeqStopsK F n Tryd.prog 70 #[.pointer (some ⟨Bt, 0, none⟩)] (visE (w0 := w0) (lo := lo) (hi := hi) (M := M)) (Kc S) (fun ys => prs ys = x.all 1) (fun pre => prs pre <+: x.all 1) x.size w := fun l J Jx W hW hJ hJx hY h0 =>
  all1_in F hd n h70 h71 hro l n₀ x.size w0 lo hi M S hS hSn hM J Jx (fun s A B h hg => hJ s A B none h hg (fun r e => by cases e)) (fun s A B h hg => hJx s A B none h hg (fun r e => by cases e)) x cs hxM (Nat.le_refl _) hAt hY W (Nat.le_trans hn hW.size) (hK.trans (Kc.fr (Fr.below hW))) Bt (hB.below hW) h0

set_option maxHeartbeats 1000000 in
/-- All(x): x is boxed; the function value captures the box. -/
theorem all_calls (cs : List Value) (k : Int) (nn : Nat) (s : ByteArray) (A : Option Addr) (m c : Nat) (w : World) :
    Calls Tryd.prog 17 #[.agg #[.int .i64 k, .int .u64 nn, .string s, .slice A m c]] w fun e w' => e = .returned (.func (.func 70) #[] #[.pointer (some ⟨w.heap.size, 0, none⟩)]) ∧ Blk w' w.heap.size 25 #[.int .i64 k, .int .u64 nn, .string s, .slice A m c] ∧ Fr (fun _ => False) w w' := by
  have HF1 := hid ((Fr.refl (fun _ => False) w).alloc (.cells #[.int .i64 k, .int .u64 nn, .string s, .slice A m c] 25))
  have HB1 := hid (Blk.new w 25 #[.int .i64 k, .int .u64 nn, .string s, .slice A m c])
  go_enter Tryd.func17, Tryd.ntmps17
  go_wp2_with fail
  go_ret
  exact ⟨rfl, HB1.out, HF1.out⟩
end Go.Proofs.YtkmgiodhaaajjaaDoor.ItemR
