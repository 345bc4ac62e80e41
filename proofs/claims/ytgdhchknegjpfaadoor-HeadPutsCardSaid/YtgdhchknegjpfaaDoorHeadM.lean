/- Layer head: the shortest heads are the document's, and read again. -/
import Derived.Test.YtgdhchknegjpfaaDoorHeadL
import Derived.Test.YtgdhchknegjpfaaDoorHeadN
set_option linter.unusedVariables false
set_option linter.unusedSimpArgs false
namespace Go.Proofs.YtgdhchknegjpfaaDoor.HeadM
open Go.IntWalk Go.RowKit Go.Proofs.YtgdhchknegjpfaaDoor.Mem Go.Proofs.YtgdhchknegjpfaaDoor.Num Go.Proofs.YtgdhchknegjpfaaDoor.BitsA Go.Proofs.YtgdhchknegjpfaaDoor.BitsB Go.Proofs.YtgdhchknegjpfaaDoor.App Go.Proofs.YtgdhchknegjpfaaDoor.FloatP Go.Proofs.YtgdhchknegjpfaaDoor.FloatB Go.Proofs.YtgdhchknegjpfaaDoor.FloatG Go.Proofs.YtgdhchknegjpfaaDoor.FloatI Go.Proofs.YtgdhchknegjpfaaDoor.HeadP Go.Proofs.YtgdhchknegjpfaaDoor.HeadA Go.Proofs.YtgdhchknegjpfaaDoor.HeadB Go.Proofs.YtgdhchknegjpfaaDoor.HeadC Go.Proofs.YtgdhchknegjpfaaDoor.HeadD Go.Proofs.YtgdhchknegjpfaaDoor.HeadE Go.Proofs.YtgdhchknegjpfaaDoor.HeadF Go.Proofs.YtgdhchknegjpfaaDoor.HeadI Go.Proofs.YtgdhchknegjpfaaDoor.HeadJ Go.Proofs.YtgdhchknegjpfaaDoor.HeadK Go.Proofs.YtgdhchknegjpfaaDoor.HeadL Go.Proofs.YtgdhchknegjpfaaDoor.Same

theorem put_nil7 (M A : Nat) : putR M A = [] → M = 7 := by
  unfold putR
  intro h
  split at h
  · cases h
  · split at h
    · rename_i h7; exact h7.1
    · split at h
      · cases h
      · split at h
        · cases h
        · split at h <;> cases h
set_option maxRecDepth 20000 in
set_option maxHeartbeats 2000000 in
theorem puts_calls (m : Int) (x : Nat) (w : World) (hd : Dbl w) (hx : x < 18446744073709551616) :
    Calls Tryd.prog 5 #[.int .i64 m, .int .u64 x] w fun e w' => e = .returned (.bool true) ∧ Fr (fun _ => False) w w' := by
  obtain ⟨M, hM⟩ : ∃ M : Nat, (m % 8).toNat = M := ⟨_, rfl⟩
  have hm : m % 8 = M := by omega
  obtain ⟨t1, t2, t3⟩ := tmod_bd m 8 (by decide)
  have g1 : (Int.tmod m 8 + 8) % 8 = (M : Int) := by omega
  have HM8 := hid (show M < 8 by omega)
  have HMM := hid hm
  have HD := hid hd
  have HX := hid hx
  clear hd hM hm t3 hx
  go_enter Tryd.func5, Tryd.ntmps5
  go_wp2_with fail
  refine (HeadN.awake_calls w HD.out).mono ?_
  rintro e w1 ⟨rfl, hf⟩
  have HF := hid hf
  clear hf
  go_wp2_with fail
  refine (put_calls m M x HMM.out HX.out w1).mono ?_
  rintro e w2 ⟨v2, rfl, ho, hf⟩
  obtain ⟨A2, c2, rfl, hc2, _⟩ := ho.form
  have HO2 := hid ho
  have HF2 := hid (HF.out.then_ hf (fun _ _ h => h))
  clear ho hf
  go_wp2_with fail
  refine (putf_calls x HX.out w2 (HD.out.fr0 HF2.out)).mono ?_
  rintro e w3 ⟨v3, rfl, ho, hf⟩
  obtain ⟨A3, c3, rfl, hc3, _⟩ := ho.form
  have HO3 := hid ho
  have HO2' := hid (HO2.out.fr hf (fun _ _ h => h))
  have HF3 := hid (HF2.out.then_ hf (fun _ _ h => h))
  clear ho hf HO2
  go_wp2_with fail
  refine (ref_calls M x HM8.out HX.out w3).mono ?_
  rintro e w4 ⟨v4, rfl, ho, hf⟩
  obtain ⟨A4, c4, rfl, hc4, _⟩ := ho.form
  have HO4 := hid ho
  have HO2 := hid (HO2'.out.fr hf (fun _ _ h => h))
  have HO3' := hid (HO3.out.fr hf (fun _ _ h => h))
  have HF4 := hid (HF3.out.then_ hf (fun _ _ h => h))
  clear ho hf HO2' HO3
  go_wp2_with fail
  refine (same_eq A2 A4 (putR M x).length (putR M x).length c2 c4 (putR M x) (putR M x) w4 rfl rfl rfl HO2.out.rd.1 HO4.out.rd.1 (bytes_put M x HM8.out)).mono ?_
  rintro e w5 ⟨rfl, rfl⟩
  go_wp2_with fail
  refine (refputf_calls x HX.out w4).mono ?_
  rintro e w6 ⟨v6, rfl, ho, hf⟩
  obtain ⟨A6, c6, rfl, hc6, _⟩ := ho.form
  have HO6 := hid ho
  have HO2' := hid (HO2.out.fr hf (fun _ _ h => h))
  have HO3 := hid (HO3'.out.fr hf (fun _ _ h => h))
  have HF6 := hid (HF4.out.then_ hf (fun _ _ h => h))
  clear ho hf HO2 HO3' HO4
  go_wp2_with fail
  refine (same_eq A3 A6 (putFR x).length (putFR x).length c3 c6 (putFR x) (putFR x) w6 rfl rfl rfl HO3.out.rd.1 HO6.out.rd.1 (bytes_putf x)).mono ?_
  rintro e w7 ⟨rfl, rfl⟩
  go_wp2_with fail
  have hl9 := len_putf x
  refine (first_calls A3 _ c3 (putFR x) w6 (HD.out.fr0 HF6.out) rfl HO3.out.rd.1 (bytes_putf x) (by omega)).mono ?_
  rintro e w8 ⟨rfl, hf⟩
  have HF8 := hid (HF6.out.then_ hf (fun _ _ h => h))
  have HO2 := hid (HO2'.out.fr hf (fun _ _ h => h))
  obtain ⟨W, A, hfi⟩ := first_putf x HX.out
  rw [hfi]
  obtain ⟨fl, hfl⟩ : ∃ fl, (putFR x).length = fl := ⟨_, rfl⟩
  rw [hfl] at hl9 ⊢
  clear hf HO2' HO6 HO3 hfi hfl
  obtain ⟨bs, hbs⟩ : ∃ bs, putR M x = bs := ⟨_, rfl⟩
  have HBB := hid (show Bytes bs by rw [← hbs]; exact bytes_put M x HM8.out)
  have hbl := len_put M x
  have hn7 := put_nil7 M x
  have hfb := first_put M x HM8.out HX.out [1, 2, 3]
  rw [hbs] at HO2 hbl hn7 hfb ⊢
  by_cases hb : bs = []
  · subst hb
    obtain rfl := hn7 rfl
    clear hfb
    go_wp2_with fail
    go_ret
    exact ⟨rfl, HF8.out.alloc _⟩
  · obtain ⟨W', hfb⟩ := hfb hb
    have HFB := hid hfb
    obtain ⟨L, hL⟩ : ∃ L, bs.length = L := ⟨_, rfl⟩
    have HL := hid hL
    have h1 : 1 ≤ L := by
      rw [← hL]
      rcases bs with _ | ⟨_, _⟩
      · exact absurd rfl hb
      · simp
    have e0 : ((L : Int) == 0) = false := beq_eq_false_iff_ne.2 (by omega)
    rw [hL] at HO2 hbl ⊢
    clear hb hfb hn7 hL hbs
    have HHB := hid (show Blk (w8.alloc (.cells #[.int .i64 7, .int .i64 W, .int .u64 A] 29)) w8.heap.size 29 #[.int .i64 7, .int .i64 W, .int .u64 A] from Blk.new w8 _ _)
    have HFH := hid (show Fr (fun _ => False) w (w8.alloc (.cells #[.int .i64 7, .int .i64 W, .int .u64 A] 29)) from HF8.out.alloc _)
    have HOH := hid (show Own .u8 5 (w8.alloc (.cells #[.int .i64 7, .int .i64 W, .int .u64 A] 29)) w1.heap.size (.slice A2 L c2) bs from HO2.out.fr ((Fr.refl (fun _ => False) w8).alloc _) (fun _ _ h => h))
    have HE := hid (show Own .u8 5 ((w8.alloc (.cells #[.int .i64 7, .int .i64 W, .int .u64 A] 29)).alloc (.cells #[] 5)) (w8.heap.size + 1) (.slice (some ⟨w8.heap.size + 1, 0, none⟩) 0 0) [] by have := own_made0 .u8 5 (w8.alloc (.cells #[.int .i64 7, .int .i64 W, .int .u64 A] 29)); rw [show (w8.alloc (.cells #[.int .i64 7, .int .i64 W, .int .u64 A] 29)).heap.size = w8.heap.size + 1 by simp] at this; exact this)
    clear HO2
    go_wp2_with (first
      | (refine wpList_app rfl (.tmp 60) (.tmp 61) 32 rfl 1 Tryd.underlying32 infoByte _ [] rfl HE.out A2 L c2 rfl bs HL.out (HOH.out.rd.1.fr0 ((Fr.refl _ (w8.alloc (.cells #[.int .i64 7, .int .i64 W, .int .u64 A] 29))).alloc _)) (by simp; omega) (by simp) ?_; intro v9 w9 h9; have HO9 := hid (show Own .u8 5 w9 (w8.heap.size + 1) v9 bs from h9.out.own); have HF9 := hid (h9.out.fr0 HE.out ((Fr.refl (fun _ => False) (w8.alloc (.cells #[.int .i64 7, .int .i64 W, .int .u64 A] 29))).alloc (.cells #[] 5)) (by simp)))
      | (refine wpList_app rfl (.tmp 62) (.tmp 63) 32 rfl 1 Tryd.underlying32 infoByte v9 bs rfl (HO9.out.fr ((Fr.refl (fun _ => False) w9).alloc _) (fun _ _ h => h)) (some ⟨w9.heap.size, 0, none⟩) 3 3 rfl [1, 2, 3] rfl (VecI.rd (show VecI .u8 5 _ _ [1, 2, 3] from Blk.new w9 _ _)) (by rw [HL.out]; omega) (by have := HF9.out.size; simp at this ⊢; omega) ?_; intro v10 w10 h10))
    have HO10 := hid (show Own .u8 5 w10 (w8.heap.size + 1) v10 (bs ++ [1, 2, 3]) from h10.out.own)
    have HF10 := hid (h10.out.fr0 (HO9.out.fr ((Fr.refl (fun _ => False) w9).alloc (.cells #[.int .u8 1, .int .u8 2, .int .u8 3] 5)) (fun _ _ h => h)) (HF9.out.alloc (.cells #[.int .u8 1, .int .u8 2, .int .u8 3] 5)) (by simp))
    obtain ⟨A10, c10, rfl, _, _⟩ := HO10.out.form
    have HFa := hid (HFH.out.then_ HF10.out (fun _ _ h => h))
    have HHa := hid (HHB.out.fr HF10.out id)
    have HBc := hid (show Bytes (bs ++ [1, 2, 3]) by
      intro c hc
      rcases List.mem_append.1 hc with h | h
      · exact HBB.out c h
      · simp at h; omega)
    have HLc := hid (show (bs ++ [1, 2, 3]).length = L + 3 by simp [HL.out])
    clear h9 h10 HE HO9 HF9 HF10 HHB HFH HOH
    refine (first_calls A10 _ c10 (bs ++ [1, 2, 3]) w10 (HD.out.fr0 HFa.out) rfl HO10.out.rd.1 HBc.out (by rw [HLc.out]; omega)).mono ?_
    rintro e w11 ⟨rfl, hf⟩
    have HFb := hid (HFa.out.then_ hf (fun _ _ h => h))
    have HHb := hid (HHa.out.fr hf id)
    rw [HFB.out, HL.out]
    obtain ⟨k0, k1, k2, f0, f1, f2⟩ := cells3 HHb.out
    clear hf HHa HFa HO10
    go_wp2_with fail
    go_ret
    refine ⟨rfl, ?_⟩
    have hs := HF8.out.size
    have st (v : World) (hv : Fr (fun _ => False) w v) (o : Nat) (u : Value) : Fr (fun _ => False) w (v.setCell ⟨w8.heap.size, o, none⟩ u) :=
      ⟨hv.os, hv.tape, hv.output, by simpa [World.setCell] using hv.size, fun k hk hS => (Below.heap_setCell v ⟨w8.heap.size, o, none⟩ u k (show k ≠ w8.heap.size by omega)).trans (hv.block k hk hS)⟩
    exact st _ (st _ (st _ HFb.out 0 _) 1 _) 2 _
theorem puts_law (m x : Int) (W : World) (hm : (Lit.int .i64 m).wf = true) (hx : (Lit.int .u64 x).wf = true) (hL : laidMetH Tryd.prog Rows.headPutsRow.laid W) :
    Calls Tryd.prog 5 #[.int .i64 m, .int .u64 x] W fun e W' => e = .returned (.bool true) ∧ Below W.heap.size W W' := by
  simp [Lit.wf, IntKind.min, IntKind.max, IntKind.bits, IntKind.signed] at hx
  obtain ⟨n, rfl⟩ : ∃ n : Nat, (n : Int) = x := ⟨x.toNat, by omega⟩
  refine (puts_calls m n W (Dbl.dbl hL) (by omega)).mono ?_
  rintro e w' ⟨he, hf⟩
  exact ⟨he, hf.toBelow (fun _ _ h => h)⟩
end Go.Proofs.YtgdhchknegjpfaaDoor.HeadM
