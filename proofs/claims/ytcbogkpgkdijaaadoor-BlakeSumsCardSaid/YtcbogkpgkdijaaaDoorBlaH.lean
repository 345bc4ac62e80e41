/- Walks of layer blake: the document's sum. -/
import Derived.Test.YtcbogkpgkdijaaaDoorBlaR
import Derived.Test.YtcbogkpgkdijaaaDoorBlaQ
import Derived.Test.YtcbogkpgkdijaaaDoorBlaE
set_option linter.unusedVariables false
set_option linter.unusedSimpArgs false
namespace Go.Proofs.YtcbogkpgkdijaaaDoor.BlaH
open Go.IntWalk Go.RowKit Go.Proofs.YtcbogkpgkdijaaaDoor.Mem Go.Proofs.YtcbogkpgkdijaaaDoor.Num Go.Proofs.YtcbogkpgkdijaaaDoor.BitsA Go.Proofs.YtcbogkpgkdijaaaDoor.BitsB Go.Proofs.YtcbogkpgkdijaaaDoor.App Go.Proofs.YtcbogkpgkdijaaaDoor.BlaP Go.Proofs.YtcbogkpgkdijaaaDoor.BlaB Go.Proofs.YtcbogkpgkdijaaaDoor.BlaA Go.Proofs.YtcbogkpgkdijaaaDoor.BlaC Go.Proofs.YtcbogkpgkdijaaaDoor.BlaR Go.Proofs.YtcbogkpgkdijaaaDoor.BlaQ

theorem info64 : (Tryd.prog.info? 22).map (fun i => (i.zero, i.size, i.bytes)) = some (some (.int .u64 0), 1, 8) := by kernel_rfl
theorem mk16 (w : World) : (Instr.makeSlice 65 (.int .i64 16) (.int .i64 16)).run Tryd.prog w = .ok (.slice (some ⟨w.heap.size, 0, none⟩) 16 16) (w.alloc (.cells (madeCells #[.int .u64 0] 16) 22)) :=
  run_make_nc (P := Tryd.prog) 65 22 (.int .u64 0) 8 Tryd.underlying65 info64 16 16 (by omega) (by omega) (by omega) w
theorem little_any (A : Option Addr) (c n : Nat) (xs : List Int) (from_ : Nat) (f : Int) (w : World) (hn : xs.length = n) (hf : (from_ : Int) = f) (hr : RdI .u8 w A xs) (hb : Bytes xs) (hl : n ≤ 140737488355328) (hf2 : from_ ≤ 140737488355328) :
    Calls Tryd.prog 48 #[.slice A n c, .int .i64 f] w fun e w' => e = .returned (.int .u64 (val (win xs from_ 8).reverse)) ∧ w = w' := by
  subst hn hf
  exact little_calls A c xs from_ w hr hb hl hf2
theorem mix_0 (base V cV : Nat) (v : List Int) (x y : Int) (w : World) (hv : Own .u64 22 w base (.slice (some ⟨V, 0, none⟩) 16 cV) v) (hl : v.length = 16) (hU : U64 v) (hx : 0 ≤ x ∧ x < 18446744073709551616) (hy : 0 ≤ y ∧ y < 18446744073709551616) :
    Calls Tryd.prog 50 #[.slice (some ⟨V, 0, none⟩) 16 cV, .int .i64 0, .int .i64 4, .int .i64 8, .int .i64 12, .int .u64 x, .int .u64 y] w
      fun e w' => e = .returned (.tuple #[]) ∧ BlaR.Stepped base V cV w (mix v 0 4 8 12 x y) w' :=
  mix_calls base V cV v 0 4 8 12 x y w hv hl hU (by decide) (by decide) (by decide) (by decide) hx hy
theorem mix_1 (base V cV : Nat) (v : List Int) (x y : Int) (w : World) (hv : Own .u64 22 w base (.slice (some ⟨V, 0, none⟩) 16 cV) v) (hl : v.length = 16) (hU : U64 v) (hx : 0 ≤ x ∧ x < 18446744073709551616) (hy : 0 ≤ y ∧ y < 18446744073709551616) :
    Calls Tryd.prog 50 #[.slice (some ⟨V, 0, none⟩) 16 cV, .int .i64 1, .int .i64 5, .int .i64 9, .int .i64 13, .int .u64 x, .int .u64 y] w
      fun e w' => e = .returned (.tuple #[]) ∧ BlaR.Stepped base V cV w (mix v 1 5 9 13 x y) w' :=
  mix_calls base V cV v 1 5 9 13 x y w hv hl hU (by decide) (by decide) (by decide) (by decide) hx hy
theorem mix_2 (base V cV : Nat) (v : List Int) (x y : Int) (w : World) (hv : Own .u64 22 w base (.slice (some ⟨V, 0, none⟩) 16 cV) v) (hl : v.length = 16) (hU : U64 v) (hx : 0 ≤ x ∧ x < 18446744073709551616) (hy : 0 ≤ y ∧ y < 18446744073709551616) :
    Calls Tryd.prog 50 #[.slice (some ⟨V, 0, none⟩) 16 cV, .int .i64 2, .int .i64 6, .int .i64 10, .int .i64 14, .int .u64 x, .int .u64 y] w
      fun e w' => e = .returned (.tuple #[]) ∧ BlaR.Stepped base V cV w (mix v 2 6 10 14 x y) w' :=
  mix_calls base V cV v 2 6 10 14 x y w hv hl hU (by decide) (by decide) (by decide) (by decide) hx hy
theorem mix_3 (base V cV : Nat) (v : List Int) (x y : Int) (w : World) (hv : Own .u64 22 w base (.slice (some ⟨V, 0, none⟩) 16 cV) v) (hl : v.length = 16) (hU : U64 v) (hx : 0 ≤ x ∧ x < 18446744073709551616) (hy : 0 ≤ y ∧ y < 18446744073709551616) :
    Calls Tryd.prog 50 #[.slice (some ⟨V, 0, none⟩) 16 cV, .int .i64 3, .int .i64 7, .int .i64 11, .int .i64 15, .int .u64 x, .int .u64 y] w
      fun e w' => e = .returned (.tuple #[]) ∧ BlaR.Stepped base V cV w (mix v 3 7 11 15 x y) w' :=
  mix_calls base V cV v 3 7 11 15 x y w hv hl hU (by decide) (by decide) (by decide) (by decide) hx hy
theorem mix_4 (base V cV : Nat) (v : List Int) (x y : Int) (w : World) (hv : Own .u64 22 w base (.slice (some ⟨V, 0, none⟩) 16 cV) v) (hl : v.length = 16) (hU : U64 v) (hx : 0 ≤ x ∧ x < 18446744073709551616) (hy : 0 ≤ y ∧ y < 18446744073709551616) :
    Calls Tryd.prog 50 #[.slice (some ⟨V, 0, none⟩) 16 cV, .int .i64 0, .int .i64 5, .int .i64 10, .int .i64 15, .int .u64 x, .int .u64 y] w
      fun e w' => e = .returned (.tuple #[]) ∧ BlaR.Stepped base V cV w (mix v 0 5 10 15 x y) w' :=
  mix_calls base V cV v 0 5 10 15 x y w hv hl hU (by decide) (by decide) (by decide) (by decide) hx hy
theorem mix_5 (base V cV : Nat) (v : List Int) (x y : Int) (w : World) (hv : Own .u64 22 w base (.slice (some ⟨V, 0, none⟩) 16 cV) v) (hl : v.length = 16) (hU : U64 v) (hx : 0 ≤ x ∧ x < 18446744073709551616) (hy : 0 ≤ y ∧ y < 18446744073709551616) :
    Calls Tryd.prog 50 #[.slice (some ⟨V, 0, none⟩) 16 cV, .int .i64 1, .int .i64 6, .int .i64 11, .int .i64 12, .int .u64 x, .int .u64 y] w
      fun e w' => e = .returned (.tuple #[]) ∧ BlaR.Stepped base V cV w (mix v 1 6 11 12 x y) w' :=
  mix_calls base V cV v 1 6 11 12 x y w hv hl hU (by decide) (by decide) (by decide) (by decide) hx hy
theorem mix_6 (base V cV : Nat) (v : List Int) (x y : Int) (w : World) (hv : Own .u64 22 w base (.slice (some ⟨V, 0, none⟩) 16 cV) v) (hl : v.length = 16) (hU : U64 v) (hx : 0 ≤ x ∧ x < 18446744073709551616) (hy : 0 ≤ y ∧ y < 18446744073709551616) :
    Calls Tryd.prog 50 #[.slice (some ⟨V, 0, none⟩) 16 cV, .int .i64 2, .int .i64 7, .int .i64 8, .int .i64 13, .int .u64 x, .int .u64 y] w
      fun e w' => e = .returned (.tuple #[]) ∧ BlaR.Stepped base V cV w (mix v 2 7 8 13 x y) w' :=
  mix_calls base V cV v 2 7 8 13 x y w hv hl hU (by decide) (by decide) (by decide) (by decide) hx hy
theorem mix_7 (base V cV : Nat) (v : List Int) (x y : Int) (w : World) (hv : Own .u64 22 w base (.slice (some ⟨V, 0, none⟩) 16 cV) v) (hl : v.length = 16) (hU : U64 v) (hx : 0 ≤ x ∧ x < 18446744073709551616) (hy : 0 ≤ y ∧ y < 18446744073709551616) :
    Calls Tryd.prog 50 #[.slice (some ⟨V, 0, none⟩) 16 cV, .int .i64 3, .int .i64 4, .int .i64 9, .int .i64 14, .int .u64 x, .int .u64 y] w
      fun e w' => e = .returned (.tuple #[]) ∧ BlaR.Stepped base V cV w (mix v 3 4 9 14 x y) w' :=
  mix_calls base V cV v 3 4 9 14 x y w hv hl hU (by decide) (by decide) (by decide) (by decide) hx hy
theorem own_drew {k : IntKind} {e : TypeId} {w : World} {b : Nat} {v : Value} {xs : List Int} (h : Own k e w b v xs) : Own k e w.drew b v xs := h.fr ((Fr.refl (fun _ => False) w).drew) (fun _ _ h => h)
theorem digs_shift (x : Int) (j : Nat) : digs x (j + 1) = digs x j ++ [x / 2 ^ (8 * j) % 256] := by
  rw [digs_snoc, show (256 : Int) ^ j = 2 ^ (8 * j) by rw [Int.pow_mul]; rfl]
set_option maxRecDepth 100000 in
set_option maxHeartbeats 16000000 in
theorem ref_sum (A : Option Addr) (n c : Nat) (xs : List Int) (w : World) (hn : xs.length = n) (hr : RdI .u8 w A xs) (hb : Bytes xs) (hl : n ≤ 1000000) :
    Calls Tryd.prog 27 #[.slice A n c] w fun e w' => ∃ v, e = .returned v ∧ Own .u8 5 w' w.heap.size v (sumOf xs) ∧ Fr (fun _ => False) w w' := by
  have HN := hid hn
  have HR := hid hr
  have HB := hid hb
  clear hn hr hb
  go_enter Tryd.func27, Tryd.ntmps27
  go_wp2_with fail
  refine (first_calls w).mono ?_
  rintro e w1 ⟨H, rfl, hH, hv, hf⟩
  have c0 : w1.cell? ⟨H, 0, none⟩ = some (.int .u64 7640891576956012808) := hv.at_ 0 (by decide)
  have z0 := Blk.frozen hv 0
  have HV2 := hid (show VecI .u64 22 (w1.setCell ⟨H, 0, none⟩ (.int .u64 (X 7640891576956012808 16842784))) H (stAt xs 0) from hv.set_ 0 (X 7640891576956012808 16842784))
  have HF2 := hid (hf.setCell (p := ⟨H, 0, none⟩) (.inr hH) (.int .u64 (X 7640891576956012808 16842784)))
  obtain ⟨w2, hw2⟩ : ∃ w2, w1.setCell ⟨H, 0, none⟩ (.int .u64 (X 7640891576956012808 16842784)) = w2 := ⟨_, rfl⟩
  rw [hw2] at HV2 HF2
  have HW2 := hid hw2
  obtain ⟨N, hN⟩ : ∃ N, nb n = N := ⟨_, rfl⟩
  have hN1 := nb_le n
  have hN2 := nb_go n
  rw [hN] at hN1 hN2
  have HNN := hid hN
  have hN3 : N ≤ 8000 := by rw [← hN]; unfold nb; omega
  obtain ⟨B, hB⟩ : ∃ B, (n + 127) / 128 = B := ⟨_, rfl⟩
  have hBe : ((n : Int) + 127) / 128 = (B : Int) := by omega
  rw [hB] at hN2
  have HN2 := hid hN2
  clear hw2 hv hf hN hB hN2
  go_upto_if 28 with fail
  rw [show w1.setCell ⟨H, 0, none⟩ (.int .u64 (Go.bits .xor .u64 7640891576956012808 16842784)) = w2 from HW2.out]
  clear c0 z0 HW2
  go_cut [4] from 23 to 28 (fun s4 wx => s4 = .int .i64 ((N : Int) + 1) ∧ w2 = wx)
  case first =>
    rcases HN2.out with ⟨h1, h2⟩ | ⟨h1, h2⟩
    · subst h1 h2
      go_wp2_with fail
      go_meet
      case rel => exact ⟨rfl, rfl⟩
    · have h3 : ((B : Int) == 0) = false := by rw [beq_eq_false_iff_ne]; omega
      go_wp2_with fail
      go_meet
      case rel => exact ⟨congrArg (Value.int .i64) (by omega), rfl⟩
  obtain ⟨rfl, rfl⟩ := hcut
  clear hBe HN2
  go_wp2_with fail
  go_loopw [5] (fun i w' => ∃ k : Nat, k ≤ N + 1 ∧ i = .int .i64 k ∧ VecI .u64 22 w' H (stAt xs k) ∧ Fr (fun _ => False) w w') (fun i _ => N + 1 - (intOf i).toNat)
  case atStart => exact ⟨0, by omega, rfl, HV2.out, HF2.out⟩
  case round =>
    as_aux_lemma =>
    clear HV2 HF2
    obtain ⟨k, hk, rfl, hv, hf⟩ := hrel
    have HV := hid hv
    have HF := hid hf
    clear hv hf
    by_cases hkN : k < N + 1
    · obtain ⟨tk, htk⟩ : ∃ tk, min (128 * (k + 1)) n = tk := ⟨_, rfl⟩
      have ht1 : tk ≤ n := by omega
      have HTK := hid htk
      obtain ⟨st, hst⟩ : ∃ st, stAt xs k = st := ⟨_, rfl⟩
      have HSL := hid (stAt_length xs k)
      have HSU := hid (stAt_U xs k)
      have HNX := hid (stAt_succ xs k (by rw [HN.out, HNN.out]; omega))
      rw [hst] at HV HSL HSU HNX
      rw [HN.out, htk, HNN.out] at HNX
      obtain ⟨bk, hbk⟩ : ∃ bk, blk xs k = bk := ⟨_, rfl⟩
      rw [hbk] at HNX
      have HBK := hid hbk
      clear hst hbk htk
      have hHr : H < wr.heap.size := Blk.lt HV.out
      have hltN : decide ((k : Int) < (N : Int) + 1) = true := decide_eq_true (by omega)
      go_upto_if 40 with fail
      go_cut [6] from 34 to 42 (fun s6 wx => s6 = .int .i64 (tk : Int) ∧ wr = wx)
      case first =>
        have htk := HTK.out
        clear HTK
        have HTK := hid htk
        clear htk
        by_cases hgt : n < 128 * (k + 1)
        · have h1 : decide ((n : Int) < 128 * ((k : Int) + 1)) = true := decide_eq_true (by omega)
          have h2 : (n : Int) < 128 * ((k : Int) + 1) := by omega
          go_wp2_with fail
          go_meet
          case rel => exact ⟨congrArg (Value.int .i64) (by have := HTK.out; omega), rfl⟩
        · have h1 : decide ((n : Int) < 128 * ((k : Int) + 1)) = false := decide_eq_false (by omega)
          have h2 : ¬ (n : Int) < 128 * ((k : Int) + 1) := by omega
          go_wp2_with fail
          go_meet
          case rel => exact ⟨congrArg (Value.int .i64) (by have := HTK.out; omega), rfl⟩
      obtain ⟨rfl, rfl⟩ := hcut
      have hmk := fun w => mk16 w
      go_wp2_with fail
      obtain ⟨wA, hwA⟩ : ∃ wA, wr.alloc (.cells (madeCells #[.int .u64 0] 16) 22) = wA := ⟨_, rfl⟩
      obtain ⟨Mb, hMb⟩ : ∃ Mb, wr.heap.size = Mb := ⟨_, rfl⟩
      have hW0 : VecI .u64 22 (wr.alloc (.cells (madeCells #[.int .u64 0] 16) 22)) wr.heap.size (wordsTo bk 0) := made_vec .u64 22 wr 16
      have hFA := (Fr.refl (fun _ => False) wr).alloc (.cells (madeCells #[.int .u64 0] 16) 22)
      rw [hwA, hMb] at hW0
      rw [hwA] at hFA
      have HW0 := hid hW0
      have HVA := hid (HV.out.fr hFA id)
      have HFA := hid (HF.out.then_ hFA (fun _ _ h => h))
      have hwM : w.heap.size ≤ Mb := by rw [← hMb]; exact HF.out.size
      rw [hMb] at hHr
      rw [hMb]
      try rw [hwA]
      clear hmk hwA hMb hW0 hFA HV HF
      go_loopw [8] (fun i w' => ∃ t : Nat, t ≤ 16 ∧ i = .int .i64 t ∧ VecI .u64 22 w' Mb (wordsTo bk t) ∧ Fr (fun i => i = Mb) wA w') (fun i _ => 16 - (intOf i).toNat)
      case atStart => exact ⟨0, by omega, rfl, HW0.out, Fr.refl _ _⟩
      case round =>
        as_aux_lemma =>
        clear HW0
        obtain ⟨t, ht, rfl, hv, hf⟩ := hrel
        have HW := hid hv
        have HFw := hid hf
        clear hv hf
        by_cases h16 : t < 16
        · have HFx := hid (HFA.out.then_ HFw.out (fun i hi e => by have e : i = Mb := e; omega))
          have HE := hid (show wordsTo bk (t + 1) = (wordsTo bk t).set t (val (win xs (128 * k + 8 * t) 8).reverse) by rw [win_blk xs k t h16, HBK.out]; rfl)
          go_wp2_with fail
          refine (little_any A c n xs (128 * k + 8 * t) _ wr HN.out (by omega) (HR.out.fr0 HFx.out) HB.out (by omega) (by omega)).mono ?_
          rintro e w5 ⟨rfl, rfl⟩
          obtain ⟨u, hu⟩ : ∃ u, val (win xs (128 * k + 8 * t) 8).reverse = u := ⟨_, rfl⟩
          rw [hu] at HE ⊢
          have hc4 := HW.out.at_ t (by rw [wordsTo_length]; omega)
          have hz4 := Blk.frozen HW.out t
          clear hu
          go_wp2_with fail
          go_roundw
          case rel =>
            refine ⟨t + 1, by omega, by go_num, ?_, HFw.out.set1 _ _⟩
            rw [HE.out]
            exact HW.out.set_ t u
          case measure => simp [intOf]; omega
        · have ht16 : t = 16 := by omega
          rw [show ((t : Nat) : Int) = 16 from by omega]
          subst ht16
          rw [wordsTo_all] at HW
          obtain ⟨m, hm⟩ : ∃ m, words bk = m := ⟨_, rfl⟩
          have HML := hid (words_length bk)
          have HMU := hid (words_U bk)
          rw [hm] at HW HML HMU
          have HMM := hid hm
          clear hm h16
          have HFB := hid (HFA.out.then_ HFw.out (fun i hi e => by have e : i = Mb := e; omega))
          have HVB := hid (HVA.out.fr HFw.out (show ¬ H = Mb by omega))
          have hMwr : Mb < wr.heap.size := Blk.lt HW.out
          clear HVA HFA HFw
          go_wp2_with (refine wpList_app rfl (.tmp 58) (.tmp 59) 65 rfl 8 Tryd.underlying65 info64 _ [] rfl (own_made0 .u64 22 wr) (some ⟨H, 0, none⟩) 8 8 rfl st HSL.out ((VecI.rd HVB.out).fr0 ((Fr.refl _ wr).alloc _)) (by simp) (by simp) ?_; intro v9 w9 h9)
          have HF9 := hid (((Fr.refl (fun _ => False) wr).alloc (.cells #[] 22)).then_ h9.out.fr (fun i hi e => by have := own_blk e; omega))
          have HO9 := hid (show Own .u64 22 w9 wr.heap.size v9 st from h9.out.own)
          clear h9
          refine (first_calls w9).mono ?_
          rintro e w10 ⟨g10, rfl, hg10, hv10, hf10⟩
          have HO10 := hid (HO9.out.fr hf10 (fun _ _ h => h))
          have HR10 := hid (VecI.rd hv10)
          have HF10 := hid (HF9.out.then_ hf10 (fun _ _ h => h))
          clear hv10 hf10 HF9 HO9
          go_wp2_with (refine wpList_app rfl (.tmp 60) (.tmp 61) 65 rfl 8 Tryd.underlying65 info64 _ st rfl HO10.out (some ⟨g10, 0, none⟩) 8 8 rfl iv rfl HR10.out (by rw [HSL.out]; omega) HF10.out.size ?_; intro v11 w11 h11)
          have HO11 := hid (show Own .u64 22 w11 wr.heap.size v11 (st ++ iv) from h11.out.own)
          have HF11 := hid (h11.out.fr0 HO10.out HF10.out (Nat.le_refl _))
          clear h11 HO10 HR10 HF10
          obtain ⟨Av, cv, rfl, hcv, hdel⟩ := HO11.out.form
          clear hdel
          have hsl : (st ++ iv).length = 16 := by rw [List.length_append, HSL.out]; rfl
          rw [hsl] at HO11 hcv ⊢
          obtain ⟨V, rfl⟩ : ∃ V, Av = some ⟨V, 0, none⟩ := by
            obtain ⟨ad, had, _, _⟩ := HO11.out.rd.1 0 (by rw [hsl]; decide)
            obtain ⟨A', c', hv, _, hA'⟩ := HO11.out.form
            injection hv with hv
            subst hv
            obtain ⟨g', hg', _⟩ := hA' _ had
            exact ⟨g', by rw [had, hg']⟩
          have hVb := (HO11.out.lt V rfl).1
          have HVb := hid hVb
          have HV11 := hid (HVB.out.fr HF11.out id)
          have HW11 := hid (HW.out.fr HF11.out id)
          have HFC := hid (HFB.out.then_ HF11.out (fun _ _ h => h))
          obtain ⟨v12, h12⟩ : ∃ z, at_ (st ++ iv) 12 = z := ⟨_, rfl⟩
          have c12 : w11.cell? ⟨V, 12, none⟩ = some (.int .u64 v12) := by rw [← h12]; exact own_at HO11.out 12 (by rw [hsl]; decide)
          have z12 := own_froz HO11.out 12
          obtain ⟨base, hbase⟩ : ∃ base, wr.heap.size = base := ⟨_, rfl⟩
          rw [hbase] at HO11 hMwr hVb
          have HO12 := hid (own_set HO11.out 12 (by rw [hsl]; decide) (X v12 tk))
          obtain ⟨w12, hw12⟩ : ∃ w12, w11.setCell ⟨V, 12, none⟩ (.int .u64 (X v12 tk)) = w12 := ⟨_, rfl⟩
          have f12 := (Fr.refl (fun i => i = V) w11).set1 12 (.int .u64 (X v12 tk))
          rw [hw12] at HO12 f12
          have hwb : w.heap.size ≤ base := by rw [← hbase]; exact HFB.out.size
          have HV12 := hid (HV11.out.fr f12 (show ¬ H = V by omega))
          have HMb12 := hid (HW11.out.fr f12 (show ¬ Mb = V by omega))
          have HF12 := hid (HFC.out.then_ f12 (fun i hi e => by have e : i = V := e; omega))
          have HW12 := hid hw12
          have H12 := hid h12
          have htk0 : (0 : Int) ≤ (tk : Int) := by omega
          have htk1 : (tk : Int) < 18446744073709551616 := by omega
          clear hw12 f12 h12 HV11 HW11 HFC HO11 HF11 HVB HW HFB hbase hVb
          have hVb : base ≤ V := by have := HVb.out; have := HO12.out.lt V rfl; omega
          clear HVb
          go_wp2_with fail
          go_simp
          go_upto_if 74 with fail
          rw [show w11.setCell ⟨V, 12, none⟩ (.int .u64 (Go.bits .xor .u64 v12 (tk : Int))) = w12 from HW12.out]
          clear c12 z12 HW12
          obtain ⟨v14, h14⟩ : ∃ z, at_ ((st ++ iv).set 12 (X v12 tk)) 14 = z := ⟨_, rfl⟩
          have hs2 : ((st ++ iv).set 12 (X v12 tk)).length = 16 := by rw [List.length_set, hsl]
          have c14 : w12.cell? ⟨V, 14, none⟩ = some (.int .u64 v14) := by rw [← h14]; exact own_at HO12.out 14 (by rw [hs2]; decide)
          have z14 := own_froz HO12.out 14
          have v14r : 0 ≤ v14 ∧ v14 < 18446744073709551616 := by rw [← h14]; exact ((u64_app HSU.out iv_U).set _ _ X_lt).at_ 14
          have HS2 := hid hs2
          have H14 := hid h14
          have HV14 := hid v14r
          clear h14 hsl hs2 v14r htk0 htk1
          go_cut [] from 71 to 80 (fun wx => Own .u64 22 wx base (.slice (some ⟨V, 0, none⟩) 16 cv) (startR st tk (decide (k = N))) ∧ Fr (fun i => i = V) w12 wx)
          case first =>
            as_aux_lemma =>
            by_cases hkN2 : k = N
            · subst hkN2
              go_wp2_with fail
              go_meet
              case rel =>
                refine ⟨?_, (Fr.refl _ _).set1 _ _⟩
                have h := own_set HO12.out 14 (by rw [HS2.out]; decide) (18446744073709551615 - v14)
                have e : ((st ++ iv).set 12 (X v12 tk)).set 14 (18446744073709551615 - v14) = startR st tk (decide True) := by
                  rw [← H14.out, ← H12.out]; rfl
                rw [e] at h
                have e2 : IntKind.u64.wrap (18446744073709551615 - v14) = 18446744073709551615 - v14 := by
                  have := HV14.out
                  rw [wrap_u64]
                  omega
                rw [e2]
                exact h
            · have h1 : ((k : Int) == (N : Int)) = false := by rw [beq_eq_false_iff_ne]; omega
              go_wp2_with fail
              go_meet
              case rel =>
                refine ⟨?_, Fr.refl _ _⟩
                have e : (st ++ iv).set 12 (X v12 tk) = startR st tk (decide (k = N)) := by
                  rw [decide_eq_false hkN2, ← H12.out]; rfl
                rw [← e]
                exact HO12.out
          case rest =>
            obtain ⟨hv6, hf6⟩ := hcut
            rw [startR_eq HSU.out] at hv6
            obtain ⟨v, hv⟩ : ∃ v, BlaP.start st tk (decide (k = N)) = v := ⟨_, rfl⟩
            have HVL := hid (start_length (many := (tk : Int)) (last := decide (k = N)) HSL.out)
            have HVU := hid (start_U (many := (tk : Int)) (last := decide (k = N)) HSU.out)
            rw [hv] at hv6 HVL HVU
            have HVV := hid hv
            have HO6 := hid hv6
            have HV6 := hid (HV12.out.fr hf6 (show ¬ H = V by omega))
            have HM6 := hid (HMb12.out.fr hf6 (show ¬ Mb = V by omega))
            have HF6 := hid (HF12.out.then_ hf6 (fun i hi e => by have e : i = V := e; omega))
            clear hv hv6 hf6 HO12 HV12 HMb12 HF12 H12 H14 c14 z14 HV14 HS2
            go_wp2_with fail
            go_loopw [10] (fun i w' => ∃ r : Nat, r ≤ 12 ∧ i = .int .i64 r ∧ Own .u64 22 w' base (.slice (some ⟨V, 0, none⟩) 16 cv) (rounds m v r) ∧ Fr (fun i => i = V) wc w') (fun i _ => 12 - (intOf i).toNat)
            case atStart => exact ⟨0, by omega, rfl, HO6.out, Fr.refl _ _⟩
            case round =>
              as_aux_lemma =>
              obtain ⟨r, hr, rfl, ho, hf⟩ := hrel
              have HO := hid ho
              have HFr := hid hf
              clear ho hf HO6
              by_cases hr12 : r < 12
              · obtain ⟨q, hq⟩ : ∃ q, r % 10 = q := ⟨_, rfl⟩
                have hq10 : q < 10 := by omega
                have HQ := hid hq
                obtain ⟨u0, hu0⟩ : ∃ u, rounds m v r = u := ⟨_, rfl⟩
                have HUL0 := hid (rounds_length (m := m) r HVL.out)
                have HUU0 := hid (rounds_U (m := m) r HVU.out)
                rw [hu0] at HO HUL0 HUU0
                have HU0 := hid hu0
                clear hu0 hq
                go_wp2_with fail
                refine (row_calls r hr12 wr).mono ?_
                rintro e y0 ⟨P0, rfl, hP0, hvp, hfp⟩
                rw [HQ.out] at hvp
                have HP := hid hvp
                have HO0 := hid (HO.out.fr hfp (fun _ _ h => h))
                have HFy0 := hid (HFr.out.then_ hfp (fun _ _ h => h.elim))
                have HMy0 := hid ((HM6.out.fr HFr.out (show ¬ Mb = V by omega)).fr hfp id)
                have hVwr := (HO.out.lt V rfl).2
                have hMwr2 : Mb < wr.heap.size := Nat.lt_of_lt_of_le (Blk.lt HM6.out) HFr.out.size
                have hP1 : ¬ P0 = V := by omega
                have hP2 : ¬ Mb = V := by omega
                clear hvp hfp HO HFr
                -- mix 0
                obtain ⟨pa, hpa⟩ : ∃ pa, pick r 0 = pa := ⟨_, rfl⟩
                obtain ⟨pb, hpb⟩ : ∃ pb, pick r 1 = pb := ⟨_, rfl⟩
                have la : pa < 16 := by rw [← hpa]; exact pick_lt _ _ (by omega)
                have lb : pb < 16 := by rw [← hpb]; exact pick_lt _ _ (by omega)
                obtain ⟨x, hx⟩ : ∃ x, at_ m pa = x := ⟨_, rfl⟩
                obtain ⟨y, hy⟩ : ∃ y, at_ m pb = y := ⟨_, rfl⟩
                have HXR := hid (show 0 ≤ x ∧ x < 18446744073709551616 by rw [← hx]; exact HMU.out.at_ pa)
                have HYR := hid (show 0 ≤ y ∧ y < 18446744073709551616 by rw [← hy]; exact HMU.out.at_ pb)
                have ca : y0.cell? ⟨P0, 0, none⟩ = some (.int .i64 pa) := by
                  have := HP.out.at_ 0 (by rw [rowOf_length q hq10]; omega)
                  rw [← HQ.out, row_pick r _ (by omega), hpa] at this
                  exact this
                have cb : y0.cell? ⟨P0, 1, none⟩ = some (.int .i64 pb) := by
                  have := HP.out.at_ 1 (by rw [rowOf_length q hq10]; omega)
                  rw [← HQ.out, row_pick r _ (by omega), hpb] at this
                  exact this
                have cx : y0.cell? ⟨Mb, pa, none⟩ = some (.int .u64 x) := by rw [← hx]; exact HMy0.out.at_ pa (by rw [HML.out]; exact la)
                have cy : y0.cell? ⟨Mb, pb, none⟩ = some (.int .u64 y) := by rw [← hy]; exact HMy0.out.at_ pb (by rw [HML.out]; exact lb)
                obtain ⟨u1, hu⟩ : ∃ u, mix u0 0 4 8 12 (at_ m (pick r 0)) (at_ m (pick r 1)) = u := ⟨_, rfl⟩
                have HX0 := hid hu
                rw [hpa, hpb, hx, hy] at hu
                have HM0 := hid hu
                have la' : (pa : Int) < 16 := by omega
                have lb' : (pb : Int) < 16 := by omega
                clear hpa hpb hx hy hu la lb
                go_wp2_with fail
                go_region_held3 (fun w' => w'.cell? ⟨P0, 0, none⟩ = some (.int .i64 pa) ∧ w'.cell? ⟨P0, 1, none⟩ = some (.int .i64 pb) ∧ w'.cell? ⟨Mb, pa, none⟩ = some (.int .u64 x) ∧ w'.cell? ⟨Mb, pb, none⟩ = some (.int .u64 y)) (first | exact ⟨ca, cb, cx, cy⟩ | exact ⟨ca9, cb9, cx9, cy9⟩ | go_keep) ((go_at_call 50; (with_reducible refine (mix_0 base V cv u0 x y y0.drew (own_drew HO0.out) HUL0.out HUU0.out HXR.out HYR.out).mono ?_); rintro e y1 ⟨rfl, hst⟩; have ca9 := keep_cell ca hst.2 hP1; have cb9 := keep_cell cb hst.2 hP1; have cx9 := keep_cell cx hst.2 hP2; have cy9 := keep_cell cy hst.2 hP2))
                have HO1 := hid hst.1
                have HUL1 := hid (mix_length u0 0 4 8 12 x y)
                have HUU1 := hid (mix_U HUU0.out 0 4 8 12 x y)
                rw [HM0.out] at HO1 HUL1 HUU1
                rw [HUL0.out] at HUL1
                have HFy1 := hid (HFy0.out.drew.then_ hst.2 (fun _ _ h => h))
                have HMy1 := hid ((vec_drew HMy0.out).fr hst.2 hP2)
                have HP' := hid ((vec_drew HP.out).fr hst.2 hP1)
                clear HP hst ca cb cx cy ca9 cb9 cx9 cy9 HXR HYR la' lb' HO0 HUL0 HUU0 HFy0 HMy0 HM0
                have HP := HP'
                clear HP'
                -- mix 1
                obtain ⟨pa, hpa⟩ : ∃ pa, pick r 2 = pa := ⟨_, rfl⟩
                obtain ⟨pb, hpb⟩ : ∃ pb, pick r 3 = pb := ⟨_, rfl⟩
                have la : pa < 16 := by rw [← hpa]; exact pick_lt _ _ (by omega)
                have lb : pb < 16 := by rw [← hpb]; exact pick_lt _ _ (by omega)
                obtain ⟨x, hx⟩ : ∃ x, at_ m pa = x := ⟨_, rfl⟩
                obtain ⟨y, hy⟩ : ∃ y, at_ m pb = y := ⟨_, rfl⟩
                have HXR := hid (show 0 ≤ x ∧ x < 18446744073709551616 by rw [← hx]; exact HMU.out.at_ pa)
                have HYR := hid (show 0 ≤ y ∧ y < 18446744073709551616 by rw [← hy]; exact HMU.out.at_ pb)
                have ca : y1.cell? ⟨P0, 2, none⟩ = some (.int .i64 pa) := by
                  have := HP.out.at_ 2 (by rw [rowOf_length q hq10]; omega)
                  rw [← HQ.out, row_pick r _ (by omega), hpa] at this
                  exact this
                have cb : y1.cell? ⟨P0, 3, none⟩ = some (.int .i64 pb) := by
                  have := HP.out.at_ 3 (by rw [rowOf_length q hq10]; omega)
                  rw [← HQ.out, row_pick r _ (by omega), hpb] at this
                  exact this
                have cx : y1.cell? ⟨Mb, pa, none⟩ = some (.int .u64 x) := by rw [← hx]; exact HMy1.out.at_ pa (by rw [HML.out]; exact la)
                have cy : y1.cell? ⟨Mb, pb, none⟩ = some (.int .u64 y) := by rw [← hy]; exact HMy1.out.at_ pb (by rw [HML.out]; exact lb)
                obtain ⟨u2, hu⟩ : ∃ u, mix u1 1 5 9 13 (at_ m (pick r 2)) (at_ m (pick r 3)) = u := ⟨_, rfl⟩
                have HX1 := hid hu
                rw [hpa, hpb, hx, hy] at hu
                have HM1 := hid hu
                have la' : (pa : Int) < 16 := by omega
                have lb' : (pb : Int) < 16 := by omega
                clear hpa hpb hx hy hu la lb
                go_wp2_with fail
                go_region_held3 (fun w' => w'.cell? ⟨P0, 2, none⟩ = some (.int .i64 pa) ∧ w'.cell? ⟨P0, 3, none⟩ = some (.int .i64 pb) ∧ w'.cell? ⟨Mb, pa, none⟩ = some (.int .u64 x) ∧ w'.cell? ⟨Mb, pb, none⟩ = some (.int .u64 y)) (first | exact ⟨ca, cb, cx, cy⟩ | exact ⟨ca9, cb9, cx9, cy9⟩ | go_keep) ((go_at_call 50; (with_reducible refine (mix_1 base V cv u1 x y y1.drew (own_drew HO1.out) HUL1.out HUU1.out HXR.out HYR.out).mono ?_); rintro e y2 ⟨rfl, hst⟩; have ca9 := keep_cell ca hst.2 hP1; have cb9 := keep_cell cb hst.2 hP1; have cx9 := keep_cell cx hst.2 hP2; have cy9 := keep_cell cy hst.2 hP2))
                have HO2 := hid hst.1
                have HUL2 := hid (mix_length u1 1 5 9 13 x y)
                have HUU2 := hid (mix_U HUU1.out 1 5 9 13 x y)
                rw [HM1.out] at HO2 HUL2 HUU2
                rw [HUL1.out] at HUL2
                have HFy2 := hid (HFy1.out.drew.then_ hst.2 (fun _ _ h => h))
                have HMy2 := hid ((vec_drew HMy1.out).fr hst.2 hP2)
                have HP' := hid ((vec_drew HP.out).fr hst.2 hP1)
                clear HP hst ca cb cx cy ca9 cb9 cx9 cy9 HXR HYR la' lb' HO1 HUL1 HUU1 HFy1 HMy1 HM1
                have HP := HP'
                clear HP'
                -- mix 2
                obtain ⟨pa, hpa⟩ : ∃ pa, pick r 4 = pa := ⟨_, rfl⟩
                obtain ⟨pb, hpb⟩ : ∃ pb, pick r 5 = pb := ⟨_, rfl⟩
                have la : pa < 16 := by rw [← hpa]; exact pick_lt _ _ (by omega)
                have lb : pb < 16 := by rw [← hpb]; exact pick_lt _ _ (by omega)
                obtain ⟨x, hx⟩ : ∃ x, at_ m pa = x := ⟨_, rfl⟩
                obtain ⟨y, hy⟩ : ∃ y, at_ m pb = y := ⟨_, rfl⟩
                have HXR := hid (show 0 ≤ x ∧ x < 18446744073709551616 by rw [← hx]; exact HMU.out.at_ pa)
                have HYR := hid (show 0 ≤ y ∧ y < 18446744073709551616 by rw [← hy]; exact HMU.out.at_ pb)
                have ca : y2.cell? ⟨P0, 4, none⟩ = some (.int .i64 pa) := by
                  have := HP.out.at_ 4 (by rw [rowOf_length q hq10]; omega)
                  rw [← HQ.out, row_pick r _ (by omega), hpa] at this
                  exact this
                have cb : y2.cell? ⟨P0, 5, none⟩ = some (.int .i64 pb) := by
                  have := HP.out.at_ 5 (by rw [rowOf_length q hq10]; omega)
                  rw [← HQ.out, row_pick r _ (by omega), hpb] at this
                  exact this
                have cx : y2.cell? ⟨Mb, pa, none⟩ = some (.int .u64 x) := by rw [← hx]; exact HMy2.out.at_ pa (by rw [HML.out]; exact la)
                have cy : y2.cell? ⟨Mb, pb, none⟩ = some (.int .u64 y) := by rw [← hy]; exact HMy2.out.at_ pb (by rw [HML.out]; exact lb)
                obtain ⟨u3, hu⟩ : ∃ u, mix u2 2 6 10 14 (at_ m (pick r 4)) (at_ m (pick r 5)) = u := ⟨_, rfl⟩
                have HX2 := hid hu
                rw [hpa, hpb, hx, hy] at hu
                have HM2 := hid hu
                have la' : (pa : Int) < 16 := by omega
                have lb' : (pb : Int) < 16 := by omega
                clear hpa hpb hx hy hu la lb
                go_wp2_with fail
                go_region_held3 (fun w' => w'.cell? ⟨P0, 4, none⟩ = some (.int .i64 pa) ∧ w'.cell? ⟨P0, 5, none⟩ = some (.int .i64 pb) ∧ w'.cell? ⟨Mb, pa, none⟩ = some (.int .u64 x) ∧ w'.cell? ⟨Mb, pb, none⟩ = some (.int .u64 y)) (first | exact ⟨ca, cb, cx, cy⟩ | exact ⟨ca9, cb9, cx9, cy9⟩ | go_keep) ((go_at_call 50; (with_reducible refine (mix_2 base V cv u2 x y y2.drew (own_drew HO2.out) HUL2.out HUU2.out HXR.out HYR.out).mono ?_); rintro e y3 ⟨rfl, hst⟩; have ca9 := keep_cell ca hst.2 hP1; have cb9 := keep_cell cb hst.2 hP1; have cx9 := keep_cell cx hst.2 hP2; have cy9 := keep_cell cy hst.2 hP2))
                have HO3 := hid hst.1
                have HUL3 := hid (mix_length u2 2 6 10 14 x y)
                have HUU3 := hid (mix_U HUU2.out 2 6 10 14 x y)
                rw [HM2.out] at HO3 HUL3 HUU3
                rw [HUL2.out] at HUL3
                have HFy3 := hid (HFy2.out.drew.then_ hst.2 (fun _ _ h => h))
                have HMy3 := hid ((vec_drew HMy2.out).fr hst.2 hP2)
                have HP' := hid ((vec_drew HP.out).fr hst.2 hP1)
                clear HP hst ca cb cx cy ca9 cb9 cx9 cy9 HXR HYR la' lb' HO2 HUL2 HUU2 HFy2 HMy2 HM2
                have HP := HP'
                clear HP'
                -- mix 3
                obtain ⟨pa, hpa⟩ : ∃ pa, pick r 6 = pa := ⟨_, rfl⟩
                obtain ⟨pb, hpb⟩ : ∃ pb, pick r 7 = pb := ⟨_, rfl⟩
                have la : pa < 16 := by rw [← hpa]; exact pick_lt _ _ (by omega)
                have lb : pb < 16 := by rw [← hpb]; exact pick_lt _ _ (by omega)
                obtain ⟨x, hx⟩ : ∃ x, at_ m pa = x := ⟨_, rfl⟩
                obtain ⟨y, hy⟩ : ∃ y, at_ m pb = y := ⟨_, rfl⟩
                have HXR := hid (show 0 ≤ x ∧ x < 18446744073709551616 by rw [← hx]; exact HMU.out.at_ pa)
                have HYR := hid (show 0 ≤ y ∧ y < 18446744073709551616 by rw [← hy]; exact HMU.out.at_ pb)
                have ca : y3.cell? ⟨P0, 6, none⟩ = some (.int .i64 pa) := by
                  have := HP.out.at_ 6 (by rw [rowOf_length q hq10]; omega)
                  rw [← HQ.out, row_pick r _ (by omega), hpa] at this
                  exact this
                have cb : y3.cell? ⟨P0, 7, none⟩ = some (.int .i64 pb) := by
                  have := HP.out.at_ 7 (by rw [rowOf_length q hq10]; omega)
                  rw [← HQ.out, row_pick r _ (by omega), hpb] at this
                  exact this
                have cx : y3.cell? ⟨Mb, pa, none⟩ = some (.int .u64 x) := by rw [← hx]; exact HMy3.out.at_ pa (by rw [HML.out]; exact la)
                have cy : y3.cell? ⟨Mb, pb, none⟩ = some (.int .u64 y) := by rw [← hy]; exact HMy3.out.at_ pb (by rw [HML.out]; exact lb)
                obtain ⟨u4, hu⟩ : ∃ u, mix u3 3 7 11 15 (at_ m (pick r 6)) (at_ m (pick r 7)) = u := ⟨_, rfl⟩
                have HX3 := hid hu
                rw [hpa, hpb, hx, hy] at hu
                have HM3 := hid hu
                have la' : (pa : Int) < 16 := by omega
                have lb' : (pb : Int) < 16 := by omega
                clear hpa hpb hx hy hu la lb
                go_wp2_with fail
                go_region_held3 (fun w' => w'.cell? ⟨P0, 6, none⟩ = some (.int .i64 pa) ∧ w'.cell? ⟨P0, 7, none⟩ = some (.int .i64 pb) ∧ w'.cell? ⟨Mb, pa, none⟩ = some (.int .u64 x) ∧ w'.cell? ⟨Mb, pb, none⟩ = some (.int .u64 y)) (first | exact ⟨ca, cb, cx, cy⟩ | exact ⟨ca9, cb9, cx9, cy9⟩ | go_keep) ((go_at_call 50; (with_reducible refine (mix_3 base V cv u3 x y y3.drew (own_drew HO3.out) HUL3.out HUU3.out HXR.out HYR.out).mono ?_); rintro e y4 ⟨rfl, hst⟩; have ca9 := keep_cell ca hst.2 hP1; have cb9 := keep_cell cb hst.2 hP1; have cx9 := keep_cell cx hst.2 hP2; have cy9 := keep_cell cy hst.2 hP2))
                have HO4 := hid hst.1
                have HUL4 := hid (mix_length u3 3 7 11 15 x y)
                have HUU4 := hid (mix_U HUU3.out 3 7 11 15 x y)
                rw [HM3.out] at HO4 HUL4 HUU4
                rw [HUL3.out] at HUL4
                have HFy4 := hid (HFy3.out.drew.then_ hst.2 (fun _ _ h => h))
                have HMy4 := hid ((vec_drew HMy3.out).fr hst.2 hP2)
                have HP' := hid ((vec_drew HP.out).fr hst.2 hP1)
                clear HP hst ca cb cx cy ca9 cb9 cx9 cy9 HXR HYR la' lb' HO3 HUL3 HUU3 HFy3 HMy3 HM3
                have HP := HP'
                clear HP'
                -- mix 4
                obtain ⟨pa, hpa⟩ : ∃ pa, pick r 8 = pa := ⟨_, rfl⟩
                obtain ⟨pb, hpb⟩ : ∃ pb, pick r 9 = pb := ⟨_, rfl⟩
                have la : pa < 16 := by rw [← hpa]; exact pick_lt _ _ (by omega)
                have lb : pb < 16 := by rw [← hpb]; exact pick_lt _ _ (by omega)
                obtain ⟨x, hx⟩ : ∃ x, at_ m pa = x := ⟨_, rfl⟩
                obtain ⟨y, hy⟩ : ∃ y, at_ m pb = y := ⟨_, rfl⟩
                have HXR := hid (show 0 ≤ x ∧ x < 18446744073709551616 by rw [← hx]; exact HMU.out.at_ pa)
                have HYR := hid (show 0 ≤ y ∧ y < 18446744073709551616 by rw [← hy]; exact HMU.out.at_ pb)
                have ca : y4.cell? ⟨P0, 8, none⟩ = some (.int .i64 pa) := by
                  have := HP.out.at_ 8 (by rw [rowOf_length q hq10]; omega)
                  rw [← HQ.out, row_pick r _ (by omega), hpa] at this
                  exact this
                have cb : y4.cell? ⟨P0, 9, none⟩ = some (.int .i64 pb) := by
                  have := HP.out.at_ 9 (by rw [rowOf_length q hq10]; omega)
                  rw [← HQ.out, row_pick r _ (by omega), hpb] at this
                  exact this
                have cx : y4.cell? ⟨Mb, pa, none⟩ = some (.int .u64 x) := by rw [← hx]; exact HMy4.out.at_ pa (by rw [HML.out]; exact la)
                have cy : y4.cell? ⟨Mb, pb, none⟩ = some (.int .u64 y) := by rw [← hy]; exact HMy4.out.at_ pb (by rw [HML.out]; exact lb)
                obtain ⟨u5, hu⟩ : ∃ u, mix u4 0 5 10 15 (at_ m (pick r 8)) (at_ m (pick r 9)) = u := ⟨_, rfl⟩
                have HX4 := hid hu
                rw [hpa, hpb, hx, hy] at hu
                have HM4 := hid hu
                have la' : (pa : Int) < 16 := by omega
                have lb' : (pb : Int) < 16 := by omega
                clear hpa hpb hx hy hu la lb
                go_wp2_with fail
                go_region_held3 (fun w' => w'.cell? ⟨P0, 8, none⟩ = some (.int .i64 pa) ∧ w'.cell? ⟨P0, 9, none⟩ = some (.int .i64 pb) ∧ w'.cell? ⟨Mb, pa, none⟩ = some (.int .u64 x) ∧ w'.cell? ⟨Mb, pb, none⟩ = some (.int .u64 y)) (first | exact ⟨ca, cb, cx, cy⟩ | exact ⟨ca9, cb9, cx9, cy9⟩ | go_keep) ((go_at_call 50; (with_reducible refine (mix_4 base V cv u4 x y y4.drew (own_drew HO4.out) HUL4.out HUU4.out HXR.out HYR.out).mono ?_); rintro e y5 ⟨rfl, hst⟩; have ca9 := keep_cell ca hst.2 hP1; have cb9 := keep_cell cb hst.2 hP1; have cx9 := keep_cell cx hst.2 hP2; have cy9 := keep_cell cy hst.2 hP2))
                have HO5 := hid hst.1
                have HUL5 := hid (mix_length u4 0 5 10 15 x y)
                have HUU5 := hid (mix_U HUU4.out 0 5 10 15 x y)
                rw [HM4.out] at HO5 HUL5 HUU5
                rw [HUL4.out] at HUL5
                have HFy5 := hid (HFy4.out.drew.then_ hst.2 (fun _ _ h => h))
                have HMy5 := hid ((vec_drew HMy4.out).fr hst.2 hP2)
                have HP' := hid ((vec_drew HP.out).fr hst.2 hP1)
                clear HP hst ca cb cx cy ca9 cb9 cx9 cy9 HXR HYR la' lb' HO4 HUL4 HUU4 HFy4 HMy4 HM4
                have HP := HP'
                clear HP'
                -- mix 5
                obtain ⟨pa, hpa⟩ : ∃ pa, pick r 10 = pa := ⟨_, rfl⟩
                obtain ⟨pb, hpb⟩ : ∃ pb, pick r 11 = pb := ⟨_, rfl⟩
                have la : pa < 16 := by rw [← hpa]; exact pick_lt _ _ (by omega)
                have lb : pb < 16 := by rw [← hpb]; exact pick_lt _ _ (by omega)
                obtain ⟨x, hx⟩ : ∃ x, at_ m pa = x := ⟨_, rfl⟩
                obtain ⟨y, hy⟩ : ∃ y, at_ m pb = y := ⟨_, rfl⟩
                have HXR := hid (show 0 ≤ x ∧ x < 18446744073709551616 by rw [← hx]; exact HMU.out.at_ pa)
                have HYR := hid (show 0 ≤ y ∧ y < 18446744073709551616 by rw [← hy]; exact HMU.out.at_ pb)
                have ca : y5.cell? ⟨P0, 10, none⟩ = some (.int .i64 pa) := by
                  have := HP.out.at_ 10 (by rw [rowOf_length q hq10]; omega)
                  rw [← HQ.out, row_pick r _ (by omega), hpa] at this
                  exact this
                have cb : y5.cell? ⟨P0, 11, none⟩ = some (.int .i64 pb) := by
                  have := HP.out.at_ 11 (by rw [rowOf_length q hq10]; omega)
                  rw [← HQ.out, row_pick r _ (by omega), hpb] at this
                  exact this
                have cx : y5.cell? ⟨Mb, pa, none⟩ = some (.int .u64 x) := by rw [← hx]; exact HMy5.out.at_ pa (by rw [HML.out]; exact la)
                have cy : y5.cell? ⟨Mb, pb, none⟩ = some (.int .u64 y) := by rw [← hy]; exact HMy5.out.at_ pb (by rw [HML.out]; exact lb)
                obtain ⟨u6, hu⟩ : ∃ u, mix u5 1 6 11 12 (at_ m (pick r 10)) (at_ m (pick r 11)) = u := ⟨_, rfl⟩
                have HX5 := hid hu
                rw [hpa, hpb, hx, hy] at hu
                have HM5 := hid hu
                have la' : (pa : Int) < 16 := by omega
                have lb' : (pb : Int) < 16 := by omega
                clear hpa hpb hx hy hu la lb
                go_wp2_with fail
                go_region_held3 (fun w' => w'.cell? ⟨P0, 10, none⟩ = some (.int .i64 pa) ∧ w'.cell? ⟨P0, 11, none⟩ = some (.int .i64 pb) ∧ w'.cell? ⟨Mb, pa, none⟩ = some (.int .u64 x) ∧ w'.cell? ⟨Mb, pb, none⟩ = some (.int .u64 y)) (first | exact ⟨ca, cb, cx, cy⟩ | exact ⟨ca9, cb9, cx9, cy9⟩ | go_keep) ((go_at_call 50; (with_reducible refine (mix_5 base V cv u5 x y y5.drew (own_drew HO5.out) HUL5.out HUU5.out HXR.out HYR.out).mono ?_); rintro e y6 ⟨rfl, hst⟩; have ca9 := keep_cell ca hst.2 hP1; have cb9 := keep_cell cb hst.2 hP1; have cx9 := keep_cell cx hst.2 hP2; have cy9 := keep_cell cy hst.2 hP2))
                have HO6 := hid hst.1
                have HUL6 := hid (mix_length u5 1 6 11 12 x y)
                have HUU6 := hid (mix_U HUU5.out 1 6 11 12 x y)
                rw [HM5.out] at HO6 HUL6 HUU6
                rw [HUL5.out] at HUL6
                have HFy6 := hid (HFy5.out.drew.then_ hst.2 (fun _ _ h => h))
                have HMy6 := hid ((vec_drew HMy5.out).fr hst.2 hP2)
                have HP' := hid ((vec_drew HP.out).fr hst.2 hP1)
                clear HP hst ca cb cx cy ca9 cb9 cx9 cy9 HXR HYR la' lb' HO5 HUL5 HUU5 HFy5 HMy5 HM5
                have HP := HP'
                clear HP'
                -- mix 6
                obtain ⟨pa, hpa⟩ : ∃ pa, pick r 12 = pa := ⟨_, rfl⟩
                obtain ⟨pb, hpb⟩ : ∃ pb, pick r 13 = pb := ⟨_, rfl⟩
                have la : pa < 16 := by rw [← hpa]; exact pick_lt _ _ (by omega)
                have lb : pb < 16 := by rw [← hpb]; exact pick_lt _ _ (by omega)
                obtain ⟨x, hx⟩ : ∃ x, at_ m pa = x := ⟨_, rfl⟩
                obtain ⟨y, hy⟩ : ∃ y, at_ m pb = y := ⟨_, rfl⟩
                have HXR := hid (show 0 ≤ x ∧ x < 18446744073709551616 by rw [← hx]; exact HMU.out.at_ pa)
                have HYR := hid (show 0 ≤ y ∧ y < 18446744073709551616 by rw [← hy]; exact HMU.out.at_ pb)
                have ca : y6.cell? ⟨P0, 12, none⟩ = some (.int .i64 pa) := by
                  have := HP.out.at_ 12 (by rw [rowOf_length q hq10]; omega)
                  rw [← HQ.out, row_pick r _ (by omega), hpa] at this
                  exact this
                have cb : y6.cell? ⟨P0, 13, none⟩ = some (.int .i64 pb) := by
                  have := HP.out.at_ 13 (by rw [rowOf_length q hq10]; omega)
                  rw [← HQ.out, row_pick r _ (by omega), hpb] at this
                  exact this
                have cx : y6.cell? ⟨Mb, pa, none⟩ = some (.int .u64 x) := by rw [← hx]; exact HMy6.out.at_ pa (by rw [HML.out]; exact la)
                have cy : y6.cell? ⟨Mb, pb, none⟩ = some (.int .u64 y) := by rw [← hy]; exact HMy6.out.at_ pb (by rw [HML.out]; exact lb)
                obtain ⟨u7, hu⟩ : ∃ u, mix u6 2 7 8 13 (at_ m (pick r 12)) (at_ m (pick r 13)) = u := ⟨_, rfl⟩
                have HX6 := hid hu
                rw [hpa, hpb, hx, hy] at hu
                have HM6 := hid hu
                have la' : (pa : Int) < 16 := by omega
                have lb' : (pb : Int) < 16 := by omega
                clear hpa hpb hx hy hu la lb
                go_wp2_with fail
                go_region_held3 (fun w' => w'.cell? ⟨P0, 12, none⟩ = some (.int .i64 pa) ∧ w'.cell? ⟨P0, 13, none⟩ = some (.int .i64 pb) ∧ w'.cell? ⟨Mb, pa, none⟩ = some (.int .u64 x) ∧ w'.cell? ⟨Mb, pb, none⟩ = some (.int .u64 y)) (first | exact ⟨ca, cb, cx, cy⟩ | exact ⟨ca9, cb9, cx9, cy9⟩ | go_keep) ((go_at_call 50; (with_reducible refine (mix_6 base V cv u6 x y y6.drew (own_drew HO6.out) HUL6.out HUU6.out HXR.out HYR.out).mono ?_); rintro e y7 ⟨rfl, hst⟩; have ca9 := keep_cell ca hst.2 hP1; have cb9 := keep_cell cb hst.2 hP1; have cx9 := keep_cell cx hst.2 hP2; have cy9 := keep_cell cy hst.2 hP2))
                have HO7 := hid hst.1
                have HUL7 := hid (mix_length u6 2 7 8 13 x y)
                have HUU7 := hid (mix_U HUU6.out 2 7 8 13 x y)
                rw [HM6.out] at HO7 HUL7 HUU7
                rw [HUL6.out] at HUL7
                have HFy7 := hid (HFy6.out.drew.then_ hst.2 (fun _ _ h => h))
                have HMy7 := hid ((vec_drew HMy6.out).fr hst.2 hP2)
                have HP' := hid ((vec_drew HP.out).fr hst.2 hP1)
                clear HP hst ca cb cx cy ca9 cb9 cx9 cy9 HXR HYR la' lb' HO6 HUL6 HUU6 HFy6 HMy6 HM6
                have HP := HP'
                clear HP'
                -- mix 7
                obtain ⟨pa, hpa⟩ : ∃ pa, pick r 14 = pa := ⟨_, rfl⟩
                obtain ⟨pb, hpb⟩ : ∃ pb, pick r 15 = pb := ⟨_, rfl⟩
                have la : pa < 16 := by rw [← hpa]; exact pick_lt _ _ (by omega)
                have lb : pb < 16 := by rw [← hpb]; exact pick_lt _ _ (by omega)
                obtain ⟨x, hx⟩ : ∃ x, at_ m pa = x := ⟨_, rfl⟩
                obtain ⟨y, hy⟩ : ∃ y, at_ m pb = y := ⟨_, rfl⟩
                have HXR := hid (show 0 ≤ x ∧ x < 18446744073709551616 by rw [← hx]; exact HMU.out.at_ pa)
                have HYR := hid (show 0 ≤ y ∧ y < 18446744073709551616 by rw [← hy]; exact HMU.out.at_ pb)
                have ca : y7.cell? ⟨P0, 14, none⟩ = some (.int .i64 pa) := by
                  have := HP.out.at_ 14 (by rw [rowOf_length q hq10]; omega)
                  rw [← HQ.out, row_pick r _ (by omega), hpa] at this
                  exact this
                have cb : y7.cell? ⟨P0, 15, none⟩ = some (.int .i64 pb) := by
                  have := HP.out.at_ 15 (by rw [rowOf_length q hq10]; omega)
                  rw [← HQ.out, row_pick r _ (by omega), hpb] at this
                  exact this
                have cx : y7.cell? ⟨Mb, pa, none⟩ = some (.int .u64 x) := by rw [← hx]; exact HMy7.out.at_ pa (by rw [HML.out]; exact la)
                have cy : y7.cell? ⟨Mb, pb, none⟩ = some (.int .u64 y) := by rw [← hy]; exact HMy7.out.at_ pb (by rw [HML.out]; exact lb)
                obtain ⟨u8, hu⟩ : ∃ u, mix u7 3 4 9 14 (at_ m (pick r 14)) (at_ m (pick r 15)) = u := ⟨_, rfl⟩
                have HX7 := hid hu
                rw [hpa, hpb, hx, hy] at hu
                have HM7 := hid hu
                have la' : (pa : Int) < 16 := by omega
                have lb' : (pb : Int) < 16 := by omega
                clear hpa hpb hx hy hu la lb
                go_wp2_with fail
                go_region_held3 (fun w' => w'.cell? ⟨P0, 14, none⟩ = some (.int .i64 pa) ∧ w'.cell? ⟨P0, 15, none⟩ = some (.int .i64 pb) ∧ w'.cell? ⟨Mb, pa, none⟩ = some (.int .u64 x) ∧ w'.cell? ⟨Mb, pb, none⟩ = some (.int .u64 y)) (first | exact ⟨ca, cb, cx, cy⟩ | exact ⟨ca9, cb9, cx9, cy9⟩ | go_keep) ((go_at_call 50; (with_reducible refine (mix_7 base V cv u7 x y y7.drew (own_drew HO7.out) HUL7.out HUU7.out HXR.out HYR.out).mono ?_); rintro e y8 ⟨rfl, hst⟩; have ca9 := keep_cell ca hst.2 hP1; have cb9 := keep_cell cb hst.2 hP1; have cx9 := keep_cell cx hst.2 hP2; have cy9 := keep_cell cy hst.2 hP2))
                have HO8 := hid hst.1
                have HUL8 := hid (mix_length u7 3 4 9 14 x y)
                have HUU8 := hid (mix_U HUU7.out 3 4 9 14 x y)
                rw [HM7.out] at HO8 HUL8 HUU8
                rw [HUL7.out] at HUL8
                have HFy8 := hid (HFy7.out.drew.then_ hst.2 (fun _ _ h => h))
                have HMy8 := hid ((vec_drew HMy7.out).fr hst.2 hP2)
                have HP' := hid ((vec_drew HP.out).fr hst.2 hP1)
                clear HP hst ca cb cx cy ca9 cb9 cx9 cy9 HXR HYR la' lb' HO7 HUL7 HUU7 HFy7 HMy7 HM7
                have HP := HP'
                clear HP'
                have HRD := hid (show rounds m v (r + 1) = u8 by rw [← HX7.out, ← HX6.out, ← HX5.out, ← HX4.out, ← HX3.out, ← HX2.out, ← HX1.out, ← HX0.out, ← HU0.out]; rfl)
                go_wp2_with fail
                go_roundw
                case rel =>
                  refine ⟨r + 1, by omega, by go_num, ?_, HFy8.out⟩
                  rw [HRD.out]
                  exact HO8.out
                case measure => simp [intOf]; omega
              · have hr' : r = 12 := by omega
                rw [show ((r : Nat) : Int) = 12 from by omega]
                subst hr'
                obtain ⟨vf, hvf⟩ : ∃ vf, rounds m v 12 = vf := ⟨_, rfl⟩
                have HFL := hid (rounds_length (m := m) 12 HVL.out)
                have HFU := hid (rounds_U (m := m) 12 HVU.out)
                rw [hvf] at HO HFL HFU
                have HVF := hid hvf
                have HV7 := hid (HV6.out.fr HFr.out (show ¬ H = V by omega))
                have HF7 := hid (HF6.out.then_ HFr.out (fun i hi e => by have e : i = V := e; omega))
                clear hvf hr12 HV6 HF6 HFr
                go_wp2_with fail
                go_loopw [12] (fun i w' => ∃ j : Nat, j ≤ 8 ∧ i = .int .i64 j ∧ VecI .u64 22 w' H (closeR st vf j) ∧ Fr (fun i => i = H) wr w') (fun i _ => 8 - (intOf i).toNat)
                case atStart => exact ⟨0, by omega, rfl, HV7.out, Fr.refl _ _⟩
                case round =>
                  as_aux_lemma =>
                  obtain ⟨j, hj, rfl, hv, hf⟩ := hrel
                  have HVj := hid hv
                  have HFj := hid hf
                  clear hv hf HV7
                  by_cases hj8 : j < 8
                  · obtain ⟨s, hs⟩ : ∃ s, at_ (closeR st vf j) j = s := ⟨_, rfl⟩
                    obtain ⟨x, hx⟩ : ∃ x, at_ vf j = x := ⟨_, rfl⟩
                    obtain ⟨y, hy⟩ : ∃ y, at_ vf (j + 8) = y := ⟨_, rfl⟩
                    have HOj := hid (HO.out.fr HFj.out (fun b hb e => by have e : b = H := e; have := own_blk hb; omega))
                    have cs : wr.cell? ⟨H, j, none⟩ = some (.int .u64 s) := by rw [← hs]; exact HVj.out.at_ j (by rw [closeR_length j HSL.out]; exact hj8)
                    have cx : wr.cell? ⟨V, j, none⟩ = some (.int .u64 x) := by rw [← hx]; exact own_at HOj.out j (by rw [HFL.out]; omega)
                    have cy : wr.cell? ⟨V, j + 8, none⟩ = some (.int .u64 y) := by rw [← hy]; exact own_at HOj.out (j + 8) (by rw [HFL.out]; omega)
                    have hz := Blk.frozen HVj.out j
                    have HE := hid (show closeR st vf (j + 1) = (closeR st vf j).set j (X (X s x) y) by rw [closeR, hs, hx, hy])
                    have k0 : (0 : Int) ≤ j := by omega
                    have k8 : (j : Int) < 8 := by omega
                    have k9 : (j : Int) + 8 < 16 := by omega
                    clear hs hx hy
                    go_wp2_with fail
                    go_region
                    go_wp2_with fail
                    go_roundw
                    case rel =>
                      refine ⟨j + 1, by omega, by go_num, ?_, (HFj.out.set1 _ _).drew⟩
                      rw [HE.out]
                      exact Blk.drew (HVj.out.set_ j (X (X s x) y))
                    case measure => simp [intOf]; omega
                  · have hj' : j = 8 := by omega
                    rw [show ((j : Nat) : Int) = 8 from by omega]
                    subst hj'
                    have HE := hid (show stAt xs (k + 1) = closeR st vf 8 by rw [HNX.out, closeR_eq HSU.out HFU.out]; unfold compress; rw [HMM.out, HVV.out, HVF.out])
                    go_wp2_with fail
                    go_roundw
                    case rel =>
                      refine ⟨k + 1, by omega, by go_num, ?_, HF7.out.then_ HFj.out (fun i hi e => by have e : i = H := e; omega)⟩
                      rw [HE.out]
                      exact HVj.out
                    case measure => simp [intOf]; omega
    · have hk' : k = N + 1 := by omega
      obtain ⟨sf, hsf⟩ : ∃ sf, stAt xs k = sf := ⟨_, rfl⟩
      have HSL := hid (stAt_length xs k)
      have HSU := hid (stAt_U xs k)
      have HFIN := hid (stAt_sum xs)
      rw [hsf] at HV HSL HSU
      rw [HN.out, HNN.out, ← hk', hsf] at HFIN
      rw [show ((k : Nat) : Int) = (N : Int) + 1 from by omega]
      clear hk hkN hk'
      have hHr : H < wr.heap.size := Blk.lt HV.out
      clear hsf
      go_wp2_with fail
      obtain ⟨wZ, rfl⟩ : ∃ wZ : World, wZ = wr := ⟨_, rfl⟩
      go_loopw [13, 14] (fun v i w' => ∃ t : Nat, t ≤ 4 ∧ i = .int .i64 t ∧ Own .u8 5 w' wZ.heap.size v (little4 (sf.take t)) ∧ Fr (fun _ => False) wZ w') (fun _ i _ => 4 - (intOf i).toNat)
      case atStart => exact ⟨0, by omega, rfl, Own.nil _ _ _ _, Fr.refl _ _⟩
      case round =>
        as_aux_lemma =>
        obtain ⟨t, ht, rfl, ho, hf⟩ := hrel
        have HO := hid ho
        have HFt := hid hf
        clear ho hf
        by_cases h4 : t < 4
        · obtain ⟨x, hx⟩ : ∃ x, at_ sf t = x := ⟨_, rfl⟩
          have hxr := HSU.out.at_ t
          rw [hx] at hxr
          have HLS := hid (little4_snoc sf t (by rw [HSL.out]; omega))
          rw [hx] at HLS
          obtain ⟨L, hL⟩ : ∃ L, little4 (sf.take t) = L := ⟨_, rfl⟩
          have hLl : L.length ≤ 32 := by rw [← hL, little4_length, List.length_take]; omega
          rw [hL] at HO HLS
          have HX := hid hx
          obtain ⟨hx0, hx1⟩ := hxr
          have h4d : decide ((t : Int) < 4) = true := decide_eq_true (by omega)
          clear hx hL
          go_wp2_with fail
          go_loopw [13, 15] (fun v i w' => ∃ j : Nat, j ≤ 8 ∧ i = .int .i64 j ∧ Own .u8 5 w' wZ.heap.size v (L ++ digs x j) ∧ Fr (fun _ => False) wZ w') (fun _ i _ => 8 - (intOf i).toNat)
          case atStart => exact ⟨0, by omega, rfl, by simpa [digs] using HO.out, HFt.out⟩
          case round =>
            as_aux_lemma =>
            obtain ⟨j, hj, rfl, ho, hf⟩ := hrel
            have HOj := hid ho
            have HFj := hid hf
            clear ho hf HO HFt
            by_cases h8 : j < 8
            · have cx : wr.cell? ⟨H, t, none⟩ = some (.int .u64 x) := by rw [← HX.out]; exact (HV.out.fr HFj.out id).at_ t (by rw [HSL.out]; omega)
              have hle : (L ++ digs x j).length ≤ 40 := by rw [List.length_append, digs_length]; omega
              have t8 : (t : Int) < 8 := by omega
              go_wp2_with (refine wpList_app1 rfl (.tmp 229) (.tmp 238) 31 rfl 1 Tryd.underlying31 infoByte wr (x / 2 ^ (8 * j) % 256) 5 _ (L ++ digs x j) rfl HOj.out rfl (by omega) HFj.out.size ?_; intro v7 w7 HO7 HK7)
              go_roundw
              case rel => exact ⟨j + 1, by omega, by go_num, by rw [digs_shift, ← List.append_assoc]; exact HO7.out, HK7.out _ _ HFj.out (Nat.le_refl _)⟩
              case measure => simp [intOf]; omega
            · have hj' : j = 8 := by omega
              rw [show ((j : Nat) : Int) = 8 from by omega]
              subst hj'
              go_wp2_with fail
              go_roundw
              case rel => exact ⟨t + 1, by omega, by go_num, by rw [HLS.out]; exact HOj.out, HFj.out⟩
              case measure => simp [intOf]; omega
        · have ht' : t = 4 := by omega
          subst ht'
          rw [HFIN.out] at HO
          go_wp2_with fail
          go_ret
          exact ⟨_, rfl, HO.out.mono HF.out.size, HF.out.then_ HFt.out (fun _ _ h => h)⟩
end Go.Proofs.YtcbogkpgkdijaaaDoor.BlaH
