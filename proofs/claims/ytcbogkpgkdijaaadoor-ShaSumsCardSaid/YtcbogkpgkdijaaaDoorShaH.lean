/- Walks of layer sha: the document's sum. -/
import Derived.Test.YtcbogkpgkdijaaaDoorShaF
import Derived.Deep.RegionLaw
import Derived.StillTailTactics
set_option linter.unusedVariables false
set_option linter.unusedSimpArgs false
namespace Go.Proofs.YtcbogkpgkdijaaaDoor.ShaH
open Go.IntWalk Go.RowKit Go.Proofs.YtcbogkpgkdijaaaDoor.Mem Go.Proofs.YtcbogkpgkdijaaaDoor.Num Go.Proofs.YtcbogkpgkdijaaaDoor.BitsA Go.Proofs.YtcbogkpgkdijaaaDoor.BitsB Go.Proofs.YtcbogkpgkdijaaaDoor.App Go.Proofs.YtcbogkpgkdijaaaDoor.ShaP Go.Proofs.YtcbogkpgkdijaaaDoor.ShaA Go.Proofs.YtcbogkpgkdijaaaDoor.ShaB Go.Proofs.YtcbogkpgkdijaaaDoor.ShaE Go.Proofs.YtcbogkpgkdijaaaDoor.ShaF

/-- The document's turn. -/
theorem ref_right32 (x : Int) (n : Nat) (m : Int) (hm : (n : Int) = m) (h1 : 1 ≤ n) (h2 : n ≤ 31) (w : World) (h0 : 0 ≤ x) (hx : x < 4294967296) :
    Calls Tryd.prog 42 #[.int .u32 x, .int .i64 m] w fun e w' => e = .returned (.int .u32 (ror 32 x m)) ∧ ∃ j, w' = w.drewN j := by
  subst hm
  have e1 : ((n : Int) % 32 + 32) % 32 = n := by omega
  have e2 : (n : Int) % 32 = n := by omega
  have e3 : ((n : Int) + 32) % 32 = n := by omega
  have e4 : ((n : Int) == 0) = false := by rw [beq_eq_false_iff_ne]; omega
  obtain ⟨y, rfl⟩ : ∃ y : Nat, x = y := ⟨x.toNat, by omega⟩
  have hy : y < 2 ^ 32 := by omega
  have hfin : Go.bits .or .u32 ((y : Int) / 2 ^ n) ((y : Int) * 2 ^ (32 - n) % 4294967296) = ror 32 (y : Int) n := by
    unfold ror
    have e5 : ((-(n : Int)) % ((32 : Nat) : Int)).toNat = 32 - n := by omega
    have h3 : y / 2 ^ n < 2 ^ 32 := Nat.lt_of_le_of_lt (Nat.div_le_self _ _) hy
    have h4 : y * 2 ^ (32 - n) % 2 ^ 32 < 2 ^ 32 := Nat.mod_lt _ (by decide)
    rw [e5, Int.toNat_natCast, ← or_rot 32 (32 - n) y (by omega) hy, show ((y : Int) / 2 ^ n) = ((y / 2 ^ n : Nat) : Int) by simp, show ((y : Int) * 2 ^ (32 - n)) % 4294967296 = ((y * 2 ^ (32 - n) % 2 ^ 32 : Nat) : Int) by simp,
      or_nat _ _ h3 h4, show 32 - (32 - n) = n by omega, Nat.or_comm]
  have HFIN := hid hfin
  clear hfin
  go_enter Tryd.func42, Tryd.ntmps42
  go_wp2
  go_quiet (fail)
  go_wp2
  go_ret
  exact ⟨ret_int HFIN.out, _, rfl⟩

theorem digs_get (x : Int) (n i : Nat) (h : i < n) : (digs x n)[i]? = some (x / 256 ^ i % 256) := by
  induction n generalizing x i with
  | zero => omega
  | succ n ih =>
    cases i with
    | zero => simp [digs]
    | succ i => rw [digs, List.getElem?_cons_succ, ih _ _ (by omega), Int.ediv_ediv_of_nonneg (by decide), Int.pow_succ']
theorem top_succ (q : Int) (m i : Nat) (h : i + m = 7) : (digs q 8).reverse.take m ++ [q / 2 ^ (8 * i) % 256] = (digs q 8).reverse.take (m + 1) := by
  have hl : m < (digs q 8).reverse.length := by simp [digs_length]; omega
  rw [List.take_succ_eq_append_getElem hl]
  congr 2
  rw [List.getElem_reverse]
  have := digs_get q 8 i (by omega)
  have e : (digs q 8).length - 1 - m = i := by rw [digs_length]; omega
  rw [show (256 : Int) ^ i = 2 ^ (8 * i) by rw [Int.pow_mul]; rfl] at this
  simp only [e]
  rw [List.getElem?_eq_getElem (by rw [digs_length]; omega)] at this
  exact (Option.some.inj this).symm
theorem right_2 (x : Int) (w : World) (h0 : 0 ≤ x) (hx : x < 4294967296) : Calls Tryd.prog 42 #[.int .u32 x, .int .i64 2] w fun e w' => e = .returned (.int .u32 (ror 32 x 2)) ∧ ∃ j, w' = w.drewN j := ref_right32 x 2 2 rfl (by decide) (by decide) w h0 hx
theorem right_6 (x : Int) (w : World) (h0 : 0 ≤ x) (hx : x < 4294967296) : Calls Tryd.prog 42 #[.int .u32 x, .int .i64 6] w fun e w' => e = .returned (.int .u32 (ror 32 x 6)) ∧ ∃ j, w' = w.drewN j := ref_right32 x 6 6 rfl (by decide) (by decide) w h0 hx
theorem right_7 (x : Int) (w : World) (h0 : 0 ≤ x) (hx : x < 4294967296) : Calls Tryd.prog 42 #[.int .u32 x, .int .i64 7] w fun e w' => e = .returned (.int .u32 (ror 32 x 7)) ∧ ∃ j, w' = w.drewN j := ref_right32 x 7 7 rfl (by decide) (by decide) w h0 hx
theorem right_11 (x : Int) (w : World) (h0 : 0 ≤ x) (hx : x < 4294967296) : Calls Tryd.prog 42 #[.int .u32 x, .int .i64 11] w fun e w' => e = .returned (.int .u32 (ror 32 x 11)) ∧ ∃ j, w' = w.drewN j := ref_right32 x 11 11 rfl (by decide) (by decide) w h0 hx
theorem right_13 (x : Int) (w : World) (h0 : 0 ≤ x) (hx : x < 4294967296) : Calls Tryd.prog 42 #[.int .u32 x, .int .i64 13] w fun e w' => e = .returned (.int .u32 (ror 32 x 13)) ∧ ∃ j, w' = w.drewN j := ref_right32 x 13 13 rfl (by decide) (by decide) w h0 hx
theorem right_17 (x : Int) (w : World) (h0 : 0 ≤ x) (hx : x < 4294967296) : Calls Tryd.prog 42 #[.int .u32 x, .int .i64 17] w fun e w' => e = .returned (.int .u32 (ror 32 x 17)) ∧ ∃ j, w' = w.drewN j := ref_right32 x 17 17 rfl (by decide) (by decide) w h0 hx
theorem right_18 (x : Int) (w : World) (h0 : 0 ≤ x) (hx : x < 4294967296) : Calls Tryd.prog 42 #[.int .u32 x, .int .i64 18] w fun e w' => e = .returned (.int .u32 (ror 32 x 18)) ∧ ∃ j, w' = w.drewN j := ref_right32 x 18 18 rfl (by decide) (by decide) w h0 hx
theorem right_19 (x : Int) (w : World) (h0 : 0 ≤ x) (hx : x < 4294967296) : Calls Tryd.prog 42 #[.int .u32 x, .int .i64 19] w fun e w' => e = .returned (.int .u32 (ror 32 x 19)) ∧ ∃ j, w' = w.drewN j := ref_right32 x 19 19 rfl (by decide) (by decide) w h0 hx
theorem right_22 (x : Int) (w : World) (h0 : 0 ≤ x) (hx : x < 4294967296) : Calls Tryd.prog 42 #[.int .u32 x, .int .i64 22] w fun e w' => e = .returned (.int .u32 (ror 32 x 22)) ∧ ∃ j, w' = w.drewN j := ref_right32 x 22 22 rfl (by decide) (by decide) w h0 hx
theorem right_25 (x : Int) (w : World) (h0 : 0 ≤ x) (hx : x < 4294967296) : Calls Tryd.prog 42 #[.int .u32 x, .int .i64 25] w fun e w' => e = .returned (.int .u32 (ror 32 x 25)) ∧ ∃ j, w' = w.drewN j := ref_right32 x 25 25 rfl (by decide) (by decide) w h0 hx
theorem mk_words (w : World) : (Instr.makeSlice 64 (.int .i64 64) (.int .i64 64)).run Tryd.prog w = .ok (.slice (some ⟨w.heap.size, 0, none⟩) 64 64) (w.alloc (.cells (madeCells #[.int .u32 0] 64) 38)) :=
  run_make_nc (P := Tryd.prog) 64 38 (.int .u32 0) 4 Tryd.underlying64 info32 64 64 (by omega) (by omega) (by omega) w
theorem number_any (A : Option Addr) (c n : Nat) (xs : List Int) (f : Int) (from_ : Nat) (w : World) (hn : xs.length = n) (hf : (from_ : Int) = f) (hr : RdI .u8 w A xs) (hb : Bytes xs) (hl : n ≤ 140737488355328) (hf2 : from_ ≤ 140737488355328) :
    Calls Tryd.prog 41 #[.slice A n c, .int .i64 f, .int .i64 4] w fun e w' => e = .returned (.int .u64 (val (win xs from_ 4))) ∧ w = w' := by
  subst hn hf
  exact number_calls A c xs from_ 4 w hr hb hl hf2 (by decide)
theorem bytes_app2 {xs ys : List Int} (h : Bytes xs) (k : Bytes ys) : Bytes (xs ++ ys) := fun c hc => by rcases List.mem_append.1 hc with h1 | h1; exact h c h1; exact k c h1
theorem rd8 {k : IntKind} {w : World} {g : Nat} {a0 a1 a2 a3 a4 a5 a6 a7 : Int} (h : RdI k w (some ⟨g, 0, none⟩) [a0, a1, a2, a3, a4, a5, a6, a7]) :
    w.cell? ⟨g, 0, none⟩ = some (.int k a0) ∧ w.cell? ⟨g, 1, none⟩ = some (.int k a1) ∧ w.cell? ⟨g, 2, none⟩ = some (.int k a2) ∧ w.cell? ⟨g, 3, none⟩ = some (.int k a3) ∧
    w.cell? ⟨g, 4, none⟩ = some (.int k a4) ∧ w.cell? ⟨g, 5, none⟩ = some (.int k a5) ∧ w.cell? ⟨g, 6, none⟩ = some (.int k a6) ∧ w.cell? ⟨g, 7, none⟩ = some (.int k a7) := by
  have hc : ∀ i (hi : i < 8), w.cell? ⟨g, i, none⟩ = some (.int k ([a0, a1, a2, a3, a4, a5, a6, a7].getD i 0)) := by
    intro i hi
    obtain ⟨ad, had, _, hc⟩ := h i hi
    injection had with had
    subst had
    rw [add_plain, Nat.zero_add] at hc
    exact hc
  exact ⟨hc 0 (by decide), hc 1 (by decide), hc 2 (by decide), hc 3 (by decide), hc 4 (by decide), hc 5 (by decide), hc 6 (by decide), hc 7 (by decide)⟩
theorem dig4 (x : Int) : (digs x 4).reverse = [IntKind.u8.wrap (x / 16777216), IntKind.u8.wrap (x / 65536), IntKind.u8.wrap (x / 256), IntKind.u8.wrap x] := by
  simp only [wrap_u8]
  have h1 : x / 256 / 256 = x / 65536 := by omega
  have h2 : x / 65536 / 256 = x / 16777216 := by omega
  simp only [digs, List.reverse_cons, List.reverse_nil, List.nil_append, List.cons_append, h1, h2]
theorem K_snoc (t : Nat) (h : t < 64) : K.take t ++ [at_ K t] = K.take (t + 1) := by
  rw [List.take_succ_eq_append_getElem (show t < K.length from h)]
  simp [ShaP.at_, List.getD_eq_getElem?_getD, List.getElem?_eq_getElem (show t < K.length from h)]
set_option maxRecDepth 100000 in
set_option maxHeartbeats 16000000 in
theorem ref_sum (A : Option Addr) (n c : Nat) (xs : List Int) (w : World) (hn : xs.length = n) (hr : RdI .u8 w A xs) (hb : Bytes xs) (hl : n ≤ 1000000) :
    Calls Tryd.prog 20 #[.slice A n c] w fun e w' => ∃ v, e = .returned v ∧ Own .u8 5 w' w.heap.size v (sumOf xs) ∧ Fr (fun _ => False) w w' := by
  have HN := hid hn
  have HR := hid hr
  have HB := hid hb
  clear hn hr hb
  go_enter Tryd.func20, Tryd.ntmps20
  obtain ⟨z, hz⟩ : ∃ z, (119 - n % 64) % 64 = z := ⟨_, rfl⟩
  have hz1 : z < 64 := by omega
  have hz2 : (n + 1 + z) % 64 = 56 := by omega
  have hz3 : ∀ j, j < z → ¬ (n + 1 + j) % 64 = 56 := by intro j hj; omega
  have HZ := hid hz
  have HZ3 := hid hz3
  have HZ2 := hid hz2
  clear hz hz3
  go_wp2_with (first
    | (refine wpList_app rfl (.tmp 29) (.tmp 30) 31 rfl 1 Tryd.underlying31 infoByte _ [] rfl (own_made0 .u8 5 w) A n c rfl xs HN.out (HR.out.fr0 ((Fr.refl _ w).alloc _)) (by simp; omega) (by simp) ?_; intro v3 w3 h3; have HO3 := hid (show Own .u8 5 w3 w.heap.size v3 xs from h3.out.own); have HF3 := hid (h3.out.fr0 (own_made0 .u8 5 w) ((Fr.refl (fun _ => False) w).alloc (.cells #[] 5)) (Nat.le_refl _)))
    | (refine wpList_app1 rfl (.tmp 32) (.tmp 33) 31 rfl 1 Tryd.underlying31 infoByte w3 128 5 v3 xs rfl HO3.out rfl (by rw [HN.out]; omega) HF3.out.size ?_; intro v4 w4 HO4 HK4))
  have HF4 := hid (HK4.out _ w HF3.out (Nat.le_refl _))
  clear HO3 HF3 HK4 h3
  go_loopw [3] (fun v w' => ∃ (j : Nat) (L : List Int), j ≤ z ∧ Hid (L = xs ++ 128 :: List.replicate j 0) ∧ L.length = n + 1 + j ∧ Own .u8 5 w' w.heap.size v L ∧ Fr (fun _ => False) w w') (fun v _ => match v with | .slice _ m _ => n + 1 + z - m | _ => 0)
  case atStart => exact ⟨0, _, by omega, hid (by simp), by simp [HN.out], HO4.out, HF4.out⟩
  case round =>
    obtain ⟨j, L, hj, HL, hLl, ho, hf⟩ := hrel
    obtain ⟨A3, c3, rfl, _, _⟩ := ho.form
    have HO := hid ho
    have HF := hid hf
    have HLL := hid hLl
    have hLle : L.length ≤ 1000000 + 1 + 64 := by omega
    have E1 := hid (show ((L.length : Int) % 64 != 56) = decide (j < z) by
      by_cases hjz : j < z
      · have := HZ3.out j hjz; rw [decide_eq_true hjz, bne_iff_ne]; omega
      · rw [decide_eq_false hjz, bne_eq_false_iff_eq]; omega)
    clear ho hf hLl hz2
    by_cases hjz : j < z
    · have e1 := E1.out
      rw [decide_eq_true hjz] at e1
      go_wp2_with (refine wpList_app1 rfl (.tmp 39) (.tmp 40) 31 rfl 1 Tryd.underlying31 infoByte _ 0 5 _ L rfl HO.out rfl (by omega) HF.out.size ?_; intro v4 w4 HO5 HK5)
      have hfm := HO5.out.form
      obtain ⟨A5, c5, rfl, _, _⟩ := hfm
      go_roundw
      case rel => exact ⟨j + 1, L ++ [0], by omega, hid (by rw [HL.out]; simp [List.replicate_succ']), by have := HLL.out; simp; omega, HO5.out, HK5.out _ _ HF.out (Nat.le_refl _)⟩
      case measure => have := HLL.out; simp; omega
    · have e1 := E1.out
      rw [decide_eq_false hjz] at e1
      go_wp2_with fail
      obtain ⟨q, hq⟩ : ∃ q : Int, (n : Int) * 8 = q := ⟨_, rfl⟩
      rw [hq]
      have hq0 : 0 ≤ q := by omega
      have hq1 : q < 18446744073709551616 := by omega
      have HQ := hid hq
      have HLZ := hid (show L.length = n + 1 + z by have := HLL.out; omega)
      have hjz' : j = z := by omega
      rw [hjz'] at HL
      clear hq hjz e1 hjz'
      go_loopw [3, 5] (fun v i w' => ∃ (m : Nat) (M : List Int), m ≤ 8 ∧ i = .int .i64 (7 - (m : Int)) ∧ Hid (M = L ++ (digs q 8).reverse.take m) ∧ M.length = n + 1 + z + m ∧ Own .u8 5 w' w.heap.size v M ∧ Fr (fun _ => False) w w') (fun _ i _ => (intOf i + 1).toNat)
      case atStart => exact ⟨0, L, by omega, rfl, hid (by simp), by have := HLZ.out; omega, HO.out, HF.out⟩
      case round =>
        obtain ⟨m, M, hm, rfl, HM, hMl, ho, hf⟩ := hrel
        obtain ⟨A6, c6, rfl, _, _⟩ := ho.form
        have HO6 := hid ho
        have HF6 := hid hf
        have HML := hid hMl
        have hMle : M.length ≤ 1000000 + 1 + 64 + 8 := by omega
        clear ho hf HO HF hMl
        by_cases hm8 : m < 8
        · as_aux_lemma =>
            obtain ⟨i, hi⟩ : ∃ i : Nat, 7 - m = i := ⟨_, rfl⟩
            rw [show (7 - (m : Int)) = (i : Int) by omega]
            have HI := hid hi
            have hi7 : i ≤ 7 := by omega
            clear hi
            go_wp2_with (refine wpList_app1 rfl (.tmp 50) (.tmp 56) 31 rfl 1 Tryd.underlying31 infoByte wr (q / 2 ^ (8 * i) % 256) 5 _ M rfl HO6.out rfl (by omega) HF6.out.size ?_; intro v7 w7 HO7 HK7)
            obtain ⟨A8, c8, rfl, _, _⟩ := HO7.out.form
            go_roundw
            case rel =>
              have hi := HI.out
              exact ⟨m + 1, _, by omega, by rw [show (7 - ((m + 1 : Nat) : Int)) = (i : Int) - 1 by omega], hid (by rw [HM.out, List.append_assoc, top_succ q m i (by have := HI.out; omega)]), by have := HML.out; simp; omega, HO7.out, HK7.out _ _ HF6.out (Nat.le_refl _)⟩
            case measure => simp [intOf]
        · have hm' : m = 8 := by omega
          subst hm'
          rw [show (7 - ((8 : Nat) : Int)) = -1 by omega]
          have hnq := HQ.out
          have hqe : (8 * (n : Int)) % 18446744073709551616 = q := by omega
          clear hnq
          have hM : M = xs ++ pad n := by
            rw [HM.out, HL.out, List.take_of_length_le (by simp [digs_length]), pad, HZ.out, hqe]
            simp
          have HMP := hid hM
          clear hM hqe
          go_wp2_with fail
          refine (primes_calls wr).mono ?_
          rintro e w7 ⟨v7, rfl, hop, hf⟩
          have HO7 := hid (HO6.out.fr hf (fun _ _ h => h))
          have HF7 := hid (HF6.out.then_ hf (fun _ _ h => h))
          have HP7 := hid (hop.mono (show w.heap.size ≤ wr.heap.size from HF6.out.size))
          clear hop hf
          obtain ⟨A9, c9, rfl, _, _⟩ := HP7.out.form
          rw [show P64.length = 64 from rfl] at *
          go_wp2_with fail
          go_loopw [6, 8] (fun v i w' => ∃ (t : Nat) (L : List Int), t ≤ 64 ∧ i = .int .i64 t ∧ Hid (L = K.take t) ∧ L.length ≤ 64 ∧ Own .u32 38 w' w7.heap.size v L ∧ Fr (fun _ => False) w7 w') (fun _ i _ => 64 - (intOf i).toNat)
          case atStart => exact ⟨0, [], by omega, rfl, hid rfl, by simp, Own.nil _ _ _ _, Fr.refl _ _⟩
          case round =>
            obtain ⟨t, KL, ht, rfl, HKL, hKl, ho, hf⟩ := hrel
            have HO8 := hid ho
            have HF8 := hid hf
            clear ho hf
            by_cases ht64 : t < 64
            · as_aux_lemma =>
                obtain ⟨ad, had, _, hcell⟩ := (HP7.out.rd.1.fr0 HF8.out) t (by rw [show P64.length = 64 from rfl]; exact ht64)
                obtain ⟨g9, rfl⟩ : ∃ g9, A9 = some ⟨g9, 0, none⟩ := by
                  obtain ⟨A', c', hv, _, hA'⟩ := HP7.out.form
                  injection hv with hv
                  subst hv
                  obtain ⟨g', hg', _⟩ := hA' _ had
                  exact ⟨g', by rw [had, hg']⟩
                injection had with had
                subst had
                rw [add_plain, Nat.zero_add] at hcell
                obtain ⟨pt, hpt⟩ : ∃ pt, P64.getD t 0 = pt := ⟨_, rfl⟩
                have hkt := k_at t ht64
                rw [hpt] at hcell hkt
                have HKT := hid hkt
                clear hkt hpt
                go_wp2_with fail
                refine (k_calls pt (at_ K t) wr HKT.out).mono ?_
                rintro e w9 ⟨rfl, hf⟩
                have HO9 := hid (HO8.out.fr hf (fun _ _ h => h))
                have HF9 := hid (HF8.out.then_ hf (fun _ _ h => h))
                have hlen : KL.length ≤ 64 := by rw [HKL.out, List.length_take]; omega
                clear hf HO8 HF8
                obtain ⟨kt, hkt⟩ : ∃ kt, at_ K t = kt := ⟨_, rfl⟩
                rw [hkt]
                have HKT2 := hid hkt
                clear hkt
                go_wp2_with (refine wpList_app1 rfl (.tmp 63) (.tmp 69) 64 rfl 4 Tryd.underlying64 info32 w9 kt 38 _ KL rfl HO9.out rfl (by omega) HF9.out.size ?_; intro v10 w10 HO10 HK10)
                go_roundw
                case rel => exact ⟨t + 1, KL ++ [kt], by omega, by go_num, hid (by rw [HKL.out, ← HKT2.out, K_snoc t ht64]), by rw [List.length_append, List.length_singleton, HKL.out, List.length_take]; omega, HO10.out, HK10.out _ _ HF9.out (Nat.le_refl _)⟩
                case measure => simp [intOf]; omega
            · have ht' : t = 64 := by omega
              rw [show ((t : Nat) : Int) = 64 from by omega]
              subst ht'
              have hKK : KL = K := by rw [HKL.out]; exact List.take_of_length_le (Nat.le_refl _)
              have HOK := hid (show Own .u32 38 wr w7.heap.size _ K by rw [← hKK]; exact HO8.out)
              have HO11 := hid (HO7.out.fr HF8.out (fun _ _ h => h))
              obtain ⟨A12, c12, rfl, hc12, _⟩ := HOK.out.form
              rw [show K.length = 64 from rfl] at HOK hc12 ⊢
              obtain ⟨gK, rfl⟩ : ∃ gK, A12 = some ⟨gK, 0, none⟩ := by
                obtain ⟨ad, had, _, _⟩ := HOK.out.rd.1 0 (by decide)
                obtain ⟨A', c', hv, _, hA'⟩ := HOK.out.form
                injection hv with hv
                subst hv
                obtain ⟨g', hg', _⟩ := hA' _ had
                exact ⟨g', by rw [had, hg']⟩
              have hbM : ∃ b, M.length = 64 * b ∧ b ≤ 20000 := ⟨M.length / 64, by have := HML.out; have := HZ2.out; omega, by omega⟩
              obtain ⟨b, hb64, hb20⟩ := hbM
              have HB64 := hid hb64
              have hf11 := HF7.out.then_ HF8.out (fun _ _ h => h)
              have HF11 := hid hf11
              have hv0 : VecI .u32 38 (wr.alloc (.cells #[.int .u32 1779033703, .int .u32 3144134277, .int .u32 1013904242, .int .u32 2773480762, .int .u32 1359893119, .int .u32 2600822924, .int .u32 528734635, .int .u32 1541459225] 38)) wr.heap.size (blocks M 0) := Blk.new wr 38 _
              have HV0 := hid hv0
              obtain ⟨B, hBe⟩ : ∃ B, wr.heap.size = B := ⟨_, rfl⟩
              have HMB := hid (fun g (e : (Value.slice A6 M.length c6).ownBlock = some g) => show g < B by rw [← hBe]; exact (HO11.out.lt g e).2)
              have HKB := hid (fun g e => show g < B by rw [← hBe]; exact (HOK.out.lt g e).2)
              have hBw : w.heap.size ≤ B := by rw [← hBe]; exact HF11.out.size
              have hBw7 : w7.heap.size ≤ B := by rw [← hBe]; exact HF8.out.size
              rw [hBe] at HV0
              have HFB := hid (HF11.out.alloc (.cells #[.int .u32 1779033703, .int .u32 3144134277, .int .u32 1013904242, .int .u32 2773480762, .int .u32 1359893119, .int .u32 2600822924, .int .u32 528734635, .int .u32 1541459225] 38))
              have HM1 := hid (HO11.out.fr ((Fr.refl (fun _ => False) wr).alloc (.cells #[.int .u32 1779033703, .int .u32 3144134277, .int .u32 1013904242, .int .u32 2773480762, .int .u32 1359893119, .int .u32 2600822924, .int .u32 528734635, .int .u32 1541459225] 38)) (fun _ _ h => h))
              have HK1 := hid (HOK.out.fr ((Fr.refl (fun _ => False) wr).alloc (.cells #[.int .u32 1779033703, .int .u32 3144134277, .int .u32 1013904242, .int .u32 2773480762, .int .u32 1359893119, .int .u32 2600822924, .int .u32 528734635, .int .u32 1541459225] 38)) (fun _ _ h => h))
              clear hKK HP7 HO8 hb64 hf11 hv0 HOK HO11
              go_wp2_with fail
              clear hBe
              go_loopw [10] (fun i w' => ∃ m : Nat, m ≤ b ∧ i = .int .i64 (64 * (m : Int)) ∧ VecI .u32 38 w' B (blocks M m) ∧ Own .u8 5 w' w.heap.size (.slice A6 M.length c6) M ∧ Own .u32 38 w' w7.heap.size (.slice (some ⟨gK, 0, none⟩) 64 c12) K ∧ Fr (fun _ => False) w w') (fun i _ => 64 * b - (intOf i).toNat)
              case atStart => exact ⟨0, by omega, by simp, HV0.out, HM1.out, HK1.out, HFB.out⟩
              case round =>
                obtain ⟨m, hm, rfl, hv, ho, hk, hf⟩ := hrel
                have HV := hid hv
                have HO := hid ho
                have HK := hid hk
                have HF := hid hf
                clear hv ho hk hf
                by_cases hmb : m < b
                · have hmk := fun w => mk_words w
                  obtain ⟨ys, hys⟩ : ∃ ys, chunk M m = ys := ⟨_, rfl⟩
                  have HYS := hid hys
                  have hMl64 : 64 * m + 64 ≤ M.length := by have := HB64.out; omega
                  have hcmp : decide (64 * (m : Int) < (M.length : Int)) = true := decide_eq_true (by omega)
                  clear hys
                  go_wp2_with fail
                  obtain ⟨wA, hwA⟩ : ∃ wA, wr.alloc (.cells (madeCells #[.int .u32 0] 64) 38) = wA := ⟨_, rfl⟩
                  obtain ⟨Wb, hWb⟩ : ∃ Wb, wr.heap.size = Wb := ⟨_, rfl⟩
                  have hW0 : VecI .u32 38 (wr.alloc (.cells (madeCells #[.int .u32 0] 64) 38)) wr.heap.size (sched ys 0) := made_vec .u32 38 wr 64
                  have hFA := (Fr.refl (fun _ => False) wr).alloc (.cells (madeCells #[.int .u32 0] 64) 38)
                  have hBW : B < Wb := by rw [← hWb]; exact Blk.lt HV.out
                  have HMW := hid (fun g (e : (Value.slice A6 M.length c6).ownBlock = some g) => show g < Wb by rw [← hWb]; exact (HO.out.lt g e).2)
                  have HKW := hid (fun g (e : (Value.slice (some ⟨gK, 0, none⟩) 64 c12).ownBlock = some g) => show g < Wb by rw [← hWb]; exact (HK.out.lt g e).2)
                  rw [hwA, hWb] at hW0
                  rw [hwA] at hFA
                  have HW0 := hid hW0
                  have HVA := hid (HV.out.fr hFA id)
                  have HOA := hid (HO.out.fr hFA (fun _ _ h => h))
                  have HKA := hid (HK.out.fr hFA (fun _ _ h => h))
                  have HFA := hid (HF.out.then_ hFA (fun _ _ h => h))
                  have hwW : w.heap.size ≤ Wb := by rw [← hWb]; exact HF.out.size
                  rw [hWb]
                  try rw [hwA]
                  clear hmk hwA hWb hW0 hFA HV HO HK HF
                  go_loopw [12] (fun i w' => ∃ t : Nat, t ≤ 64 ∧ i = .int .i64 t ∧ VecI .u32 38 w' Wb (sched ys t) ∧ Fr (fun k => k = Wb) wA w') (fun i _ => 64 - (intOf i).toNat)
                  case atStart => exact ⟨0, by omega, rfl, HW0.out, Fr.refl _ _⟩
                  case round =>
                    obtain ⟨t, ht, rfl, hv, hf⟩ := hrel
                    have HV1 := hid hv
                    have HF1 := hid hf
                    clear hv hf
                    by_cases h1 : t < 16
                    · as_aux_lemma =>
                        have hnum : ((64 * m + 4 * t : Nat) : Int) = 64 * (m : Int) + 4 * (t : Int) := by omega
                        have HNUM := hid hnum
                        have hMle2 : (M.length : Int) ≤ 140737488355328 := by omega
                        have hrdM := (HOA.out.fr HF1.out (fun g hg (e : g = Wb) => by have := HMW.out g hg; omega)).rd.1
                        have HRDM := hid hrdM
                        have hbM2 : Bytes M := by rw [HMP.out]; exact bytes_app2 HB.out (bytes_pad n)
                        have HBM := hid hbM2
                        clear hrdM hbM2 hnum
                        go_wp2_with fail
                        refine (number_any A6 c6 M.length M _ (64 * m + 4 * t) wr rfl HNUM.out HRDM.out HBM.out (by omega) (by omega)).mono ?_
                        rintro e w5 ⟨rfl, rfl⟩
                        have hwe : word ys (sched ys t) t = val (win M (64 * m + 4 * t) 4) % 4294967296 := by
                          unfold word
                          rw [if_pos h1, word_win M m t h1, HYS.out]
                        obtain ⟨v, hv⟩ : ∃ v, val (win M (64 * m + 4 * t) 4) = v := ⟨_, rfl⟩
                        have hvr := val_range (win M (64 * m + 4 * t) 4)
                        rw [hv] at hwe hvr ⊢
                        obtain ⟨hvr0, hvr1⟩ := hvr
                        have HWE := hid hwe
                        have hc4 := HV1.out.at_ t (by rw [sched_length]; omega)
                        have hz4 := Blk.frozen HV1.out t
                        clear hv hwe
                        go_wp2_with fail
                        go_roundw
                        case rel =>
                          refine ⟨t + 1, by omega, by go_num, ?_, HF1.out.set1 _ _⟩
                          have h := HV1.out.set_ t (v % 4294967296)
                          have e : sched ys (t + 1) = (sched ys t).set t (v % 4294967296) := by rw [← HWE.out]; rfl
                          rw [e]
                          exact h
                        case measure => simp [intOf]; omega
                    · by_cases h2 : t < 64
                      · as_aux_lemma =>
                          have n2 : (t : Int) - 2 = ((t - 2 : Nat) : Int) := by omega
                          have n7 : (t : Int) - 7 = ((t - 7 : Nat) : Int) := by omega
                          have n15 : (t : Int) - 15 = ((t - 15 : Nat) : Int) := by omega
                          have n16 : (t : Int) - 16 = ((t - 16 : Nat) : Int) := by omega
                          obtain ⟨a2, h2e⟩ : ∃ v, at_ (sched ys t) (t - 2) = v := ⟨_, rfl⟩
                          obtain ⟨a7, h7e⟩ : ∃ v, at_ (sched ys t) (t - 7) = v := ⟨_, rfl⟩
                          obtain ⟨a15, h15e⟩ : ∃ v, at_ (sched ys t) (t - 15) = v := ⟨_, rfl⟩
                          obtain ⟨a16, h16e⟩ : ∃ v, at_ (sched ys t) (t - 16) = v := ⟨_, rfl⟩
                          have c2 : wr.cell? ⟨Wb, t - 2, none⟩ = some (.int .u32 a2) := by rw [← h2e]; exact HV1.out.at_ (t - 2) (by rw [sched_length]; omega)
                          have c7 : wr.cell? ⟨Wb, t - 7, none⟩ = some (.int .u32 a7) := by rw [← h7e]; exact HV1.out.at_ (t - 7) (by rw [sched_length]; omega)
                          have c15 : wr.cell? ⟨Wb, t - 15, none⟩ = some (.int .u32 a15) := by rw [← h15e]; exact HV1.out.at_ (t - 15) (by rw [sched_length]; omega)
                          have c16 : wr.cell? ⟨Wb, t - 16, none⟩ = some (.int .u32 a16) := by rw [← h16e]; exact HV1.out.at_ (t - 16) (by rw [sched_length]; omega)
                          have c0 := HV1.out.at_ t (by rw [sched_length]; omega)
                          have hz := Blk.frozen HV1.out t
                          have r2 := (sched_U ys t).at_ (t - 2)
                          have r15 := (sched_U ys t).at_ (t - 15)
                          rw [h2e] at r2
                          rw [h15e] at r15
                          have R2 := hid r2
                          have R15 := hid r15
                          have HWD := hid (show word ys (sched ys t) t = W (W (W (smallB a2 + a7) + smallA a15) + a16) by unfold word; rw [if_neg h1, h2e, h7e, h15e, h16e])
                          clear h2e h7e h15e h16e r2 r15
                          obtain ⟨r2a, r2b⟩ := R2.out
                          obtain ⟨r15a, r15b⟩ := R15.out
                          go_wp2_with fail
                          go_quiet (fail)
                          go_wp2_with ((first | (with_reducible refine (right_17 a2 _ R2.out.1 R2.out.2).mono ?_) | (with_reducible refine (right_19 a2 _ R2.out.1 R2.out.2).mono ?_) | (with_reducible refine (right_7 a15 _ R15.out.1 R15.out.2).mono ?_) | (with_reducible refine (right_18 a15 _ R15.out.1 R15.out.2).mono ?_)); rintro e w' ⟨rfl, jj, rfl⟩)
                          obtain ⟨S0, hS0⟩ : ∃ v, smallA a15 = v := ⟨_, rfl⟩
                          obtain ⟨S1, hS1⟩ : ∃ v, smallB a2 = v := ⟨_, rfl⟩
                          obtain ⟨T1, hT1⟩ : ∃ v, W (S1 + a7) = v := ⟨_, rfl⟩
                          obtain ⟨T2, hT2⟩ : ∃ v, W (T1 + S0) = v := ⟨_, rfl⟩
                          obtain ⟨T3, hT3⟩ : ∃ v, W (T2 + a16) = v := ⟨_, rfl⟩
                          have HWT : Hid (word ys (sched ys t) t = T3) := hid (by rw [HWD.out, hS0, hS1, hT1, hT2, hT3])
                          rw [show Go.bits .xor .u32 (Go.bits .xor .u32 (ror 32 a15 7) (ror 32 a15 18)) (a15 / 8) = S0 from hS0, show Go.bits .xor .u32 (Go.bits .xor .u32 (ror 32 a2 17) (ror 32 a2 19)) (a2 / 1024) = S1 from hS1]
                          have k1 : IntKind.u32.wrap (S1 + a7) = T1 := hT1
                          have k2 : IntKind.u32.wrap (T1 + S0) = T2 := hT2
                          have k3 : IntKind.u32.wrap (T2 + a16) = T3 := hT3
                          clear hS0 hS1 hT1 hT2 hT3 HWD r2a r2b r15a r15b c2 c15
                          go_region
                          go_wp2_with fail
                          go_roundw
                          case rel =>
                            refine ⟨t + 1, by omega, by go_num, ?_, (HF1.out.drewN _).set1 _ _⟩
                            have h := VecI.set_ (Blk.drewN HV1.out (nq + jj + 1)) t T3
                            have e : sched ys (t + 1) = (sched ys t).set t T3 := by rw [← HWT.out]; rfl
                            rw [e]
                            exact h
                          case measure => simp [intOf]; omega
                      · have ht64 : t = 64 := by omega
                        rw [show ((t : Nat) : Int) = 64 from by omega]
                        subst ht64
                        obtain ⟨ws, hws⟩ : ∃ v, sched ys 64 = v := ⟨_, rfl⟩
                        have hwU := hid (sched_U ys 64)
                        have hwl := hid (sched_length ys 64)
                        rw [hws] at HV1 hwU hwl
                        have HWS : SchedIs ys ws := ⟨hws⟩
                        clear hws h1 h2
                        obtain ⟨ss, hss⟩ : ∃ v, blocks M m = v := ⟨_, rfl⟩
                        have hsl := hid (blocks_length M m)
                        have hsU := hid (blocks_U M m)
                        rw [hss] at HVA hsl hsU
                        have HSS := hid hss
                        clear hss
                        have HVB := hid (HVA.out.fr HF1.out (show ¬ B = Wb by omega))
                        have HOB := hid (HOA.out.fr HF1.out (fun g hg (e : g = Wb) => by have := HMW.out g hg; omega))
                        have HKB2 := hid (HKA.out.fr HF1.out (fun g hg (e : g = Wb) => by have := HKW.out g hg; omega))
                        have HFB2 := hid (HFA.out.then_ HF1.out (fun i hi (e : i = Wb) => by omega))
                        have hBwr : B < wr.heap.size := Blk.lt HVB.out
                        have hWwr : Wb < wr.heap.size := Blk.lt HV1.out
                        clear HVA HOA HKA HFA HF1
                        go_wp2_with (refine wpList_app rfl (.tmp 139) (.tmp 140) 64 rfl 4 Tryd.underlying64 info32 _ [] rfl (own_made0 .u32 38 wr) (some ⟨B, 0, none⟩) 8 8 rfl ss hsl.out ((VecI.rd HVB.out).fr0 ((Fr.refl _ wr).alloc _)) (by simp) (by simp) ?_; intro v9 w9 h9)
                        have HF9 := hid (((Fr.refl (fun _ => False) wr).alloc (.cells #[] 38)).then_ h9.out.fr (fun i hi e => by have := own_blk e; omega))
                        have HO9 := hid (show Own .u32 38 w9 wr.heap.size v9 ss from h9.out.own)
                        clear h9
                        obtain ⟨Av, cv, rfl, hcv, _⟩ := HO9.out.form
                        rw [hsl.out] at HO9 hcv ⊢
                        obtain ⟨V, rfl⟩ : ∃ V, Av = some ⟨V, 0, none⟩ := by
                          obtain ⟨ad, had, _, _⟩ := HO9.out.rd.1 0 (by rw [hsl.out]; decide)
                          obtain ⟨A', c', hv, _, hA'⟩ := HO9.out.form
                          injection hv with hv
                          subst hv
                          obtain ⟨g', hg', _⟩ := hA' _ had
                          exact ⟨g', by rw [had, hg']⟩
                        have HR9 := hid HO9.out.rd.1
                        have hBV : B < V := by have := (HO9.out.lt V rfl).1; omega
                        have HV9 := hid (HV1.out.fr HF9.out id)
                        have HVB9 := hid (HVB.out.fr HF9.out id)
                        have HOB9 := hid (HOB.out.fr HF9.out (fun _ _ h => h))
                        have HKB9 := hid (HKB2.out.fr HF9.out (fun _ _ h => h))
                        have HFB9 := hid (HFB2.out.then_ HF9.out (fun _ _ h => h))
                        clear HO9 HF9 HV1 HVB HOB HKB2 HFB2
                        go_wp2_with fail
                        go_loopw [17, 18] (fun v i w' => ∃ (t V cV : Nat), t ≤ 64 ∧ B < V ∧ i = .int .i64 t ∧ v = .slice (some ⟨V, 0, none⟩) 8 cV ∧ 8 ≤ cV ∧ RdI .u32 w' (some ⟨V, 0, none⟩) (rounds ws ss t) ∧ Fr (fun _ => False) w9 w') (fun _ i _ => 64 - (intOf i).toNat)
                        case atStart => exact ⟨0, V, cv, by omega, hBV, rfl, rfl, hcv, HR9.out, Fr.refl _ _⟩
                        case round =>
                          obtain ⟨t, V, cV, ht, hBV2, rfl, rfl, hcV, hr, hf⟩ := hrel
                          have HRv := hid hr
                          have HF10 := hid hf
                          clear hr hf
                          by_cases h3 : t < 64
                          · obtain ⟨v0, v1, v2, v3, v4, v5, v6, v7, hv⟩ := ShaA.eight (rounds_length (w := ws) (s := ss) hsl.out t)
                            have hvU := rounds_U (w := ws) hsU.out t
                            have hvr := HRv.out
                            rw [hv] at hvr hvU
                            obtain ⟨d0, d1, d2, d3, d4, d5, d6, d7⟩ := rd8 hvr
                            have u4 := hid (hvU v4 (by simp))
                            have u0 := hid (hvU v0 (by simp))
                            have uch := hid (ch_eq (hvU v4 (by simp)) (hvU v5 (by simp)) (hvU v6 (by simp)))
                            have umj := hid (maj_eq (hvU v0 (by simp)) (hvU v1 (by simp)) (hvU v2 (by simp)))
                            obtain ⟨kt, hkt⟩ : ∃ v, at_ K t = v := ⟨_, rfl⟩
                            obtain ⟨wt, hwt⟩ : ∃ v, at_ ws t = v := ⟨_, rfl⟩
                            have HV := hid hv
                            have HKT := hid hkt
                            have HWT := hid hwt
                            have ck : wr.cell? ⟨gK, t, none⟩ = some (.int .u32 kt) := by
                              obtain ⟨ad, had, _, hc⟩ := (HKB9.out.rd.1.fr0 HF10.out) t h3
                              injection had with had
                              subst had
                              rw [add_plain, Nat.zero_add] at hc
                              rw [hc, ← hkt]; rfl
                            have cw : wr.cell? ⟨Wb, t, none⟩ = some (.int .u32 wt) := by rw [← hwt]; exact (HV9.out.fr HF10.out id).at_ t (by rw [hwl.out]; omega)
                            clear hv hkt hwt hvU hvr
                            go_wp2_with fail
                            go_quiet (fail)
                            go_wp2_with ((first | (with_reducible refine (right_6 v4 _ u4.out.1 u4.out.2).mono ?_) | (with_reducible refine (right_11 v4 _ u4.out.1 u4.out.2).mono ?_) | (with_reducible refine (right_25 v4 _ u4.out.1 u4.out.2).mono ?_)); rintro e w' ⟨rfl, jj, rfl⟩)
                            go_quiet (fail)
                            go_wp2_with fail
                            go_quiet (fail)
                            obtain ⟨T1, hT1⟩ : ∃ T1, (((v7 + Go.bits .xor .u32 (Go.bits .xor .u32 (ror 32 v4 6) (ror 32 v4 11)) (ror 32 v4 25) + Go.bits .or .u32 (Go.bits .and .u32 v4 v5) (Go.bits .and .u32 (Go.bits .xor .u32 4294967295 v4) v6) + kt) % 4294967296 + wt) % 4294967296) = T1 := ⟨_, rfl⟩
                            rw [hT1]
                            have HT1 := hid (show t1 ws [v0, v1, v2, v3, v4, v5, v6, v7] t = T1 by unfold t1; rw [HKT.out, HWT.out, ← hT1, uch.out]; rfl)
                            have b1 : 0 ≤ T1 := by omega
                            have b2 : T1 < 4294967296 := by omega
                            clear hT1 ck cw uch
                            go_wp2_with ((first | (with_reducible refine (right_2 v0 _ u0.out.1 u0.out.2).mono ?_) | (with_reducible refine (right_13 v0 _ u0.out.1 u0.out.2).mono ?_) | (with_reducible refine (right_22 v0 _ u0.out.1 u0.out.2).mono ?_)); rintro e w' ⟨rfl, jj, rfl⟩)
                            go_quiet (fail)
                            rw [umj.out]
                            obtain ⟨TU, hTU⟩ : ∃ TU, turn v0 2 13 22 = TU := ⟨_, rfl⟩
                            obtain ⟨MJ, hMJ⟩ : ∃ MJ, X (X (ShaP.A v0 v1) (ShaP.A v0 v2)) (ShaP.A v1 v2) = MJ := ⟨_, rfl⟩
                            rw [show Go.bits .xor .u32 (Go.bits .xor .u32 (ror 32 v0 2) (ror 32 v0 13)) (ror 32 v0 22) = TU from hTU, hMJ]
                            have HT2 := hid (show t2 [v0, v1, v2, v3, v4, v5, v6, v7] = TU + MJ by rw [← hTU, ← hMJ]; rfl)
                            clear hTU hMJ umj
                            go_wp2_with fail
                            go_region_held3 (fun w' => w'.cell? ⟨V, 0, none⟩ = some (.int .u32 v0) ∧ w'.cell? ⟨V, 1, none⟩ = some (.int .u32 v1) ∧ w'.cell? ⟨V, 2, none⟩ = some (.int .u32 v2) ∧ w'.cell? ⟨V, 3, none⟩ = some (.int .u32 v3) ∧ w'.cell? ⟨V, 4, none⟩ = some (.int .u32 v4) ∧ w'.cell? ⟨V, 5, none⟩ = some (.int .u32 v5) ∧ w'.cell? ⟨V, 6, none⟩ = some (.int .u32 v6))
                              (first | exact ⟨d0, d1, d2, d3, d4, d5, d6⟩ | go_keep) (first | fail)
                            all_goals
                              go_wp2_with fail
                              go_roundw
                              case rel =>
                                have e : rounds ws ss (t + 1) = [((T1 + TU) % 4294967296 + MJ) % 4294967296, v0, v1, v2, (v3 + T1) % 4294967296, v4, v5, v6] := by
                                  rw [show rounds ws ss (t + 1) = round ws (rounds ws ss t) t from rfl, HV.out]
                                  unfold round
                                  rw [HT1.out, HT2.out, show (T1 + (TU + MJ)) % 4294967296 = ((T1 + TU) % 4294967296 + MJ) % 4294967296 by omega]
                                  rfl
                                have hBwr2 : B < wr.heap.size := Nat.lt_of_lt_of_le (Blk.lt HVB9.out) HF10.out.size
                                refine ⟨t + 1, wr.heap.size, 8, by omega, hBwr2, by go_num, rfl, by omega, ?_, (HF10.out.drewN _).alloc _⟩
                                rw [e]
                                exact VecI.rd (show VecI .u32 38 _ _ _ from Blk.new (wr.drewN _) 38 _)
                              case measure => simp [intOf]; omega
                          · have ht64 : t = 64 := by omega
                            rw [show ((t : Nat) : Int) = 64 from by omega]
                            subst ht64
                            obtain ⟨vs, hvs⟩ : ∃ v, rounds ws ss 64 = v := ⟨_, rfl⟩
                            have hvl := hid (rounds_length (w := ws) hsl.out 64)
                            rw [hvs] at HRv hvl
                            have HVS : RoundsIs ws ss vs := ⟨hvs⟩
                            clear hvs h3
                            have HVE := hid (HVB9.out.fr HF10.out id)
                            have HOE := hid (HOB9.out.fr HF10.out (fun _ _ h => h))
                            have HKE := hid (HKB9.out.fr HF10.out (fun _ _ h => h))
                            have HFE := hid (HFB9.out.then_ HF10.out (fun _ _ h => h))
                            go_wp2_with fail
                            go_loopw [26] (fun i w' => ∃ t : Nat, t ≤ 8 ∧ i = .int .i64 t ∧ VecI .u32 38 w' B (added ss vs t) ∧ Fr (fun k => k = B) wr w') (fun i _ => 8 - (intOf i).toNat)
                            case atStart => exact ⟨0, by omega, rfl, HVE.out, Fr.refl _ _⟩
                            case round =>
                              obtain ⟨i, hi, rfl, hv, hf⟩ := hrel
                              have HVi := hid hv
                              have HFi := hid hf
                              clear hv hf
                              by_cases h4 : i < 8
                              · as_aux_lemma =>
                                  obtain ⟨p, hp⟩ : ∃ v, at_ (added ss vs i) i = v := ⟨_, rfl⟩
                                  obtain ⟨x, hx⟩ : ∃ v, at_ vs i = v := ⟨_, rfl⟩
                                  have c1 : wr.cell? ⟨B, i, none⟩ = some (.int .u32 p) := by rw [← hp]; exact HVi.out.at_ i (by rw [added_length, hsl.out]; exact h4)
                                  have c2 : wr.cell? ⟨V, i, none⟩ = some (.int .u32 x) := by
                                    obtain ⟨ad, had, hlt, hc⟩ := HRv.out i (by rw [hvl.out]; exact h4)
                                    injection had with had
                                    subst had
                                    rw [add_plain, Nat.zero_add] at hc
                                    rw [HFi.out.cell (p := ⟨V, i, none⟩) hlt (show ¬ V = B by omega), hc, ← hx]; rfl
                                  have hz := Blk.frozen HVi.out i
                                  have HE := hid (show added ss vs (i + 1) = (added ss vs i).set i (W (p + x)) by rw [← hp, ← hx]; rfl)
                                  clear hp hx
                                  go_wp2_with fail
                                  go_region
                                  go_wp2_with fail
                                  go_roundw
                                  case rel =>
                                    refine ⟨i + 1, by omega, by go_num, ?_, (HFi.out.set1 _ _).drew⟩
                                    have h := HVi.out.set_ i (W (p + x))
                                    rw [← HE.out] at h
                                    rw [show (p + x) % 4294967296 = W (p + x) from (wrap_u32 _).symm]
                                    exact Blk.drew h
                                  case measure => simp [intOf]; omega
                              · have hi8 : i = 8 := by omega
                                rw [show ((i : Nat) : Int) = 8 from by omega]
                                subst hi8
                                have hcmp8 : blocks M (m + 1) = added ss vs 8 := by
                                  rw [blocks, HYS.out, HSS.out]
                                  unfold compress
                                  rw [HWS.eq, HVS.eq]
                                have HC8 := hid hcmp8
                                clear hcmp8 h4
                                go_wp2_with fail
                                go_roundw
                                case rel =>
                                  refine ⟨m + 1, by omega, by rw [show (64 * ((m + 1 : Nat) : Int)) = 64 * (m : Int) + 64 by omega], by rw [HC8.out]; exact HVi.out, HOE.out.fr HFi.out (fun g hg (e : g = B) => by have := HMB.out g hg; omega), HKE.out.fr HFi.out (fun g hg (e : g = B) => by have := HKB.out g hg; omega), HFE.out.then_ HFi.out (fun i hi (e : i = B) => by omega)⟩
                                case measure => simp [intOf]; omega
                · have hmb' : m = b := by omega
                  subst hmb'
                  have hS : blocks M m = stateOf (xs ++ pad xs.length) := by
                    rw [show xs ++ pad xs.length = M by rw [HMP.out, HN.out]]
                    unfold stateOf
                    rw [HB64.out, Nat.mul_div_cancel_left _ (by decide)]
                  obtain ⟨sf, hsf⟩ : ∃ v, blocks M m = v := ⟨_, rfl⟩
                  have hsl := hid (blocks_length M m)
                  have hsU := hid (blocks_U M m)
                  have hcmp : decide (64 * (m : Int) < (M.length : Int)) = false := decide_eq_false (by have := HB64.out; omega)
                  have hfin : sumOf xs = big4 sf := by unfold sumOf; rw [← hS, hsf]
                  rw [hsf] at HV hsl hsU
                  have HFIN := hid hfin
                  clear hS hsf hfin
                  go_wp2_with fail
                  go_loopw [27, 28] (fun v i w' => ∃ t : Nat, t ≤ 8 ∧ i = .int .i64 t ∧ Own .u8 5 w' wr.heap.size v (big4 (sf.take t)) ∧ Fr (fun _ => False) wr w') (fun _ i _ => 8 - (intOf i).toNat)
                  case atStart => exact ⟨0, by omega, rfl, Own.nil _ _ _ _, Fr.refl _ _⟩
                  case round =>
                    obtain ⟨t, ht, rfl, ho, hf⟩ := hrel
                    have HOt := hid ho
                    have HFt := hid hf
                    clear ho hf
                    by_cases h8 : t < 8
                    · as_aux_lemma =>
                        obtain ⟨x, hx⟩ : ∃ x, at_ sf t = x := ⟨_, rfl⟩
                        have hxr := hsU.out.at_ t
                        have cx := (HV.out.fr HFt.out id).at_ t (by rw [hsl.out]; exact h8)
                        have hsn := big4_snoc sf t (by rw [hsl.out]; exact h8)
                        rw [show sf.getD t 0 = x from hx] at cx
                        rw [hx] at hxr hsn
                        have HSN := hid hsn
                        have hle : (big4 (sf.take t)).length ≤ 32 := by rw [big4_length, List.length_take]; omega
                        have hle2 := hid hle
                        have HBo := hid (Blk.lt HV.out)
                        have hBl : B < wr.heap.size := Nat.lt_of_lt_of_le (Blk.lt HV.out) HFt.out.size
                        obtain ⟨hx0, hx1⟩ := hxr
                        clear hx hsn hle
                        go_wp2_with fail
                        go_region_held3 (fun w' => w'.cell? ⟨B, t, none⟩ = some (.int .u32 x)) (first | exact cx | exact cell_a cx _ | assumption | go_keep)
                          (first | (refine step_app rfl (.tmp 265) (.tmp 289) 31 rfl 1 Tryd.underlying31 infoByte u27 (big4 (sf.take t)) (by simp [Act.eval, Act.put]) (HOt.out.fr (((Fr.refl (fun _ => False) wr).alloc _).drew) (fun _ _ h => h)) (some ⟨wr.heap.size, 0, none⟩) 4 4 (by simp [Act.eval, Act.put]) [IntKind.u8.wrap (x / 16777216), IntKind.u8.wrap (x / 65536), IntKind.u8.wrap (x / 256), IntKind.u8.wrap x] rfl (VecI.rd (show VecI .u8 5 _ _ _ from Blk.new wr 5 _)) ⟨by have := hle2.out; omega, by have := hle2.out; omega⟩ (by have := HFt.out.size; simp; omega) ?_; intro v9 w9 h9; have cx9 := (h9.out.fr.cell (p := ⟨B, t, none⟩) (show B < _ by simp; omega) (fun e => by have h1 := (HOt.out.lt _ e).1; have h2 := HBo.out; exact absurd h1 (by simp; omega))).trans (cell_a cx _)))
                        all_goals
                          go_wp2_with fail
                          go_roundw
                          case rel =>
                            refine ⟨t + 1, by omega, by go_num, ?_, h9.out.fr0 (HOt.out.fr (((Fr.refl (fun _ => False) wr).alloc _).drew) (fun _ _ h => h)) ((HFt.out.alloc _).drew) (Nat.le_refl _)⟩
                            rw [HSN.out, dig4]
                            exact h9.out.own
                          case measure => simp [intOf]; omega
                    · have ht8 : t = 8 := by omega
                      rw [show ((t : Nat) : Int) = 8 from by omega]
                      subst ht8
                      have ho := HOt.out
                      rw [List.take_of_length_le (by rw [hsl.out]; exact Nat.le_refl 8), ← HFIN.out] at ho
                      have HO9 := hid ho
                      clear ho h8
                      go_wp2_with fail
                      go_ret
                      exact ⟨_, rfl, HO9.out.mono HF.out.size, HF.out.then_ HFt.out (fun _ _ h => h)⟩
end Go.Proofs.YtcbogkpgkdijaaaDoor.ShaH
