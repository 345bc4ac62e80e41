/- Walks of layer head: a reader's next step; the first head of bytes. -/
import Derived.Test.YtgdhchknegjpfaaDoorHeadD
set_option linter.unusedVariables false
set_option linter.unusedSimpArgs false
namespace Go.Proofs.YtgdhchknegjpfaaDoor.HeadE
open Go.IntWalk Go.RowKit Go.Proofs.YtgdhchknegjpfaaDoor.Mem Go.Proofs.YtgdhchknegjpfaaDoor.Num Go.Proofs.YtgdhchknegjpfaaDoor.BitsA Go.Proofs.YtgdhchknegjpfaaDoor.BitsB Go.Proofs.YtgdhchknegjpfaaDoor.App Go.Proofs.YtgdhchknegjpfaaDoor.FloatP Go.Proofs.YtgdhchknegjpfaaDoor.FloatB Go.Proofs.YtgdhchknegjpfaaDoor.FloatG Go.Proofs.YtgdhchknegjpfaaDoor.FloatI Go.Proofs.YtgdhchknegjpfaaDoor.HeadP Go.Proofs.YtgdhchknegjpfaaDoor.HeadA Go.Proofs.YtgdhchknegjpfaaDoor.HeadB Go.Proofs.YtgdhchknegjpfaaDoor.HeadC Go.Proofs.YtgdhchknegjpfaaDoor.HeadD

theorem or_byte2 (n c : Int) (c0 : 0 ≤ c) (c1 : c ≤ 255) : Go.bits .or .u64 (IntKind.u64.wrap (n * 256)) c = (n * 256 + c) % 18446744073709551616 := by
  have h := or_byte n c c0 c1
  rw [show IntKind.u64.wrap c = c by rw [wrap_u64]; omega] at h
  exact h
set_option maxHeartbeats 1000000 in
theorem next_more (g M W A B L : Nat) (c : Int) (w : World) (c0 : 0 ≤ c) (c1 : c ≤ 255) (hB : (B : Int) = ((A : Int) * 256 + c) % 18446744073709551616) (hL : 1 < L) (hL8 : L ≤ 8) (h : RB w g M W A 0 0 0 L true 0) :
    Calls Tryd.prog 12 #[.pointer (some ⟨g, 0, none⟩), .int .u8 c] w (StepTo g w false 0 (fun w' => RB w' g M W B 0 0 0 ((L : Int) - 1) true 0)) := by
  obtain ⟨d0, d1, d2, d3, d4, d5, d6, d7, d8⟩ := h.cells
  obtain ⟨z0, z1, z2, z3, z4, z5, z6, z7, z8⟩ := h.froz
  have H := hid h
  have HO := hid ((or_byte2 (A : Int) c c0 c1).trans hB.symm)
  have l1 : 0 < (L : Int) - 1 := by omega
  have l2 : decide (0 < (L : Int) - 1) = true := decide_eq_true l1
  clear h hB
  go_enter Tryd.func12, Tryd.ntmps12
  go_wp2_with fail
  go_ret2
  refine ⟨rfl, ?_, fr9 (fr9 (Fr.refl _ w) 2 _) 6 _⟩
  rw [HO.out]
  exact Blk.set_ (Blk.set_ H.out 2 (.int .u64 B)) 6 (.int .i64 ((L : Int) - 1))
/-- The last byte. -/
def NextTo (g M W B : Nat) (w : World) (e : Ending) (w' : World) : Prop :=
  if M = 7 ∧ W = 1 ∧ B < 32 then StepTo g w false 2 (fun _ => True) e w' else StepTo g w true (if longB M W B then 5 else 0) (fun w' => RB w' g M W B M W B 0 false 0) e w'
theorem end_calls (g M W A : Nat) (w : World) (hW : W = 1 ∨ W = 2 ∨ W = 4 ∨ W = 8) (hA : A < 2 ^ 64) (hd : Dbl w) (hg : ¬ g = 1) (h : RB w g M W A 0 0 0 0 true 0) :
    Calls Tryd.prog 38 #[.pointer (some ⟨g, 0, none⟩)] w (NextTo g M W A w) := by
  unfold NextTo
  by_cases hn : M = 7 ∧ W = 1 ∧ A < 32
  · simp only [if_pos hn]
    obtain ⟨rfl, rfl, h32⟩ := hn
    exact end_bad g A 0 0 0 0 true 0 w h32 h
  · simp only [if_neg hn]
    exact end_good g M W A 0 0 0 0 true w (.inr hW) hA hn hd hg h
set_option maxHeartbeats 1000000 in
theorem next_last (g M W A B : Nat) (c : Int) (w : World) (hW : W = 1 ∨ W = 2 ∨ W = 4 ∨ W = 8) (c0 : 0 ≤ c) (c1 : c ≤ 255) (hB : (B : Int) = ((A : Int) * 256 + c) % 18446744073709551616) (hd : Dbl w) (hg : ¬ g = 1) (h : RB w g M W A 0 0 0 1 true 0) :
    Calls Tryd.prog 12 #[.pointer (some ⟨g, 0, none⟩), .int .u8 c] w (NextTo g M W B w) := by
  obtain ⟨d0, d1, d2, d3, d4, d5, d6, d7, d8⟩ := h.cells
  obtain ⟨z0, z1, z2, z3, z4, z5, z6, z7, z8⟩ := h.froz
  have hB2 : B < 2 ^ 64 := by omega
  have HO := hid ((or_byte2 (A : Int) c c0 c1).trans hB.symm)
  obtain ⟨w4, hw4⟩ : ∃ w4, (w.setCell ⟨g, 2, none⟩ (.int .u64 B)).setCell ⟨g, 6, none⟩ (.int .i64 0) = w4 := ⟨_, rfl⟩
  have h4 : RB w4 g M W B 0 0 0 0 true 0 := by rw [← hw4]; exact Blk.set_ (Blk.set_ h 2 (.int .u64 B)) 6 (.int .i64 0)
  have f4 : Fr (fun i => i = g) w w4 := by rw [← hw4]; exact fr9 (fr9 (Fr.refl _ w) 2 _) 6 _
  have HF4 := hid f4
  have HEND := hid (end_calls g M W B w4 hW hB2 (hd.fr f4 (fun e => hg e.symm)) hg h4)
  have HW4 := hid hw4
  clear h hB hB2 hd h4 f4 hw4 hW
  go_enter Tryd.func12, Tryd.ntmps12
  go_wp2_with fail
  rw [HO.out, HW4.out]
  refine HEND.out.mono ?_
  intro e w5 hn
  unfold NextTo at hn
  by_cases h7 : M = 7 ∧ W = 1 ∧ B < 32
  · rw [if_pos h7] at hn
    have H7 := hid h7
    obtain ⟨rfl, _, hf⟩ := hn
    have HF := hid (HF4.out.then_ hf (fun _ _ h => h))
    clear hf h7 d0 d1 d2 d3 d4 d5 d6 d7 d8 z0 z1 z2 z3 z4 z5 z6 z7 z8
    go_wp2_with fail
    go_ret2
    unfold NextTo
    rw [if_pos H7.out]
    exact ⟨rfl, trivial, HF.out⟩
  · rw [if_neg h7] at hn
    have H7 := hid h7
    obtain ⟨rfl, hr, hf⟩ := hn
    have HR := hid hr
    have HF := hid (HF4.out.then_ hf (fun _ _ h => h))
    clear hf hr h7 d0 d1 d2 d3 d4 d5 d6 d7 d8 z0 z1 z2 z3 z4 z5 z6 z7 z8
    obtain ⟨er, her⟩ : ∃ er : Int, (if longB M W B = true then (5 : Int) else 0) = er := ⟨_, rfl⟩
    rw [her]
    have HER := hid her
    clear her
    go_wp2_with fail
    go_ret2
    unfold NextTo
    rw [if_neg H7.out, HER.out]
    exact ⟨rfl, HR.out, HF.out⟩

theorem results3 {fn : Func} {p u v : Tmp} {ty : TypeId} (h : fn.results = #[.cell p ty, .tmp u, .tmp v]) (tmps : Array Value) (P : Program) (w : World) :
    (results fn tmps).run P w =
      ((asAddr (tmps.getD p undef)).run P w).andThen fun a w₁ => ((loadVar ty a).run P w₁).andThen fun x w₂ => .ok (.tuple #[x, tmps.getD u undef, tmps.getD v undef]) w₂ := by
  simp only [results, h]
  simp [Sem.run_bind, Result.andThen]
theorem load_hd {w : World} {b : Nat} {x y z : Int} (h : Blk w b 29 #[.int .i64 x, .int .i64 y, .int .u64 z]) : Sem.run Tryd.prog (loadCells { block := b, off := 0 } 3) w = .ok #[.int .i64 x, .int .i64 y, .int .u64 z] w :=
  run_loadCells_list _ _ [.int .i64 x, .int .i64 y, .int .u64 z] (fun j v hj => by
    have hb := Blk.cell h j
    rw [add_plain]
    simp only [Nat.zero_add]
    rw [hb]
    simpa using hj)
/-- What First tells. -/
def FirstTo (xs : List Int) (w : World) (e : Ending) (w' : World) : Prop := e = .returned (.tuple #[hd (firstH xs).M (firstH xs).W (firstH xs).A, .int .i64 (firstH xs).at_, .int .i64 (firstH xs).f]) ∧ Fr (fun _ => False) w w'
theorem val_win_succ (xs : List Int) (k : Nat) : val (win xs 1 (k + 1)) = (val (win xs 1 k) * 256 + xs.getD (1 + k) 0) % 18446744073709551616 := by rw [win_succ, val_snoc]
theorem arg_lt (xs : List Int) (W : Nat) : arg xs W < 2 ^ 64 := by have := val_range (win xs 1 W); unfold arg; omega
theorem arg_val (xs : List Int) (W : Nat) : ((arg xs W : Nat) : Int) = val (win xs 1 W) := by have := val_range (win xs 1 W); unfold arg; omega
theorem arg_succ (xs : List Int) (k : Nat) : ((arg xs (k + 1) : Nat) : Int) = ((arg xs k : Nat) * 256 + xs.getD (k + 1) 0) % 18446744073709551616 := by rw [arg_val, arg_val, val_win_succ, Nat.add_comm 1 k]
theorem store3 {w : World} {b : Nat} {t : TypeId} {a0 a1 a2 : Value} (h : Blk w b t #[a0, a1, a2]) (x y z : Value) : Blk (((w.setCell ⟨b, 0, none⟩ x).setCell ⟨b, 1, none⟩ y).setCell ⟨b, 2, none⟩ z) b t #[x, y, z] := by
  have := Blk.set_ (Blk.set_ (Blk.set_ h 0 x) 1 y) 2 z
  simpa using this
theorem fr3 {w w' : World} {b : Nat} (h : Fr (fun _ => False) w w') (hb : w.heap.size ≤ b) (x y z : Value) : Fr (fun _ => False) w (((w'.setCell ⟨b, 0, none⟩ x).setCell ⟨b, 1, none⟩ y).setCell ⟨b, 2, none⟩ z) :=
  ((h.setCell (p := ⟨b, 0, none⟩) (.inr hb) x).setCell (p := ⟨b, 1, none⟩) (.inr hb) y).setCell (p := ⟨b, 2, none⟩) (.inr hb) z
theorem cells3 {w : World} {b : Nat} {t : TypeId} {a0 a1 a2 : Value} (h : Blk w b t #[a0, a1, a2]) : w.cell? ⟨b, 0, none⟩ = some a0 ∧ w.cell? ⟨b, 1, none⟩ = some a1 ∧ w.cell? ⟨b, 2, none⟩ = some a2 ∧ w.frozen? ⟨b, 0, none⟩ = false ∧ w.frozen? ⟨b, 1, none⟩ = false ∧ w.frozen? ⟨b, 2, none⟩ = false :=
  ⟨Blk.cell h 0, Blk.cell h 1, Blk.cell h 2, Blk.frozen h 0, Blk.frozen h 1, Blk.frozen h 2⟩
/-- How the reader stands behind k bytes. -/
def StAt (xs : List Int) (M I : Nat) (g k : Nat) (w : World) : Prop :=
  if k = 0 then RB w g 0 0 0 0 0 0 0 false 0 else 24 ≤ I ∧ I ≤ 27 ∧ k ≤ begW I ∧ RB w g M (begW I) (arg xs (k - 1)) 0 0 0 ((begW I : Int) - ((k : Int) - 1)) true 0
set_option maxRecDepth 100000 in
set_option maxHeartbeats 2000000 in
theorem first_calls (A : Option Addr) (n cap : Nat) (xs : List Int) (w : World) (hd : Dbl w) (hn : xs.length = n) (hr : RdI .u8 w A xs) (hb : Bytes xs) (hl : n ≤ 140737488355328) :
    Calls Tryd.prog 15 #[.slice A n cap] w (FirstTo xs w) := by
  have HD := hid hd
  have HN := hid hn
  have HR := hid hr
  have HB := hid hb
  have hdl := hd.lt
  clear hd hn hr hb
  go_enter Tryd.func15, Tryd.ntmps15
  go_wp2_with fail
  obtain ⟨b, hb⟩ : ∃ b, w.heap.size = b := ⟨_, rfl⟩
  have hZ : RB ((w.alloc (.cells #[.int .i64 0, .int .i64 0, .int .u64 0] 29)).alloc (.cells #[.int .i64 0, .int .i64 0, .int .u64 0, .int .i64 0, .int .i64 0, .int .u64 0, .int .i64 0, .bool false, .int .i64 0] 63)) (b + 1) 0 0 0 0 0 0 0 false 0 := by
    have h := Blk.new (w.alloc (.cells #[.int .i64 0, .int .i64 0, .int .u64 0] 29)) 63 (rcells 0 0 0 0 0 0 0 false 0)
    rw [World.size_alloc, hb] at h
    exact h
  have hH : Blk ((w.alloc (.cells #[.int .i64 0, .int .i64 0, .int .u64 0] 29)).alloc (.cells #[.int .i64 0, .int .i64 0, .int .u64 0, .int .i64 0, .int .i64 0, .int .u64 0, .int .i64 0, .bool false, .int .i64 0] 63)) b 29 #[.int .i64 0, .int .i64 0, .int .u64 0] := by
    rw [← hb]
    exact Blk.alloc (Blk.new w 29 _) _
  have HZ := hid hZ
  have HH := hid hH
  have HBB := hid hb
  have hbw : w.heap.size ≤ b := by omega
  obtain ⟨M, hM⟩ : ∃ M, (xs.getD 0 0).toNat / 32 = M := ⟨_, rfl⟩
  obtain ⟨I, hI⟩ : ∃ I, (xs.getD 0 0).toNat % 32 = I := ⟨_, rfl⟩
  have hI32 : I < 32 := by omega
  have hM8 : M < 8 := by have := HB.out.get 0; omega
  have HC := hid (show xs.getD 0 0 = 32 * (M : Int) + (I : Int) by have := HB.out.get 0; omega)
  have HMI := hid (And.intro hM hI)
  clear hZ hH hM hI
  rw [hb]
  clear hb
  go_loopw [12] (fun i w' => ∃ k : Nat, k ≤ n ∧ i = .int .i64 k ∧ Blk w' b 29 #[.int .i64 0, .int .i64 0, .int .u64 0] ∧ StAt xs M I (b + 1) k w' ∧ Fr (fun _ => False) w w') (fun i _ => n - (intOf i).toNat)
  case atStart => exact ⟨0, by omega, rfl, HH.out, HZ.out, ((Fr.refl _ _).alloc _).alloc _⟩
  case round =>
    clear HZ HH
    obtain ⟨k, hk, rfl, hh, hs, hf⟩ := hrel
    have HH := hid hh
    have HS := hid hs
    have HF := hid hf
    have hDr := hid (HD.out.fr0 hf)
    have hgd : ¬ b + 1 = 1 := by omega
    clear hh hs hf
    by_cases hkn : k < n
    · obtain ⟨ad, rfl, _, hcell⟩ := (HR.out.fr0 HF.out) k (by rw [HN.out]; exact hkn)
      obtain ⟨ck, hck⟩ : ∃ ck, xs.getD k 0 = ck := ⟨_, rfl⟩
      have hcr := HB.out.get k
      rw [hck] at hcell hcr
      obtain ⟨c0, c1⟩ := hcr
      have HCK := hid hck
      clear hck
      by_cases hk0 : k = 0
      · subst hk0
        have hs := HS.out
        unfold StAt at hs
        rw [if_pos rfl] at hs
        have HSZ := hid hs
        have HC0 := hid (show ck = 32 * (M : Int) + (I : Int) by rw [← HCK.out]; exact HC.out)
        obtain ⟨ys, hys⟩ : ∃ ys, xs = xs.getD 0 0 :: ys := by
          cases xs with
          | nil => exact absurd HN.out (by simp; omega)
          | cons y ys => exact ⟨ys, rfl⟩
        have HYS := hid hys
        rw [show ad.add 0 = ad by simp [Addr.add]] at hcell
        rw [show ((0 : Nat) : Int) = 0 from rfl]
        clear hs hys
        by_cases h28 : 28 ≤ I
        · have hE : (begE M I : Int) = 5 ∨ (begE M I : Int) = 2 := by
            unfold begE
            rw [if_pos h28]
            split
            · exact .inl rfl
            · exact .inr rfl
          have HFH := hid (show firstH xs = ⟨0, 0, 0, 0, 0, begE M I⟩ by rw [HYS.out, firstH_err _ _ (by rw [HMI.out.2]; exact h28), HMI.out.1, HMI.out.2])
          have HST := hid (step_err (b + 1) M I ck wr HC0.out hM8 hI32 h28 HSZ.out)
          obtain ⟨E, hEe⟩ : ∃ E : Int, (begE M I : Int) = E := ⟨_, rfl⟩
          rw [hEe] at hE HST
          have HEE := hid hEe
          have e0 : (E != 0) = true := by rw [bne_iff_ne]; omega
          have e1 : (E == 0) = false := by rw [beq_eq_false_iff_ne]; omega
          clear hE hEe h28
          go_wp2_with fail
          refine HST.out.mono ?_
          rintro e w5 ⟨rfl, _, hf⟩
          have HF5 := hid (HF.out.then_ hf (fun i hi e => by have e : i = b + 1 := e; omega))
          have HH5 := hid (HH.out.fr hf (by omega))
          clear hf
          obtain ⟨y0, y1, y2, v0, v1, v2⟩ := cells3 HH5.out
          go_wp2_with fail
          refine bodyPost_ret (v := .tuple #[hd 0 0 0, .int .i64 0, .int .i64 E]) ?_ rfl ?_
          · rw [results3 rfl]
            simp [Result.andThen, asAddr, loadVar, load_hd (store3 HH5.out (.int .i64 0) (.int .i64 0) (.int .u64 0))]
          · refine ⟨?_, fr3 HF5.out hbw _ _ _⟩
            rw [HFH.out, HEE.out]
            rfl
        · by_cases h24 : 24 ≤ I
          · have HST := hid (step_wide (b + 1) M I ck wr HC0.out hM8 hI32 h24 (by omega) HSZ.out)
            have hwp : 0 < begW I := by have := begW_cases h24 (by omega); omega
            have h27 : I ≤ 27 := by omega
            clear h28
            go_wp2_with fail
            refine HST.out.mono ?_
            rintro e w5 ⟨rfl, hr5, hf⟩
            have HF5 := hid (HF.out.then_ hf (fun i hi e => by have e : i = b + 1 := e; omega))
            have HH5 := hid (HH.out.fr hf (by omega))
            have HR5 := hid hr5
            clear hf hr5
            go_wp2_with fail
            go_roundw
            case rel =>
              refine ⟨1, by omega, by first | rfl | go_num, HH5.out, ?_, HF5.out⟩
              unfold StAt
              rw [if_neg (by omega)]
              refine ⟨h24, by omega, by omega, ?_⟩
              have e1 : (arg xs (1 - 1) : Int) = 0 := rfl
              have e2 : ((begW I : Int) - (((1 : Nat) : Int) - 1)) = begW I := by omega
              rw [e1, e2]
              exact HR5.out
            case measure => simp [intOf]; omega
          · have HFH := hid (show firstH xs = ⟨M, 0, I, 0, 1, 0⟩ by rw [HYS.out, firstH_low _ _ (by rw [HMI.out.2]; omega), HMI.out.1, HMI.out.2])
            have HST := hid (step_low (b + 1) M I ck wr HC0.out hM8 hI32 (by omega) hDr.out hgd HSZ.out)
            clear h28 h24
            go_wp2_with fail
            refine HST.out.mono ?_
            rintro e w5 ⟨rfl, hr5, hf⟩
            have HF5 := hid (HF.out.then_ hf (fun i hi e => by have e : i = b + 1 := e; omega))
            have HH5 := hid (HH.out.fr hf (by omega))
            have HR5 := hid hr5
            clear hf hr5
            go_wp2_with fail
            refine (head_calls (b + 1) _ _ _ _ _ _ _ _ _ _ HR5.out).mono ?_
            rintro e w6 ⟨rfl, hf⟩
            have HF6 := hid (HF5.out.then_ hf (fun _ _ h => h))
            have HH6 := hid (HH5.out.fr hf id)
            clear hf
            obtain ⟨y0, y1, y2, v0, v1, v2⟩ := cells3 HH6.out
            go_wp2_with fail
            refine bodyPost_ret (v := .tuple #[hd M 0 I, .int .i64 1, .int .i64 0]) ?_ rfl ?_
            · rw [results3 rfl]
              simp [Result.andThen, asAddr, loadVar, load_hd (store3 HH6.out (.int .i64 M) (.int .i64 0) (.int .u64 I))]
            · refine ⟨?_, fr3 HF6.out hbw _ _ _⟩
              rw [HFH.out]
              rfl
      · have hs := HS.out
        unfold StAt at hs
        rw [if_neg hk0] at hs
        obtain ⟨h24, h27, hkW, hr⟩ := hs
        have hWc := begW_cases h24 h27
        have HWI := hid (show WideIs xs M (begW I) by
          refine ⟨?_⟩
          cases hx : xs with
          | nil => exact absurd HN.out (by rw [hx]; simp; omega)
          | cons y ys =>
            have h1 := HMI.out
            rw [hx] at h1
            simp only [List.getD_cons_zero] at h1
            rw [readR_wide y ys (by rw [h1.2]; exact h24) (by rw [h1.2]; exact h27), h1.1, h1.2])
        obtain ⟨W, hW⟩ : ∃ W, begW I = W := ⟨_, rfl⟩
        rw [hW] at hkW hr hWc HWI
        have HWE := hid hW
        have HRR := hid hr
        have hB := arg_succ xs (k - 1)
        rw [show k - 1 + 1 = k by omega, HCK.out] at hB
        have HBE := hid hB
        clear hr hW hB
        by_cases hlast : k < W
        · obtain ⟨L, hL⟩ : ∃ L, W - (k - 1) = L := ⟨_, rfl⟩
          have hL1 : 1 < L := by omega
          have hL8 : L ≤ 8 := by omega
          have hRL := HRR.out
          rw [show ((W : Int) - ((k : Int) - 1)) = (L : Int) by omega] at hRL
          have HST := hid (next_more (b + 1) M W (arg xs (k - 1)) (arg xs k) L ck wr c0 c1 HBE.out hL1 hL8 hRL)
          clear hRL
          have HLL := hid hL
          clear hL
          go_wp2_with fail
          refine HST.out.mono ?_
          rintro e w5 ⟨rfl, hr5, hf⟩
          have HF5 := hid (HF.out.then_ hf (fun i hi e => by have e : i = b + 1 := e; omega))
          have HH5 := hid (HH.out.fr hf (by omega))
          have HR5 := hid hr5
          clear hf hr5
          go_wp2_with fail
          go_roundw
          case rel =>
            refine ⟨k + 1, by omega, by first | rfl | go_num, HH5.out, ?_, HF5.out⟩
            unfold StAt
            rw [if_neg (by omega), HWE.out]
            refine ⟨h24, h27, by omega, ?_⟩
            have e2 : ((W : Int) - (((k + 1 : Nat) : Int) - 1)) = (L : Int) - 1 := by have := HLL.out; omega
            rw [e2]
            exact HR5.out
          case measure => simp [intOf]; omega
        · have hkW2 : k = W := by omega
          subst hkW2
          have hRL := HRR.out
          rw [show ((k : Int) - ((k : Int) - 1)) = 1 by omega] at hRL
          have HST := hid (next_last (b + 1) M k (arg xs (k - 1)) (arg xs k) ck wr hWc c0 c1 HBE.out hDr.out hgd hRL)
          obtain ⟨B, hB⟩ : ∃ B, arg xs k = B := ⟨_, rfl⟩
          have HBB2 := hid hB
          rw [hB] at HST
          clear hRL hB hlast
          go_wp2_with fail
          refine HST.out.mono ?_
          intro e w5 hnx
          unfold NextTo at hnx
          by_cases h7 : M = 7 ∧ k = 1 ∧ B < 32
          · rw [if_pos h7] at hnx
            obtain ⟨rfl, _, hf⟩ := hnx
            have HFH := hid (HWI.out.bad (by rw [HN.out]; omega) (by rw [HBB2.out]; exact h7))
            have HK1 := hid h7.2.1
            clear h7
            have HF5 := hid (HF.out.then_ hf (fun i hi e => by have e : i = b + 1 := e; omega))
            have HH5 := hid (HH.out.fr hf (by omega))
            clear hf
            obtain ⟨y0, y1, y2, v0, v1, v2⟩ := cells3 HH5.out
            go_wp2_with fail
            refine bodyPost_ret (v := .tuple #[hd 0 0 0, .int .i64 k, .int .i64 2]) ?_ rfl ?_
            · rw [results3 rfl]
              simp [Result.andThen, asAddr, loadVar, load_hd (store3 HH5.out (.int .i64 0) (.int .i64 0) (.int .u64 0))]
            · refine ⟨?_, fr3 HF5.out hbw _ _ _⟩
              rw [HFH.out, HK1.out]
              rfl
          · rw [if_neg h7] at hnx
            have H7 := hid h7
            clear h7
            cases hL : longB M k B
            · rw [hL] at hnx
              obtain ⟨rfl, hr5, hf⟩ := hnx
              have HFH := hid (HWI.out.good (by rw [HN.out]; omega) (by rw [HBB2.out]; exact H7.out) (by rw [HBB2.out]; exact hL))
              rw [HBB2.out] at HFH
              clear hL
              have HF5 := hid (HF.out.then_ hf (fun i hi e => by have e : i = b + 1 := e; omega))
              have HH5 := hid (HH.out.fr hf (by omega))
              have HR5 := hid hr5
              clear hf hr5
              go_wp2_with fail
              refine (head_calls (b + 1) _ _ _ _ _ _ _ _ _ _ HR5.out).mono ?_
              rintro e w6 ⟨rfl, hf⟩
              have HF6 := hid (HF5.out.then_ hf (fun _ _ h => h))
              have HH6 := hid (HH5.out.fr hf id)
              clear hf
              obtain ⟨y0, y1, y2, v0, v1, v2⟩ := cells3 HH6.out
              go_wp2_with fail
              refine bodyPost_ret (v := .tuple #[hd M k B, .int .i64 ((k : Int) + 1), .int .i64 0]) ?_ rfl ?_
              · rw [results3 rfl]
                simp [Result.andThen, asAddr, loadVar, load_hd (store3 HH6.out (.int .i64 M) (.int .i64 k) (.int .u64 B))]
              · refine ⟨?_, fr3 HF6.out hbw _ _ _⟩
                rw [HFH.out, show (((1 + k : Nat) : Int)) = (k : Int) + 1 by omega]
                rfl
            · rw [hL] at hnx
              obtain ⟨rfl, _, hf⟩ := hnx
              have HFH := hid (HWI.out.long (by rw [HN.out]; omega) (by rw [HBB2.out]; exact H7.out) (by rw [HBB2.out]; exact hL))
              clear hL
              have HF5 := hid (HF.out.then_ hf (fun i hi e => by have e : i = b + 1 := e; omega))
              have HH5 := hid (HH.out.fr hf (by omega))
              clear hf
              obtain ⟨y0, y1, y2, v0, v1, v2⟩ := cells3 HH5.out
              go_wp2_with fail
              refine bodyPost_ret (v := .tuple #[hd 0 0 0, .int .i64 k, .int .i64 5]) ?_ rfl ?_
              · rw [results3 rfl]
                simp [Result.andThen, asAddr, loadVar, load_hd (store3 HH5.out (.int .i64 0) (.int .i64 0) (.int .u64 0))]
              · refine ⟨?_, fr3 HF5.out hbw _ _ _⟩
                rw [HFH.out]
                rfl
    · have hkn2 : k = n := by omega
      have HFH := hid (show firstH xs = ⟨0, 0, 0, 0, n, 9⟩ by
        by_cases hn0 : n = 0
        · have hx : xs = [] := List.eq_nil_of_length_eq_zero (by rw [HN.out]; exact hn0)
          rw [hx, hn0]
          rfl
        · have hs := HS.out
          unfold StAt at hs
          rw [if_neg (by omega)] at hs
          obtain ⟨h24, h27, hkW, hr⟩ := hs
          have hw : WideIs xs M (begW I) := by
            refine ⟨?_⟩
            cases hx : xs with
            | nil => exact absurd HN.out (by rw [hx]; simp; omega)
            | cons y ys =>
              have h1 := HMI.out
              rw [hx] at h1
              simp only [List.getD_cons_zero] at h1
              rw [readR_wide y ys (by rw [h1.2]; exact h24) (by rw [h1.2]; exact h27), h1.1, h1.2]
          rw [hw.short (by rw [HN.out]; omega), HN.out])
      clear HS
      have hdk : decide ((k : Int) < (n : Int)) = false := decide_eq_false (by omega)
      obtain ⟨y0, y1, y2, v0, v1, v2⟩ := cells3 HH.out
      go_wp2_with fail
      refine bodyPost_ret (v := .tuple #[hd 0 0 0, .int .i64 n, .int .i64 9]) ?_ rfl ?_
      · rw [results3 rfl]
        simp [Result.andThen, asAddr, loadVar, load_hd (store3 HH.out (.int .i64 0) (.int .i64 0) (.int .u64 0))]
      · refine ⟨?_, fr3 HF.out hbw _ _ _⟩
        rw [HFH.out]
        rfl
end Go.Proofs.YtgdhchknegjpfaaDoor.HeadE
