/- Walks of layer blake: a digest's methods. -/
import Derived.Test.YtcbogkpgkdijaaaDoorBlaC
set_option linter.unusedVariables false
set_option linter.unusedSimpArgs false
namespace Go.Proofs.YtcbogkpgkdijaaaDoor.BlaD
open Go.IntWalk Go.RowKit Go.Proofs.YtcbogkpgkdijaaaDoor.Mem Go.Proofs.YtcbogkpgkdijaaaDoor.Num Go.Proofs.YtcbogkpgkdijaaaDoor.BitsA Go.Proofs.YtcbogkpgkdijaaaDoor.BitsB Go.Proofs.YtcbogkpgkdijaaaDoor.App Go.Proofs.YtcbogkpgkdijaaaDoor.BlaP Go.Proofs.YtcbogkpgkdijaaaDoor.BlaB Go.Proofs.YtcbogkpgkdijaaaDoor.BlaA Go.Proofs.YtcbogkpgkdijaaaDoor.BlaC

theorem iv_cells {w : World} {g : Nat} (h : RdI .u64 w (some ⟨g, 0, none⟩) iv) :
    w.cell? ⟨g, 0, none⟩ = some (.int .u64 7640891576956012808) ∧ w.cell? ⟨g, 1, none⟩ = some (.int .u64 13503953896175478587) ∧ w.cell? ⟨g, 2, none⟩ = some (.int .u64 4354685564936845355) ∧ w.cell? ⟨g, 3, none⟩ = some (.int .u64 11912009170470909681) ∧
    w.cell? ⟨g, 4, none⟩ = some (.int .u64 5840696475078001361) ∧ w.cell? ⟨g, 5, none⟩ = some (.int .u64 11170449401992604703) ∧ w.cell? ⟨g, 6, none⟩ = some (.int .u64 2270897969802886507) ∧ w.cell? ⟨g, 7, none⟩ = some (.int .u64 6620516959819538809) :=
  ⟨rd_cell h 0 (by decide), rd_cell h 1 (by decide), rd_cell h 2 (by decide), rd_cell h 3 (by decide), rd_cell h 4 (by decide), rd_cell h 5 (by decide), rd_cell h 6 (by decide), rd_cell h 7 (by decide)⟩
theorem froz8 {t : TypeId} {w : World} {g : Nat} {cs : Array Value} (h : Blk w g t cs) :
    w.frozen? ⟨g, 0, none⟩ = false ∧ w.frozen? ⟨g, 1, none⟩ = false ∧ w.frozen? ⟨g, 2, none⟩ = false ∧ w.frozen? ⟨g, 3, none⟩ = false ∧ w.frozen? ⟨g, 4, none⟩ = false ∧ w.frozen? ⟨g, 5, none⟩ = false ∧ w.frozen? ⟨g, 6, none⟩ = false ∧ w.frozen? ⟨g, 7, none⟩ = false :=
  ⟨h.frozen 0, h.frozen 1, h.frozen 2, h.frozen 3, h.frozen 4, h.frozen 5, h.frozen 6, h.frozen 7⟩
theorem fr8 (w : World) (g : Nat) (x0 x1 x2 x3 x4 x5 x6 x7 : Value) :
    Fr (fun i => i = g) w ((((((((w.setCell ⟨g, 0, none⟩ x0).setCell ⟨g, 1, none⟩ x1).setCell ⟨g, 2, none⟩ x2).setCell ⟨g, 3, none⟩ x3).setCell ⟨g, 4, none⟩ x4).setCell ⟨g, 5, none⟩ x5).setCell ⟨g, 6, none⟩ x6).setCell ⟨g, 7, none⟩ x7) :=
  ((((((((Fr.refl (fun i => i = g) w).set1 0 x0).set1 1 x1).set1 2 x2).set1 3 x3).set1 4 x4).set1 5 x5).set1 6 x6).set1 7 x7

theorem begin_on (g : Nat) (st bl : List Int) (op : Nat) (mn : Int) (w : World) (h8 : st.length = 8) (hb : bl.length = 128) (h : DBlk w g st bl op mn true) :
    Calls Tryd.prog 51 #[.pointer (some ⟨g, 0, none⟩)] w fun e w' => e = .returned (.tuple #[]) ∧ w = w' := by
  have c2 := (h.tail h8 hb).2.2
  clear h h8 hb
  go_enter Tryd.func51, Tryd.ntmps51
  go_wp2
  go_end0
  exact ⟨rfl, rfl⟩
theorem begin_off (g : Nat) (st bl : List Int) (op : Nat) (mn : Int) (w : World) (h8 : st.length = 8) (hb : bl.length = 128) (ht : Tabs w) (hg : ¬ g = 3) (h : DBlk w g st bl op mn false) :
    Calls Tryd.prog 51 #[.pointer (some ⟨g, 0, none⟩)] w fun e w' => e = .returned (.tuple #[]) ∧ DBlk w' g first8 bl op mn true ∧ Fr (fun i => i = g) w w' := by
  have c2 := (h.tail h8 hb).2.2
  have HD := hid h
  have H8 := hid h8
  have HB := hid hb
  obtain ⟨a0, a1, a2, a3, a4, a5, a6, a7, hs⟩ := eight8 h8
  obtain ⟨d0, d1, d2, d3, d4, d5, d6, d7⟩ := h.eight hs
  obtain ⟨f0, f1, f2, f3, f4, f5, f6, f7⟩ := iv_cells ht.v
  obtain ⟨z0, z1, z2, z3, z4, z5, z6, z7⟩ := froz8 h
  have z74 := Blk.frozen h 138
  clear h h8 hb ht hs
  go_enter Tryd.func51, Tryd.ntmps51
  go_wp2
  obtain ⟨w2, hw2⟩ : ∃ w2, ((((((((((w.setCell ⟨g, 138, none⟩ (.bool true)).setCell ⟨g, 0, none⟩ (.int .u64 7640891576956012808)).setCell ⟨g, 1, none⟩ (.int .u64 13503953896175478587)).setCell ⟨g, 2, none⟩ (.int .u64 4354685564936845355)).setCell ⟨g, 3, none⟩ (.int .u64 11912009170470909681)).setCell ⟨g, 4, none⟩ (.int .u64 5840696475078001361)).setCell ⟨g, 5, none⟩ (.int .u64 11170449401992604703)).setCell ⟨g, 6, none⟩ (.int .u64 2270897969802886507)).setCell ⟨g, 7, none⟩ (.int .u64 6620516959819538809))) = w2 := ⟨_, rfl⟩
  have h2 : DBlk w2 g iv bl op mn true := by rw [← hw2]; exact (HD.out.setBg H8.out HB.out true).setSt H8.out _ _ _ _ _ _ _ _
  have fr2 : Fr (fun i => i = g) w w2 := by rw [← hw2]; exact ((Fr.refl _ w).set1 138 _).then_ (fr8 _ g _ _ _ _ _ _ _ _) (fun _ _ h => h)
  rw [hw2]
  clear hw2 d0 d1 d2 d3 d4 d5 d6 d7 f0 f1 f2 f3 f4 f5 f6 f7 z0 z1 z2 z3 z4 z5 z6 z7 z74 c2
  have c0 : w2.cell? ⟨g, 0, none⟩ = some (.int .u64 7640891576956012808) := h2.st_at rfl 0 (by decide)
  have z0 := Blk.frozen h2 0
  have H2 := hid h2
  have F2 := hid fr2
  clear h2 fr2
  go_region
  go_end0
  refine ⟨rfl, ?_, (F2.out.set1 _ _).drew⟩
  exact Blk.drew (DBlk.setSt1 H2.out rfl 0 (by decide) (X 7640891576956012808 16842784))
theorem len_nil (w : World) : Calls Tryd.prog 31 #[.pointer none] w fun e w' => e = .returned (.int .u64 0) ∧ w = w' := by
  go_enter Tryd.func31, Tryd.ntmps31
  go_wp2
  go_ret
  exact ⟨rfl, rfl⟩
theorem len_calls (g : Nat) (st bl : List Int) (op : Nat) (mn : Int) (bg : Bool) (w : World) (h8 : st.length = 8) (hb : bl.length = 128) (h : DBlk w g st bl op mn bg) :
    Calls Tryd.prog 31 #[.pointer (some ⟨g, 0, none⟩)] w fun e w' => e = .returned (.int .u64 mn) ∧ w = w' := by
  have c1 := (h.tail h8 hb).2.1
  clear h h8 hb
  go_enter Tryd.func31, Tryd.ntmps31
  go_wp2
  go_ret
  exact ⟨rfl, rfl⟩
/-- A digest that has begun, and was handed xs. -/
def DOn (w : World) (g : Nat) (xs : List Int) : Prop := ∃ st bl op nb, DBlk w g st bl op xs.length true ∧ Rep xs st bl op nb ∧ (op = 0 → nb = 0)
def DAt (w : World) (g : Nat) (xs : List Int) : Prop := DOn w g xs ∨ (xs = [] ∧ ∃ st bl, DBlk w g st bl 0 0 false ∧ st.length = 8 ∧ bl.length = 128 ∧ Bytes bl)
theorem DOn.fr {w w' : World} {g : Nat} {xs : List Int} {S : Nat → Prop} (h : DOn w g xs) (hf : Fr S w w') (hg : ¬ S g) : DOn w' g xs := by
  obtain ⟨st, bl, op, nb, h, hr⟩ := h
  exact ⟨st, bl, op, nb, h.fr hf hg, hr⟩
theorem DAt.fr {w w' : World} {g : Nat} {xs : List Int} {S : Nat → Prop} (h : DAt w g xs) (hf : Fr S w w') (hg : ¬ S g) : DAt w' g xs := by
  rcases h with h | ⟨h0, st, bl, h, hr⟩
  · exact .inl (h.fr hf hg)
  · exact .inr ⟨h0, st, bl, h.fr hf hg, hr⟩
theorem DOn.lt {w : World} {g : Nat} {xs : List Int} (h : DOn w g xs) : g < w.heap.size := by obtain ⟨st, bl, op, nb, h, hr⟩ := h; exact Blk.lt h
theorem DAt.lt {w : World} {g : Nat} {xs : List Int} (h : DAt w g xs) : g < w.heap.size := by
  rcases h with h | ⟨h0, st, bl, h, hr⟩
  · exact h.lt
  · exact Blk.lt h

theorem begin_calls (g : Nat) (xs : List Int) (w : World) (ht : Tabs w) (hg : ¬ g = 3) (h : DAt w g xs) :
    Calls Tryd.prog 51 #[.pointer (some ⟨g, 0, none⟩)] w fun e w' => e = .returned (.tuple #[]) ∧ DOn w' g xs ∧ Fr (fun i => i = g) w w' := by
  rcases h with ⟨st, bl, op, nb, h, hr, h0⟩ | ⟨rfl, st, bl, h, h8, hb, hbb⟩
  · refine (begin_on g st bl op xs.length w hr.len8 hr.len h).mono ?_
    rintro e w' ⟨rfl, rfl⟩
    exact ⟨rfl, ⟨st, bl, op, nb, h, hr, h0⟩, Fr.refl _ _⟩
  · refine (begin_off g st bl 0 0 w h8 hb ht hg h).mono ?_
    rintro e w' ⟨rfl, hd, hf⟩
    exact ⟨rfl, ⟨_, bl, 0, 0, hd, Rep.zero bl hb hbb, fun _ => rfl⟩, hf⟩

theorem slice_from (g op d : Nat) (hd : op + d = 128) (h0 : 0 < d) (W : World) :
    (Instr.sliceAt 50 (.pointer (some ⟨g, 8, none⟩)) (some (.int .i64 op)) none none).run Tryd.prog W = .ok (.slice (some ⟨g, 8 + op, none⟩) d d) W := by
  have hl : Tryd.prog.arrayLen 50 = 128 := by kernel_rfl
  have hs : (sizeOf (Tryd.prog.elem 50)).run Tryd.prog W = .ok 1 W := by kernel_rfl
  have hu : Tryd.prog.underlying 50 = some (.array (Tryd.prog.arrayLen 50) (Tryd.prog.elem 50)) := by kernel_rfl
  rw [run_sliceAt_array_l W _ _ hu .i64 (op : Int) (by omega) (by rw [hl]; omega), hs, hl]
  simp only [Result.andThen_ok, slicedAt, Int.toNat_natCast, Nat.mul_one, add_plain]
  rw [if_neg (by omega), show 128 - op = d from by omega]
theorem bytes_take {xs : List Int} (h : Bytes xs) (n : Nat) : Bytes (xs.take n) := fun c hc => h c (List.mem_of_mem_take hc)
theorem rd_end {k : IntKind} (w : World) (A : Option Addr) {xs : List Int} (h : xs.length = 0) : RdI k w A xs := fun i hi => by omega
theorem map_ne {A : Option Addr} {g : Nat} (h : ∀ ad, A = some ad → ¬ ad.block = g) (d : Nat) : ∀ ad, (A.map fun x => x.add d) = some ad → ¬ ad.block = g := by
  intro ad hd
  cases A with
  | none => cases hd
  | some a =>
    injection hd with hd
    rw [← hd, block_of_add]
    exact h a rfl
theorem write_nil (A : Option Addr) (n c : Nat) (w : World) :
    Calls Tryd.prog 29 #[.pointer none, .slice A n c] w fun e w' => e = .returned (.tuple #[]) ∧ w = w' := by
  go_enter Tryd.func29, Tryd.ntmps29
  go_wp2
  exact bodyPost_ret (results_none rfl _ _ _) rfl ⟨rfl, rfl⟩


set_option maxRecDepth 100000 in
set_option maxHeartbeats 4000000 in
theorem write_any (g : Nat) (xs ys : List Int) (A : Option Addr) (n c : Nat) (w : World) (ht : Tabs w) (hg1 : ¬ g = 3) (hg2 : ¬ g = 4) (h : DAt w g xs) (hn : ys.length = n) (hr : RdI .u8 w A ys) (hb : Bytes ys) (hA : 0 < n → ∀ ad, A = some ad → ¬ ad.block = g) (hl : xs.length + n ≤ 1000000000) (hc : n ≤ c) :
    Calls Tryd.prog 29 #[.pointer (some ⟨g, 0, none⟩), .slice A n c] w fun e w' => e = .returned (.tuple #[]) ∧ DOn w' g (xs ++ ys) ∧ Fr (fun i => i = g) w w' := by
  have HT := hid ht
  have HD := hid h
  have HR := hid hr
  have HB := hid hb
  have HA := hid hA
  have HN := hid hn
  clear ht h hr hb hA hn
  go_enter Tryd.func29, Tryd.ntmps29
  go_wp2_with fail
  refine (begin_calls g xs w HT.out hg1 HD.out).mono ?_
  rintro e w1 ⟨rfl, ⟨st, bl, op, nb, hd, hrep, h0⟩, hf⟩
  have HF := hid hf
  have HDB := hid hd
  have HRP := hid hrep
  have H0 := hid h0
  have HRY := hid (show n = 0 ∨ RdI .u8 w1 A ys by
    rcases Nat.eq_zero_or_pos n with h | h
    · exact .inl h
    · exact .inr (HR.out.fr hf (fun ad ha _ => HA.out h ad ha)))
  clear hd hrep hf h0
  go_wp2_with fail
  go_loopw [1] (fun v w' => ∃ k A' c', k ≤ n ∧ n - k ≤ c' ∧ v = .slice A' (n - k) c' ∧ RdI .u8 w' A' (ys.drop k) ∧ (k < n → ∀ ad, A' = some ad → ¬ ad.block = g) ∧ (∃ st bl op nb, DBlk w' g st bl op ((xs.length : Int) + (k : Int)) true ∧ Rep (xs ++ ys.take k) st bl op nb ∧ (op = 0 → nb = 0)) ∧ Fr (fun i => i = g) w w') (fun v _ => match v with | .slice _ m _ => m | _ => 0)
  case atStart =>
    refine ⟨0, A, c, by omega, hc, by simp, ?_, HA.out, ⟨st, bl, op, nb, by simpa using HDB.out, by simpa using HRP.out, H0.out⟩, HF.out⟩
    rcases HRY.out with h | h
    · exact rd_end _ _ (by rw [List.drop_zero, HN.out, h])
    · exact h
  case round =>
    as_aux_lemma =>
    clear HDB HRP H0 HRY HF
    obtain ⟨k, A', c', hk, hc', rfl, hr, ha, ⟨st, bl, op, nb, hd, hrep, h0⟩, hf⟩ := hrel
    have HRd := hid hr
    have HAd := hid ha
    have HDd := hid hd
    have HRep := hid hrep
    have H0 := hid h0
    have HFd := hid hf
    clear hr ha hd hrep hf h0
    by_cases hm : k < n
    · obtain ⟨m, hme⟩ : ∃ m, n - k = m := ⟨_, rfl⟩
      have hop := HRep.out.le
      have hml : (xs ++ ys.take k).length = xs.length + k := by rw [List.length_append, List.length_take, HN.out]; omega
      obtain ⟨q0, q1, q2⟩ := HDd.out.tail HRep.out.len8 HRep.out.len
      have hylen : (ys.drop k).length = m := by rw [List.length_drop, HN.out, hme]
      have HY := hid hylen
      have HML := hid hml
      obtain ⟨mn, hmn⟩ : ∃ mn : Nat, xs.length + k = mn := ⟨_, rfl⟩
      have hmne : (xs.length : Int) + (k : Int) = (mn : Int) := by omega
      have hmn9 : mn ≤ 1000000000 := by omega
      have hmnm : mn + m ≤ 1000000000 := by omega
      have HMN := hid hmn
      rw [hmne] at HDd q1
      have z136 := Blk.frozen HDd.out 136
      have hm0 : 0 < m := by omega
      have HME := hid hme
      clear q1 q2 hylen hml hmn
      rw [hme]
      rw [hme] at hc'
      clear hme hmne
      go_upto_if 16 with fail
      go_cut [] from 16 to 21 (fun wx => ∃ st bl op nb, DBlk wx g st bl op (mn : Int) true ∧ Rep (xs ++ ys.take k) st bl op nb ∧ op < 128 ∧ Fr (fun i => i = g) wr wx)
      case first =>
        as_aux_lemma =>
        by_cases h128 : op = 128
        · subst h128
          go_wp2_with fail
          refine (compress_calls g st bl 128 (mn : Int) false wr (HT.out.fr HFd.out (fun e => hg1 e.symm) (fun e => hg2 e.symm)) hg1 hg2 HDd.out HRep.out.len8 HRep.out.len HRep.out.U HRep.out.by_ (by omega) (by omega)).mono ?_
          rintro e w6 ⟨rfl, hd6, hf6⟩
          have hl8 := compress_length (xs := bl) (many := (mn : Int)) (last := false) HRep.out.len8
          have y136 := (hd6.tail hl8 HRep.out.len).1
          have y137 := Blk.frozen hd6 136
          have HD6 := hid hd6
          have HF6 := hid hf6
          have HL8 := hid hl8
          clear hd6 hf6 hl8
          go_wp2_with fail
          go_meet
          case rel =>
            have hr2 := HRep.out.turn
            rw [HML.out, HMN.out] at hr2
            exact ⟨_, bl, 0, nb + 1, HD6.out.setOp HL8.out HRep.out.len 0, hr2, by omega, HF6.out.set1 _ _⟩
        · have hne : ((op : Int) == 128) = false := by rw [beq_eq_false_iff_ne]; omega
          go_wp2_with fail
          go_meet
          case rel => exact ⟨st, bl, op, nb, HDd.out, HRep.out, by omega, Fr.refl _ _⟩
      case rest =>
        clear HRep H0 HDd q0 z136 hop
        obtain ⟨st, bl, op, nb, hd, hrep, hop, hf⟩ := hcut
        have HFx := hid (HFd.out.then_ hf (fun _ _ h => h))
        have HRx := hid (HRd.out.fr hf (fun ad ha _ => HAd.out hm ad ha))
        have HDd := hid hd
        have HRep := hid hrep
        obtain ⟨q0, q1, q2⟩ := hd.tail hrep.len8 hrep.len
        clear hd hrep hf HFd HRd q1 q2
        obtain ⟨d, hd⟩ : ∃ d, 128 - op = d := ⟨_, rfl⟩
        have d0 : 0 < d := by omega
        obtain ⟨q, hq⟩ : ∃ q, min m d = q := ⟨_, rfl⟩
        have hqm : q ≤ m := by omega
        have hqd : q ≤ d := by omega
        have hq0 : 0 < q := by omega
        have HMIN := hid hq
        have hsl := slice_from g op d (by omega) d0
        clear hq
        go_wp2_with fail
        go_region_law (refine step_copyB rfl (.tmp 29) (.tmp 30) 31 31 rfl 5 Tryd.underlying31 sizeByte .u8 g (8 + op) d d A' m c' (by simp [Act.eval, Act.put]) (by simp [Act.eval, Act.put]) 52 _ HDd.out _ HRx.out HY.out (by rw [dcells_length HRep.out.len8 HRep.out.len]; omega) ?_; intro w3 hg3 hf3)
        rw [HMIN.out]
        obtain ⟨cs, hcs⟩ : ∃ cs, (ys.drop k).take d = cs := ⟨_, rfl⟩
        rw [hcs] at hg3
        have hcl : cs.length = q := by rw [← hcs, List.length_take, HY.out, Nat.min_comm]; exact HMIN.out
        have hg4 := hg3.out
        rw [splice_dcells HRep.out.len8 HRep.out.len cs (by omega)] at hg4
        have HR4 := HRep.out.more (c := cs) (by omega) (by rw [← hcs]; exact bytes_take (bytes_drop HB.out k) d)
        obtain ⟨bl2, hbl2⟩ : ∃ b, splice bl op cs = b := ⟨_, rfl⟩
        rw [hbl2] at hg4 HR4
        have hb2l : bl2.length = 128 := HR4.len
        have hxs : xs ++ ys.take k ++ cs = xs ++ ys.take (k + q) := by
          rw [← hcs, List.append_assoc]
          congr 1
          rw [List.take_add]
          congr 1
          rw [← HMIN.out, ← HY.out, List.take_eq_take_iff, Nat.min_comm (ys.drop k).length d, Nat.min_assoc, Nat.min_self]
        rw [hxs, hcl] at HR4
        have HF4 := hid (HFx.out.drew.then_ (hf3.out) (fun _ _ h => h))
        have HF40 := hid (((Fr.refl (fun i => i = g) wc).drew).then_ (hf3.out) (fun _ _ h => h))
        obtain ⟨h72, h73, _⟩ := DBlk.tail hg4 HRep.out.len8 hb2l
        have z72 := Blk.frozen hg4 136
        have z73 := Blk.frozen hg4 137
        have HG4 := hid hg4
        have HR5 := hid HR4
        have HL2 := hid hb2l
        clear hg3 hf3 hcs hcl hg4 HR4 hbl2 hb2l hxs hsl HDd q0
        go_wp2_with fail
        all_goals
          have HD7 := hid ((DBlk.setOp HG4.out HRep.out.len8 HL2.out (op + q)).setMn HRep.out.len8 HL2.out ((mn : Int) + (q : Int)))
          have HF7 := hid ((HF4.out.set1 136 (.int .i64 ((op : Int) + (q : Int)))).set1 137 (.int .u64 ((mn : Int) + (q : Int))))
          have HFR := hid ((HF40.out.set1 136 (.int .i64 ((op : Int) + (q : Int)))).set1 137 (.int .u64 ((mn : Int) + (q : Int))))
          clear h72 z72 h73 z73
          go_roundw
          case measure => simp; omega
          case rel =>
            have hkq : n - (k + q) = m - q := by have := HME.out; omega
            have hnum : ((xs.length : Int) + ((k + q : Nat) : Int)) = (mn : Int) + (q : Int) := by have := HMN.out; omega
            refine ⟨k + q, if c' = q then A' else A'.map fun x => x.add q, c' - q, by have := HME.out; omega, by omega, by rw [hkq], ?_, ?_, ⟨st, bl2, op + q, nb, ?_, HR5.out, by omega⟩, HF7.out⟩
            · by_cases hcq : c' = q
              · rw [if_pos hcq]
                exact rd_end _ _ (by rw [List.length_drop, HN.out]; omega)
              · rw [if_neg hcq]
                have hr2 := rd_drop (HRx.out.fr HFR.out (fun ad ha _ => HAd.out hm ad ha)) q
                rw [List.drop_drop] at hr2
                exact hr2
            · intro _
              split
              · exact HAd.out hm
              · exact map_ne (HAd.out hm) q
            · rw [hnum]
              exact HD7.out
    · have hkn : k = n := by omega
      rw [show n - k = 0 by omega]
      have HRn := HRep.out
      rw [hkn, List.take_of_length_le (by rw [HN.out]; omega)] at HRn
      have hlen : ((xs.length : Int) + (n : Int)) = ((xs ++ ys).length : Int) := by rw [List.length_append, HN.out]; omega
      have HDn := HDd.out
      rw [hkn, hlen] at HDn
      have HDN := hid HDn
      have HRN := hid HRn
      clear HDn HRn hlen
      go_wp2_with fail
      go_end0
      exact ⟨rfl, ⟨st, bl, op, nb, HDN.out, HRN.out, H0.out⟩, HFd.out⟩
end Go.Proofs.YtcbogkpgkdijaaaDoor.BlaD
