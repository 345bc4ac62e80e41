/- Walks of layer sha: Sum. -/
import Derived.Test.YtcbogkpgkdijaaaDoorShaC
import Derived.Deep.MidRow
set_option linter.unusedVariables false
set_option linter.unusedSimpArgs false
namespace Go.Proofs.YtcbogkpgkdijaaaDoor.ShaD
open Go.IntWalk Go.RowKit Go.Proofs.YtcbogkpgkdijaaaDoor.Mem Go.Proofs.YtcbogkpgkdijaaaDoor.Num Go.Proofs.YtcbogkpgkdijaaaDoor.BitsA Go.Proofs.YtcbogkpgkdijaaaDoor.BitsB Go.Proofs.YtcbogkpgkdijaaaDoor.App Go.Proofs.YtcbogkpgkdijaaaDoor.ShaP Go.Proofs.YtcbogkpgkdijaaaDoor.ShaA Go.Proofs.YtcbogkpgkdijaaaDoor.ShaB Go.Proofs.YtcbogkpgkdijaaaDoor.ShaC

theorem sum_nil (w : World) : Calls Tryd.prog 23 #[.pointer none] w fun e w' => e = .returned (.slice none 0 0) ∧ w = w' := by
  go_enter Tryd.func23, Tryd.ntmps23
  go_wp2
  go_ret
  exact ⟨rfl, rfl⟩

/-- What Sum hands back: new bytes. -/
def SumTo (w : World) (S : Nat → Prop) (xs : List Int) (e : Ending) (w' : World) : Prop :=
  ∃ v, e = .returned v ∧ Own .u8 5 w' w.heap.size v (sumOf xs) ∧ Fr S w w'

theorem info_digest {st : List Int} (bl : List Int) (h : st.length = 8) (h' : bl.length = 64) (op : Nat) (mn : Int) (bg : Bool) : (Tryd.prog.info? 42).map (·.size) = some (dcells st bl op mn bg).toArray.size := by
  rw [List.size_toArray, dcells_length h h']
  kernel_rfl
theorem zero_digest {st bl : List Int} (h : st.length = 8) (h' : bl.length = 64) (op : Nat) (mn : Int) (bg : Bool) : Tryd.zeroCells42.size = (dcells st bl op mn bg).toArray.size := by
  rw [show (dcells st bl op mn bg).toArray.size = 75 by rw [List.size_toArray, dcells_length h h']]
  kernel_rfl
theorem mk_pad (q : Nat) (hq : q < 64) (w : World) : (Instr.makeSlice 31 (.int .i64 (1 + (q : Int))) (.int .i64 (1 + (q : Int)))).run Tryd.prog w = .ok (.slice (some ⟨w.heap.size, 0, none⟩) (1 + q) (1 + q)) (w.alloc (.cells (madeCells #[.int .u8 0] (1 + q)) 5)) := by
  have := run_make_nc (P := Tryd.prog) 31 5 (.int .u8 0) 1 Tryd.underlying31 infoByte (1 + q) (1 + q) (by omega) (by omega) (by omega) w
  rw [show ((1 + q : Nat) : Int) = 1 + (q : Int) by omega] at this
  exact this
theorem made_at (w : World) (q : Nat) : (w.alloc (.cells (madeCells #[.int .u8 0] (1 + q)) 5)).cell? ⟨w.heap.size, 0, none⟩ = some (.int .u8 0) := by
  rw [(made_vec .u8 5 w (1 + q)).at_ 0 (by rw [List.length_replicate]; omega), Nat.add_comm, List.replicate_succ]
  rfl
theorem made_froz (w : World) (q : Nat) : (w.alloc (.cells (madeCells #[.int .u8 0] (1 + q)) 5)).frozen? ⟨w.heap.size, 0, none⟩ = false := Blk.frozen (made_vec .u8 5 w (1 + q)) 0
theorem far_cell2 {w w2 : World} {E g i : Nat} {v : Value} {o : Obj} (hf : Fr (fun k => k = E) (w.alloc o) w2) (hg : g < (w.alloc o).heap.size) (hne : ¬ g = E) (hc : w.cell? ⟨g, i, none⟩ = some v) : w2.cell? ⟨g, i, none⟩ = some v :=
  (hf.cell hg hne).trans (cell_a hc o)
theorem pad_made (w : World) (q : Nat) : VecI .u8 5 (w.alloc (Obj.cells ((madeCells #[Value.int IntKind.u8 0] (1 + q)).setIfInBounds 0 (Value.int IntKind.u8 128)) 5)) w.heap.size (128 :: List.replicate q 0) := by
  have h := (made_vec .u8 5 w (1 + q)).set_ 0 128
  rw [World.setCell_alloc_new, Nat.add_comm 1 q, List.replicate_succ] at h
  rw [Nat.add_comm 1 q]
  exact h
theorem own_pad {w : World} {q p : Nat} (h : VecI .u8 5 w p (128 :: List.replicate q 0)) {b : Nat} (hb : b ≤ p) (hq : q < 64) : Own .u8 5 w b (.slice (some ⟨p, 0, none⟩) (1 + q) (1 + q)) (128 :: List.replicate q 0) := by
  have := Own.vec h hb (by simp [maxLen]; omega)
  rw [show (128 :: List.replicate q (0 : Int)).length = 1 + q by simp; omega] at this
  exact this
theorem idx8 (s0 s1 s2 s3 s4 s5 s6 s7 : Int) (k : Nat) (x : Int) (hk : k < 8) (hx : at_ [s0, s1, s2, s3, s4, s5, s6, s7] k = x) (W : World) :
    (Instr.index 39 (.agg #[.int .u32 s0, .int .u32 s1, .int .u32 s2, .int .u32 s3, .int .u32 s4, .int .u32 s5, .int .u32 s6, .int .u32 s7]) (.int .i64 (k : Int))).run Tryd.prog W = .ok (.int .u32 x) W := by
  subst hx
  match k, hk with
  | 0, _ | 1, _ | 2, _ | 3, _ | 4, _ | 5, _ | 6, _ | 7, _ => rfl
set_option maxRecDepth 100000 in
set_option maxHeartbeats 4000000 in
theorem sum_calls (g : Nat) (xs : List Int) (w : World) (ht : Tabs w) (hg1 : ¬ g = 1) (hg2 : ¬ g = 2) (h : DAt w g xs) (hl : xs.length ≤ 1000000) :
    Calls Tryd.prog 23 #[.pointer (some ⟨g, 0, none⟩)] w fun e w' => SumTo w (fun i => i = g) xs e w' ∧ DOn w' g xs := by
  have HT := hid ht
  have HD := hid h
  clear ht h
  go_enter Tryd.func23, Tryd.ntmps23
  go_wp2_with fail
  refine (begin_calls g xs w HT.out hg1 HD.out).mono ?_
  rintro e w1 ⟨rfl, ⟨st, bl, op, hd, hrep⟩, hf⟩
  have HF := hid hf
  have HDB := hid hd
  have HRP := hid hrep
  have hop := hrep.lt
  have t1 := (hd.tail hrep.len8 hrep.len).2.1
  have hl1 : g < w1.heap.size := Blk.lt hd
  obtain ⟨E, hE⟩ : ∃ E, w1.heap.size = E := ⟨_, rfl⟩
  have HE := hid hE
  clear hd hrep hf hE
  obtain ⟨q, hq⟩ : ∃ q, (119 - op) % 64 = q := ⟨_, rfl⟩
  have hq0 : ((119 : Int) - (op : Int)) % 64 = (q : Int) := by omega
  have hq1 : q < 64 := by omega
  have HQ := hid hq
  clear hq
  have hmk := mk_pad q hq1
  go_wp2_with (first
    | refine wpList_load_row rfl 42 _ rfl g rfl 42 _ (0, 0) _ HDB.out Tryd.underlying42 rfl (by rw [List.size_toArray, dcells_length HRP.out.len8 HRP.out.len]; kernel_rfl) ?_
    | (refine wp_storeB rfl 42 _ _ rfl w1.heap.size _ rfl rfl 42 _ (heap_alloc_new w1 _) (info_digest _ HRP.out.len8 HRP.out.len _ _ _) (zero_digest HRP.out.len8 HRP.out.len _ _ _) (all_oneCell_toArray (fun v hv => dcells_one hv)) ?_; intro w2 hb2 hf2; have e72 := (DBlk.tail hb2.out HRP.out.len8 HRP.out.len).1; have PV := hid (made_vec .u8 5 w2 (1 + q)); have p0 := made_at w2 q; have pz := made_froz w2 q; have e73 := far_cell2 hf2.out (by rw [World.size_alloc]; omega) (by omega) t1; have glt : g < w2.heap.size := by have := hf2.out.size; rw [World.size_alloc] at this; omega))
  obtain ⟨w3, hw3⟩ : ∃ w3, w2.alloc (Obj.cells ((madeCells #[Value.int IntKind.u8 0] (1 + q)).setIfInBounds 0 (Value.int IntKind.u8 128)) 5) = w3 := ⟨_, rfl⟩
  have HP3 := hid (pad_made w2 q)
  have HF3 := hid ((hf2.out.alloc (Obj.cells ((madeCells #[Value.int IntKind.u8 0] (1 + q)).setIfInBounds 0 (Value.int IntKind.u8 128)) 5)))
  have HB3 := hid (Blk.alloc hb2.out (Obj.cells ((madeCells #[Value.int IntKind.u8 0] (1 + q)).setIfInBounds 0 (Value.int IntKind.u8 128)) 5))
  rw [hw3]
  rw [hw3] at HP3 HF3 HB3
  have hsz3 : w3.heap.size = w2.heap.size + 1 := by rw [← hw3]; simp
  have hsz2 : w1.heap.size + 1 ≤ w2.heap.size := by have := hf2.out.size; rw [World.size_alloc] at this; exact this
  obtain ⟨p, hp⟩ : ∃ p, w2.heap.size = p := ⟨_, rfl⟩
  rw [hp] at HP3 hsz3 hsz2 glt ⊢
  have HS3 := hid hsz3
  have HFA := hid (((Fr.refl (fun i => i = w1.heap.size) w1).alloc (Obj.cells Tryd.zeroCells42 42)).then_ HF3.out (fun _ _ h => h))
  clear hw3 PV p0 pz e73 e72 hb2 hf2 hp hmk hq0 t1 hsz3 HF3
  refine (putBig64_calls (8 * (xs.length : Int)) w3 (by omega) (by omega)).mono ?_
  rintro e w4 ⟨d, rfl, hd, hv4, hf4⟩
  have hd' : ¬ d = p := by have := HS3.out; omega
  have HV4 := hid hv4
  have HP4 := hid (HP3.out.fr hf4 id)
  have HB4 := hid (Blk.fr HB3.out hf4 id)
  have HFB := hid (HFA.out.then_ hf4 (fun _ _ h => h.elim))
  have hsz4 : w3.heap.size ≤ w4.heap.size := hf4.size
  have hlt4 : d < w4.heap.size := Blk.lt hv4
  clear hv4 hf4 HP3 HB3 HFA
  obtain ⟨ds, hds⟩ : ∃ ds, (digs (8 * (xs.length : Int)) 8).reverse = ds := ⟨_, rfl⟩
  rw [hds] at HV4
  have hdl : ds.length = 8 := by rw [← hds]; simp [digs_length]
  have HDS := hid hds
  have HDL := hid hdl
  clear hds hdl
  go_wp2_with (refine wpList_app rfl (.tmp 23) (.tmp 29) 31 rfl 1 Tryd.underlying31 infoByte _ (128 :: List.replicate q 0) rfl (own_pad HP4.out (Nat.le_refl p) hq1) _ 8 _ rfl ds HDL.out (VecI.rd HV4.out) (by simp; omega) (by have := HS3.out; omega) ?_; intro v5 w5 h5)
  obtain ⟨A5, c5, rfl, hc5, hA5⟩ := h5.out.own.form
  have hrd5 := hid h5.out.own.rd.1
  have hpad : 128 :: List.replicate q 0 ++ ds = pad xs.length := by
    unfold pad
    rw [← HDS.out, ← HQ.out, ← HRP.out.opn, Int.emod_eq_of_lt (by omega) (by omega)]
    rfl
  rw [hpad] at hrd5 hc5 ⊢
  have HFC := hid (HFB.out.then_ h5.out.fr (fun i hi e => by have := own_blk e; omega))
  have hne5 : ∀ ad, A5 = some ad → ¬ ad.block = w1.heap.size := by
    intro ad he
    obtain ⟨g', rfl, hb', _⟩ := hA5 ad he
    intro e
    have hb' : p ≤ g' := hb'
    simp at e
    omega
  have HA5 := hid hne5
  have HD5 := hid (Blk.fr HB4.out h5.out.fr (fun e => by have := own_blk e; omega))
  have hplen : (pad xs.length).length ≤ 200 := by unfold pad; simp [digs_length]; omega
  have HT5 := hid (HT.out.fr (HF.out.then_ HFC.out (S := fun i => i = g) (T := fun i => i = w1.heap.size) (fun i hi (e : i = w1.heap.size) => by have := HF.out.size; omega)) (fun e => hg1 e.symm) (fun e => hg2 e.symm))
  have hgt := HT.out.lt
  have hsz := HF.out.size
  clear hpad hne5 hA5 HP4 HB4 HFB h5
  refine (write_calls w1.heap.size xs (pad xs.length) A5 _ c5 w5 HT5.out (by omega) (by omega) (.inl ⟨st, bl, op, HD5.out, HRP.out⟩) rfl hrd5.out (bytes_pad _) (fun _ => HA5.out) (by omega) (by omega)).mono ?_
  rintro e w6 ⟨rfl, ⟨st', bl', op', hd6, hr6⟩, hf6⟩
  have hst := hr6.st
  obtain ⟨s0, s1, s2, s3, s4, s5, s6, s7, h8⟩ := ShaA.eight hr6.len8
  obtain ⟨d0, d1, d2, d3, d4, d5, d6, d7⟩ := hd6.eight h8
  have hU := hr6.U
  have HFD := hid (HFC.out.then_ hf6 (fun _ _ e => e))
  have HST := hid hst
  have H8 := hid h8
  have HU := hid hU
  clear hd6 hr6 hf6 hst h8 hU HD5 HFC HT5 hrd5 HA5
  go_wp2_with fail
  go_loopw [5, 34] (fun v i w' => ∃ k : Nat, k ≤ 8 ∧ i = .int .i64 k ∧ Own .u8 5 w' w6.heap.size v (big4 (st'.take k)) ∧ Fr (fun _ => False) w6 w') (fun _ i _ => 8 - (intOf i).toNat)
  case atStart => exact ⟨0, by omega, rfl, Own.nil _ _ _ _, Fr.refl _ _⟩
  case round =>
    obtain ⟨k, hk, rfl, ho, hf⟩ := hrel
    have HO := hid ho
    have HF7 := hid hf
    clear ho hf
    by_cases h8 : k < 8
    · obtain ⟨x, hx⟩ : ∃ x, at_ st' k = x := ⟨_, rfl⟩
      have hidx := idx8 s0 s1 s2 s3 s4 s5 s6 s7 k x h8 (by rw [← H8.out]; exact hx)
      have hux := HU.out.at_ k
      rw [hx] at hux
      have HX := hid hx
      obtain ⟨hux0, hux1⟩ := hux
      clear hx
      go_wp2_with fail
      refine (putBig32_calls x wr hux0 hux1).mono ?_
      rintro e w8 ⟨b8, rfl, hb8, hv8, hf8⟩
      have HO8 := hid (HO.out.fr hf8 (fun _ _ h => h))
      have HV8 := hid hv8
      have HF8 := hid (HF7.out.then_ hf8 (fun _ _ h => h))
      clear hv8 hf8
      have hle : (big4 (st'.take k)).length ≤ 32 := by rw [big4_length, List.length_take]; omega
      go_wp2_with (refine wpList_app rfl (.tmp 37) (.tmp 39) 31 rfl 1 Tryd.underlying31 infoByte _ _ rfl HO8.out _ 4 _ rfl (digs x 4).reverse (by simp [digs_length]) (VecI.rd HV8.out) (by omega) HF8.out.size ?_; intro v9 w9 h9)
      go_roundw
      case rel =>
        refine ⟨k + 1, by omega, by go_num, ?_, h9.out.fr0 HO8.out HF8.out (Nat.le_refl _)⟩
        have := h9.out.own
        rw [← HX.out, ← big4_snoc _ _ (by rw [H8.out]; exact h8)] at this
        exact this
      case measure => simp [intOf]; omega
    · have hk8 : k = 8 := by omega
      rw [show ((k : Nat) : Int) = 8 by omega]
      have ho := HO.out
      rw [hk8, List.take_of_length_le (by rw [H8.out]; exact Nat.le_refl 8), HST.out] at ho
      have HO9 := hid ho
      clear ho
      go_wp2_with fail
      go_ret
      have z6 := HFD.out.size
      exact ⟨⟨_, rfl, HO9.out.mono (by omega), (HF.out.then_ HFD.out (fun i hi (e : i = w1.heap.size) => by omega)).then_ HF7.out (fun _ _ h => h.elim)⟩, ⟨st, bl, op, (HDB.out.fr HFD.out (by omega)).fr HF7.out id, HRP.out⟩⟩

theorem new_calls (w : World) : Calls Tryd.prog 21 #[] w fun e w' => ∃ g, e = .returned (.pointer (some ⟨g, 0, none⟩)) ∧ w.heap.size ≤ g ∧ DAt w' g [] ∧ Fr (fun _ => False) w w' := by
  go_enter Tryd.func21, Tryd.ntmps21
  go_wp2
  go_ret
  refine ⟨w.heap.size, rfl, Nat.le_refl _, .inr ⟨rfl, List.replicate 8 0, List.replicate 64 0, ?_, by simp, by simp, fun c hc => by rw [List.eq_of_mem_replicate hc]; decide⟩, (Fr.refl _ _).alloc _⟩
  have := Blk.new w 42 Tryd.zeroCells42
  rw [show Tryd.zeroCells42 = (dcells (List.replicate 8 0) (List.replicate 64 0) 0 0 false).toArray by kernel_rfl] at this ⊢
  exact this
/-- The digest of all at once. -/
theorem sha_calls (A : Option Addr) (n c : Nat) (xs : List Int) (w : World) (ht : Tabs w) (hn : xs.length = n) (hr : RdI .u8 w A xs) (hb : Bytes xs) (hl : n ≤ 1000000) (hc : n ≤ c) :
    Calls Tryd.prog 19 #[.slice A n c] w (SumTo w (fun _ => False) xs) := by
  subst hn
  have HT := hid ht
  have HR := hid hr
  clear ht hr
  go_enter Tryd.func19, Tryd.ntmps19
  go_wp2_with fail
  refine (new_calls w).mono ?_
  rintro e w1 ⟨g, rfl, hg, hd, hf⟩
  have HD := hid hd
  have HF := hid hf
  have hlt := HT.out.lt
  clear hd hf
  go_wp2_with fail
  refine (write_calls g [] xs A _ c w1 (HT.out.fr HF.out id id) (by omega) (by omega) HD.out rfl (HR.out.fr0 HF.out) hb ?_ (by simp; omega) hc).mono ?_
  · intro h0 ad ha e
    obtain ⟨ad', ha', hb', _⟩ := HR.out 0 h0
    rw [ha] at ha'
    injection ha' with ha'
    subst ha'
    omega
  rintro e w2 ⟨rfl, hd, hf⟩
  have HD2 := hid hd
  have HF2 := hid (HF.out.then_ hf (fun i hi (e : i = g) => by omega))
  clear hd hf
  go_wp2_with fail
  refine (sum_calls g xs w2 (HT.out.fr HF2.out id id) (by omega) (by omega) (.inl HD2.out) hl).mono ?_
  rintro e w3 ⟨⟨v, rfl, ho, hf⟩, _⟩
  have HO := hid ho
  have HF3 := hid (HF2.out.then_ hf (fun i hi (e : i = g) => by omega))
  have hz := HF2.out.size
  clear ho hf
  go_wp2_with fail
  go_ret
  exact ⟨v, rfl, HO.out.mono (by omega), HF3.out⟩
end Go.Proofs.YtcbogkpgkdijaaaDoor.ShaD
