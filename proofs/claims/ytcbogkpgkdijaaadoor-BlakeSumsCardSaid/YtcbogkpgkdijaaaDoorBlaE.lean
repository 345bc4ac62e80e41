/- Walks of layer blake: Sum, New, the digest of all at once. -/
import Derived.Test.YtcbogkpgkdijaaaDoorBlaD
import Derived.Lib.SliceRun
set_option linter.unusedVariables false
set_option linter.unusedSimpArgs false
namespace Go.Proofs.YtcbogkpgkdijaaaDoor.BlaE
open Go.IntWalk Go.RowKit Go.Proofs.YtcbogkpgkdijaaaDoor.Mem Go.Proofs.YtcbogkpgkdijaaaDoor.Num Go.Proofs.YtcbogkpgkdijaaaDoor.BitsA Go.Proofs.YtcbogkpgkdijaaaDoor.BitsB Go.Proofs.YtcbogkpgkdijaaaDoor.App Go.Proofs.YtcbogkpgkdijaaaDoor.BlaP Go.Proofs.YtcbogkpgkdijaaaDoor.BlaB Go.Proofs.YtcbogkpgkdijaaaDoor.BlaA Go.Proofs.YtcbogkpgkdijaaaDoor.BlaC Go.Proofs.YtcbogkpgkdijaaaDoor.BlaD

theorem splice_cons (cs vs : List Value) (o : Nat) (v : Value) (h : o < cs.length) : splice (cs.set o v) (o + 1) vs = splice cs o (v :: vs) := by
  unfold splice
  rw [List.drop_set_of_lt (by omega), show o + (v :: vs).length = o + 1 + vs.length by simp; omega]
  have e : (cs.set o v).take (o + 1) = cs.take o ++ [v] := by
    rw [List.take_succ_eq_append_getElem (by simpa using h)]
    simp [List.take_set_of_le]
  rw [e]
  simp
theorem Blk.setCells {t : TypeId} {g : Nat} : ∀ (vs cs : List Value) (o : Nat) (w : World), Blk w g t cs.toArray → o + vs.length ≤ cs.length → Blk (w.setCells g o vs) g t (splice cs o vs).toArray
  | [], cs, o, w, h, _ => by
    have e : splice cs o [] = cs := by unfold splice; simp
    rw [e]
    exact h
  | v :: vs, cs, o, w, h, hl => by
    have hl' : o + (vs.length + 1) ≤ cs.length := by simpa using hl
    have h1 : Blk (w.setCell ⟨g, o, none⟩ v) g t (cs.set o v).toArray := by
      have := Mem.Blk.set_ h o v
      rw [List.setIfInBounds_toArray] at this
      exact this
    have := Blk.setCells vs (cs.set o v) (o + 1) (w.setCell ⟨g, o, none⟩ v) h1 (by rw [List.length_set]; omega)
    rw [splice_cons cs vs o v (by omega)] at this
    exact this
theorem fr_setCells {g : Nat} : ∀ (vs : List Value) (o : Nat) (w : World), Fr (fun i => i = g) w (w.setCells g o vs)
  | [], _, w => Fr.refl _ w
  | v :: vs, o, w => ((Fr.refl (fun i => i = g) w).set1 o v).then_ (fr_setCells vs (o + 1) _) (fun _ _ h => h)
theorem sum_nil (w : World) : Calls Tryd.prog 30 #[.pointer none] w fun e w' => e = .returned (.slice none 0 0) ∧ w = w' := by
  go_enter Tryd.func30, Tryd.ntmps30
  go_wp2
  go_ret
  exact ⟨rfl, rfl⟩
theorem zeroByte (w : World) : (zeroValue 5).run Tryd.prog w = .ok (.int .u8 0) w := by kernel_rfl
theorem info_digest {st : List Int} (bl : List Int) (h : st.length = 8) (h' : bl.length = 128) (op : Nat) (mn : Int) (bg : Bool) : (Tryd.prog.info? 52).map (·.size) = some (dcells st bl op mn bg).toArray.size := by
  rw [List.size_toArray, dcells_length h h']
  kernel_rfl
theorem zero_digest {st bl : List Int} (h : st.length = 8) (h' : bl.length = 128) (op : Nat) (mn : Int) (bg : Bool) : Tryd.zeroCells52.size = (dcells st bl op mn bg).toArray.size := by
  rw [show (dcells st bl op mn bg).toArray.size = 139 by rw [List.size_toArray, dcells_length h h']]
  kernel_rfl
/-- clear of what is left of the block. -/
theorem clear_rest {w : World} {g : Nat} {st bl : List Int} {op : Nat} {mn : Int} (h : DBlk w g st bl op mn true) (h8 : st.length = 8) (hb : bl.length = 128) (hop : op ≤ 128) (A : Option Addr) (hA : op < 128 → A = some ⟨g, 8 + op, none⟩) (c : Nat) :
    ∃ w', (∀ ty, (Builtin.clear_ #[31] ty #[.slice A (128 - op) c]).run Tryd.prog w = .ok (.tuple #[]) w') ∧ DBlk w' g st (bl.take op ++ List.replicate (128 - op) 0) op mn true ∧ Fr (fun i => i = g) w w' := by
  rcases Nat.lt_or_ge op 128 with h1 | h1
  · rw [hA h1]
    refine ⟨w.setCells g (8 + op) (List.replicate (128 - op) (.int .u8 0)), fun ty => Lib.run_clear_slice w 31 5 ty (.int .u8 0) Tryd.underlying31 zeroByte rfl rfl g (8 + op) (128 - op) c (by omega) (fun j hj => ?_) (fun j hj => Blk.frozen h _), ?_, fr_setCells _ _ _⟩
    · rw [show 8 + op + j = 8 + (op + j) by omega, h.bl_at h8 hb (op + j) (by omega)]; rfl
    · have := Blk.setCells (List.replicate (128 - op) (.int .u8 0)) (dcells st bl op mn true) (8 + op) w h (by rw [List.length_replicate, dcells_length h8 hb]; omega)
      rw [show List.replicate (128 - op) (Value.int .u8 0) = (List.replicate (128 - op) (0 : Int)).map (Value.int .u8) by simp, splice_dcells h8 hb _ (by rw [List.length_replicate]; omega)] at this
      rw [show List.replicate (128 - op) (Value.int .u8 0) = (List.replicate (128 - op) (0 : Int)).map (Value.int .u8) by simp]
      have e : splice bl op (List.replicate (128 - op) 0) = bl.take op ++ List.replicate (128 - op) 0 := by
        unfold splice
        rw [List.drop_of_length_le (by rw [List.length_replicate]; omega), List.append_nil]
      rw [e] at this
      exact this
  · have h2 : op = 128 := by omega
    subst h2
    refine ⟨w, fun ty => by cases A <;> simp [Builtin.clear_, run_underlying Tryd.underlying31], ?_, Fr.refl _ _⟩
    rw [List.take_of_length_le (by omega), Nat.sub_self, List.replicate_zero, List.append_nil]
    exact h
/-- The rest of the block, as a slice. -/
theorem slice_rest (g op : Nat) (hop : op ≤ 128) : ∃ A, (op < 128 → A = some ⟨g, 8 + op, none⟩) ∧ ∀ W, (Instr.sliceAt 50 (.pointer (some ⟨g, 8, none⟩)) (some (.int .i64 op)) none none).run Tryd.prog W = .ok (.slice A (128 - op) (128 - op)) W := by
  have hl : Tryd.prog.arrayLen 50 = 128 := by kernel_rfl
  have hs : ∀ W, (sizeOf (Tryd.prog.elem 50)).run Tryd.prog W = .ok 1 W := fun W => by kernel_rfl
  have hu : Tryd.prog.underlying 50 = some (.array (Tryd.prog.arrayLen 50) (Tryd.prog.elem 50)) := by kernel_rfl
  refine ⟨some (if 128 = op then ⟨g, 8, none⟩ else ⟨g, 8 + op, none⟩), fun h => by rw [if_neg (by omega)], fun W => ?_⟩
  rw [run_sliceAt_array_l W _ _ hu .i64 (op : Int) (by omega) (by rw [hl]; omega), hs, hl]
  simp only [Result.andThen_ok, slicedAt, Int.toNat_natCast, Nat.mul_one, add_plain]
theorem slice_four (g : Nat) (W : World) : (Instr.sliceAt 49 (.pointer (some ⟨g, 0, none⟩)) none (some (.int .i64 4)) none).run Tryd.prog W = .ok (.slice (some ⟨g, 0, none⟩) 4 8) W := by
  kernel_rfl

/-- What Sum hands back: new bytes. -/
def SumTo (w : World) (S : Nat → Prop) (xs : List Int) (e : Ending) (w' : World) : Prop :=
  ∃ v, e = .returned v ∧ Own .u8 5 w' w.heap.size v (sumOf xs) ∧ Fr S w w'
set_option maxRecDepth 100000 in
set_option maxHeartbeats 4000000 in
theorem sum_calls (g : Nat) (xs : List Int) (w : World) (ht : Tabs w) (hg1 : ¬ g = 3) (hg2 : ¬ g = 4) (h : DAt w g xs) (hl : xs.length ≤ 1000000) :
    Calls Tryd.prog 30 #[.pointer (some ⟨g, 0, none⟩)] w fun e w' => SumTo w (fun i => i = g) xs e w' ∧ DOn w' g xs := by
  have HT := hid ht
  have HD := hid h
  clear ht h
  go_enter Tryd.func30, Tryd.ntmps30
  go_wp2_with fail
  refine (begin_calls g xs w HT.out hg1 HD.out).mono ?_
  rintro e w1 ⟨rfl, ⟨st, bl, op, nb, hd, hrep, h0⟩, hf⟩
  have HF := hid hf
  have HDB := hid hd
  have HRP := hid hrep
  have hop := hrep.le
  have HON := hid (show DOn w1 g xs from ⟨st, bl, op, nb, hd, hrep, h0⟩)
  have HSM := hid (hrep.sum h0)
  have hl1 : g < w1.heap.size := Blk.lt hd
  obtain ⟨Ar, hAr, hsr⟩ := slice_rest w1.heap.size op hop
  have HAr := hid hAr
  clear hd hrep hf h0 hAr
  go_wp2_with (first
    | refine wpList_load_row rfl 52 _ rfl g rfl 52 _ (0, 0) _ HDB.out Tryd.underlying52 rfl (by rw [List.size_toArray, dcells_length HRP.out.len8 HRP.out.len]; kernel_rfl) ?_
    | (refine wp_storeB rfl 52 _ _ rfl w1.heap.size _ rfl rfl 52 _ (heap_alloc_new w1 _) (info_digest _ HRP.out.len8 HRP.out.len _ _ _) (zero_digest HRP.out.len8 HRP.out.len _ _ _) (all_oneCell_toArray (fun v hv => dcells_one hv)) ?_; intro w2 hb2 hf2; have e136 := (DBlk.tail hb2.out HRP.out.len8 HRP.out.len).1; obtain ⟨w3, hcl, hd3, hf3⟩ := clear_rest hb2.out HRP.out.len8 HRP.out.len hop Ar HAr.out (128 - op); have HD3 := hid hd3; have HF3 := hid hf3; clear hd3 hf3)
    | simp only [hcl])
  have hfour := slice_four w1.heap.size
  have HEne := hid (show ¬ w1.heap.size = 3 ∧ ¬ w1.heap.size = 4 by
    have h1 := HT.out.lt
    have h2 := HF.out.size
    omega)
  have HFA := hid ((((Fr.refl (fun i => i = w1.heap.size) w1).alloc (Obj.cells Tryd.zeroCells52 52)).then_ hf2.out (fun _ _ h => h)).then_ HF3.out (fun _ _ h => h))
  have HT3 := hid ((HT.out.fr HF.out (fun e => hg1 e.symm) (fun e => hg2 e.symm)).fr HFA.out (fun e => HEne.out.1 e.symm) (fun e => HEne.out.2 e.symm))
  obtain ⟨bl3, hbl3⟩ : ∃ bl3, bl.take op ++ List.replicate (128 - op) 0 = bl3 := ⟨_, rfl⟩
  have hl3 : bl3.length = 128 := by rw [← hbl3, List.length_append, List.length_take, List.length_replicate, HRP.out.len]; omega
  have hby3 : Bytes bl3 := by
    rw [← hbl3]
    intro c hc
    rcases List.mem_append.1 hc with h | h
    · exact HRP.out.by_ c (List.mem_of_mem_take h)
    · rw [List.eq_of_mem_replicate h]; decide
  rw [hbl3] at HD3 HSM
  have HL3 := hid hl3
  have HBY := hid hby3
  clear hbl3 hl3 hby3 hcl hb2 hf2 e136 hsr HF3
  refine (compress_calls w1.heap.size st bl3 op xs.length true w3 HT3.out HEne.out.1 HEne.out.2 HD3.out HRP.out.len8 HL3.out HRP.out.U HBY.out (by omega) (by omega)).mono ?_
  rintro e w4 ⟨rfl, hd4, hf4⟩
  obtain ⟨st', hst'⟩ : ∃ st', compress st bl3 xs.length true = st' := ⟨_, rfl⟩
  have h8' := compress_length (xs := bl3) (many := (xs.length : Int)) (last := true) HRP.out.len8
  have hU' := compress_U (xs := bl3) (many := (xs.length : Int)) (last := true) HRP.out.U
  rw [hst'] at hd4 HSM h8' hU'
  have HD4 := hid hd4
  have H8 := hid h8'
  have HU := hid hU'
  have HFD := hid (HFA.out.then_ hf4 (fun _ _ h => h))
  clear hst' hd4 h8' hU' hf4 HD3 HT3 HFA HBY
  go_wp2_with fail
  go_loopw [4, 22] (fun v i w' => ∃ k : Nat, k ≤ 4 ∧ i = .int .i64 k ∧ Own .u8 5 w' w4.heap.size v (little4 (st'.take k)) ∧ Fr (fun _ => False) w4 w') (fun _ i _ => 4 - (intOf i).toNat)
  case atStart => exact ⟨0, by omega, rfl, Own.nil _ _ _ _, Fr.refl _ _⟩
  case round =>
    as_aux_lemma =>
    obtain ⟨k, hk, rfl, ho, hf⟩ := hrel
    have HO := hid ho
    have HF7 := hid hf
    clear ho hf
    by_cases h8 : k < 4
    · obtain ⟨x, hx⟩ : ∃ x, at_ st' k = x := ⟨_, rfl⟩
      have hux := HU.out.at_ k
      have cx : wr.cell? ⟨w1.heap.size, k, none⟩ = some (.int .u64 x) := by rw [← hx]; exact (HD4.out.fr HF7.out id).st_at H8.out k (by omega)
      rw [hx] at hux
      have HX := hid hx
      obtain ⟨hux0, hux1⟩ := hux
      clear hx
      go_wp2_with fail
      refine (putLittle64_calls x wr hux0 hux1).mono ?_
      rintro e w8 ⟨b8, rfl, hb8, hv8, hf8⟩
      have HO8 := hid (HO.out.fr hf8 (fun _ _ h => h))
      have HV8 := hid hv8
      have HF8 := hid (HF7.out.then_ hf8 (fun _ _ h => h))
      clear hv8 hf8
      have hle : (little4 (st'.take k)).length ≤ 32 := by rw [little4_length, List.length_take]; omega
      go_wp2_with (refine wpList_app rfl (.tmp 26) (.tmp 28) 31 rfl 1 Tryd.underlying31 infoByte _ _ rfl HO8.out _ 8 _ rfl (digs x 8) (by simp [digs_length]) (VecI.rd HV8.out) (by omega) HF8.out.size ?_; intro v9 w9 h9)
      go_roundw
      case rel =>
        refine ⟨k + 1, by omega, by go_num, ?_, h9.out.fr0 HO8.out HF8.out (Nat.le_refl _)⟩
        have := h9.out.own
        rw [← HX.out, ← little4_snoc _ _ (by rw [H8.out]; omega)] at this
        exact this
      case measure => simp [intOf]; omega
    · have hk8 : k = 4 := by omega
      rw [show ((k : Nat) : Int) = 4 by omega]
      have ho := HO.out
      rw [hk8, HSM.out] at ho
      have HO9 := hid ho
      clear ho
      go_wp2_with fail
      go_ret
      have z6 := HFD.out.size
      have z5 := HF.out.size
      refine ⟨⟨_, rfl, HO9.out.mono (by omega), (HF.out.then_ HFD.out (fun i hi (e : i = w1.heap.size) => by omega)).then_ HF7.out (fun _ _ h => h.elim)⟩, (HON.out.fr HFD.out (by omega)).fr HF7.out id⟩

theorem new_calls (w : World) : Calls Tryd.prog 28 #[] w fun e w' => ∃ g, e = .returned (.pointer (some ⟨g, 0, none⟩)) ∧ w.heap.size ≤ g ∧ DAt w' g [] ∧ Fr (fun _ => False) w w' := by
  go_enter Tryd.func28, Tryd.ntmps28
  go_wp2
  go_ret
  refine ⟨w.heap.size, rfl, Nat.le_refl _, .inr ⟨rfl, List.replicate 8 0, List.replicate 128 0, ?_, by simp, by simp, fun c hc => by rw [List.eq_of_mem_replicate hc]; decide⟩, (Fr.refl _ _).alloc _⟩
  have := Blk.new w 52 Tryd.zeroCells52
  rw [show Tryd.zeroCells52 = (dcells (List.replicate 8 0) (List.replicate 128 0) 0 0 false).toArray by kernel_rfl] at this ⊢
  exact this
/-- The digest of all at once. -/
theorem blake_calls (A : Option Addr) (n c : Nat) (xs : List Int) (w : World) (ht : Tabs w) (hn : xs.length = n) (hr : RdI .u8 w A xs) (hb : Bytes xs) (hl : n ≤ 1000000) (hc : n ≤ c) :
    Calls Tryd.prog 26 #[.slice A n c] w (SumTo w (fun _ => False) xs) := by
  subst hn
  have HT := hid ht
  have HR := hid hr
  clear ht hr
  go_enter Tryd.func26, Tryd.ntmps26
  go_wp2_with fail
  refine (new_calls w).mono ?_
  rintro e w1 ⟨g, rfl, hg, hd, hf⟩
  have HD := hid hd
  have HF := hid hf
  have hlt := HT.out.lt
  clear hd hf
  go_wp2_with fail
  refine (write_any g [] xs A _ c w1 (HT.out.fr HF.out id id) (by omega) (by omega) HD.out rfl (HR.out.fr0 HF.out) hb ?_ (by simp; omega) hc).mono ?_
  · intro h0 ad ha e
    obtain ⟨ad', ha', hb', _⟩ := HR.out 0 h0
    rw [ha] at ha'
    injection ha' with ha'
    subst ha'
    omega
  rintro e w2 ⟨rfl, hd, hf⟩
  have HD2 := hid hd
  have HF2 := hid (HF.out.then_ hf (fun i hi (e : i = g) => by omega))
  clear hd hf
  go_wp2_with fail
  refine (sum_calls g xs w2 (HT.out.fr HF2.out id id) (by omega) (by omega) (.inl HD2.out) hl).mono ?_
  rintro e w3 ⟨⟨v, rfl, ho, hf⟩, _⟩
  have HO := hid ho
  have HF3 := hid (HF2.out.then_ hf (fun i hi (e : i = g) => by omega))
  have hz := HF2.out.size
  clear ho hf
  go_wp2_with fail
  go_ret
  exact ⟨v, rfl, HO.out.mono (by omega), HF3.out⟩
end Go.Proofs.YtcbogkpgkdijaaaDoor.BlaE
