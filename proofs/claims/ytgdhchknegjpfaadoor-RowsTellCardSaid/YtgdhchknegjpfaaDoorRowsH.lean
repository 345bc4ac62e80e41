/- Layer rows: the law of rows. -/
import Derived.Test.YtgdhchknegjpfaaDoorRowsG
set_option linter.unusedVariables false
set_option linter.unusedSimpArgs false
namespace Go.Proofs.YtgdhchknegjpfaaDoor.RowsH
open Go.IntWalk Go.RowKit Go.Proofs.YtgdhchknegjpfaaDoor.Mem Go.Proofs.YtgdhchknegjpfaaDoor.Txt Go.Proofs.YtgdhchknegjpfaaDoor.Itoa Go.Proofs.YtgdhchknegjpfaaDoor.BitsA Go.Proofs.YtgdhchknegjpfaaDoor.HexA Go.Proofs.YtgdhchknegjpfaaDoor.RowsA Go.Proofs.YtgdhchknegjpfaaDoor.RowsB Go.Proofs.YtgdhchknegjpfaaDoor.RowsC Go.Proofs.YtgdhchknegjpfaaDoor.RowsD Go.Proofs.YtgdhchknegjpfaaDoor.RowsE Go.Proofs.YtgdhchknegjpfaaDoor.RowsF

theorem h5_fr {w0 w w' : World} {R : Nat} {e at_ : Int} {Aa Ab : Option Addr} {na ca nb cb size : Nat} (h : w.cell? ⟨R, 0, none⟩ = some (.int .i64 e) ∧ w.cell? ⟨R, 1, none⟩ = some (.int .i64 at_) ∧ w.cell? ⟨R, 2, none⟩ = some (.int .u64 size) ∧ w.cell? ⟨R, 3, none⟩ = some (.slice Aa na ca) ∧ w.cell? ⟨R, 4, none⟩ = some (.slice Ab nb cb) ∧ Fr (fun _ => False) w0 w) (k : Fr (fun _ => False) w w') : w'.cell? ⟨R, 0, none⟩ = some (.int .i64 e) ∧ w'.cell? ⟨R, 1, none⟩ = some (.int .i64 at_) ∧ w'.cell? ⟨R, 2, none⟩ = some (.int .u64 size) ∧ w'.cell? ⟨R, 3, none⟩ = some (.slice Aa na ca) ∧ w'.cell? ⟨R, 4, none⟩ = some (.slice Ab nb cb) ∧ Fr (fun _ => False) w0 w' := by
  obtain ⟨h0, h1, h2, h3, h4, h5⟩ := h
  have c : ∀ {i : Nat} {v : Value}, w.cell? ⟨R, i, none⟩ = some v → w'.cell? ⟨R, i, none⟩ = some v := fun {i v} h => (k.cell (World.block_lt_of_cell? w ⟨R, i, none⟩ h) (fun h => h)).trans h
  exact ⟨c h0, c h1, c h2, c h3, c h4, h5.then_ k (fun _ _ h => h)⟩
theorem h5_row {w0 w : World} {R : Nat} {e at_ : Int} {Aa Ab : Option Addr} {na ca nb cb size : Nat} {Aw : Option Addr} {nw cw : Nat} {way a b : List Int} (hT : Tab w0) (hN : NamesAt w0) (he0 : -9223372036854775808 ≤ e) (he1 : e ≤ 9223372036854775807) (ha0 : -9223372036854775808 ≤ at_) (ha1 : at_ ≤ 9223372036854775807) (hs : size < 18446744073709551616)
    (hnw : way.length = nw) (hrw : RdI .i64 w0 Aw way) (hbw : I64s way) (hw100 : nw ≤ 100)
    (hna : a.length = na) (hra : RdI .u8 w0 Aa a) (hba : Bytes a) (ha100 : na ≤ 100)
    (hnb : b.length = nb) (hrb : RdI .u8 w0 Ab b) (hbb : Bytes b) (hb100 : nb ≤ 100) (hf : w.cell? ⟨R, 0, none⟩ = some (.int .i64 e) ∧ w.cell? ⟨R, 1, none⟩ = some (.int .i64 at_) ∧ w.cell? ⟨R, 2, none⟩ = some (.int .u64 size) ∧ w.cell? ⟨R, 3, none⟩ = some (.slice Aa na ca) ∧ w.cell? ⟨R, 4, none⟩ = some (.slice Ab nb cb) ∧ Fr (fun _ => False) w0 w) :
    Calls Tryd.prog 30 #[.agg #[.int .i64 e, .int .i64 at_, .int .u64 size, .slice Aa na ca, .slice Ab nb cb], .slice Aw nw cw] w fun r w' => r = .returned (.string (txt (rowL e at_ way size a b))) ∧ w'.cell? ⟨R, 0, none⟩ = some (.int .i64 e) ∧ w'.cell? ⟨R, 1, none⟩ = some (.int .i64 at_) ∧ w'.cell? ⟨R, 2, none⟩ = some (.int .u64 size) ∧ w'.cell? ⟨R, 3, none⟩ = some (.slice Aa na ca) ∧ w'.cell? ⟨R, 4, none⟩ = some (.slice Ab nb cb) ∧ Fr (fun _ => False) w0 w' := by
  have F := hf.2.2.2.2.2
  refine (row_calls e at_ Aw Aa Ab nw cw na ca nb cb size way a b w (hT.fr0 F) (hN.fr0 F) he0 he1 ha0 ha1 hs hnw (hrw.fr0 F) hbw hw100 hna (hra.fr0 F) hba ha100 hnb (hrb.fr0 F) hbb hb100).mono ?_
  rintro r w' ⟨rfl, h⟩
  exact ⟨rfl, h5_fr hf h⟩
theorem h5_ref {w0 w : World} {R : Nat} {e at_ : Int} {Aa Ab : Option Addr} {na ca nb cb size : Nat} {Aw : Option Addr} {nw cw : Nat} {way a b : List Int} (he0 : -9223372036854775808 ≤ e) (he1 : e ≤ 9223372036854775807) (ha0 : -9223372036854775808 ≤ at_) (ha1 : at_ ≤ 9223372036854775807) (hs : size < 18446744073709551616)
    (hnw : way.length = nw) (hrw : RdI .i64 w0 Aw way) (hbw : I64s way) (hw100 : nw ≤ 100)
    (hna : a.length = na) (hra : RdI .u8 w0 Aa a) (hba : Bytes a) (ha100 : na ≤ 100)
    (hnb : b.length = nb) (hrb : RdI .u8 w0 Ab b) (hbb : Bytes b) (hb100 : nb ≤ 100) (hf : w.cell? ⟨R, 0, none⟩ = some (.int .i64 e) ∧ w.cell? ⟨R, 1, none⟩ = some (.int .i64 at_) ∧ w.cell? ⟨R, 2, none⟩ = some (.int .u64 size) ∧ w.cell? ⟨R, 3, none⟩ = some (.slice Aa na ca) ∧ w.cell? ⟨R, 4, none⟩ = some (.slice Ab nb cb) ∧ Fr (fun _ => False) w0 w) :
    Calls Tryd.prog 31 #[.int .i64 e, .int .i64 at_, .slice Aw nw cw, .int .u64 size, .slice Aa na ca, .slice Ab nb cb] w fun r w' => r = .returned (.string (txt (rowL e at_ way size a b))) ∧ w'.cell? ⟨R, 0, none⟩ = some (.int .i64 e) ∧ w'.cell? ⟨R, 1, none⟩ = some (.int .i64 at_) ∧ w'.cell? ⟨R, 2, none⟩ = some (.int .u64 size) ∧ w'.cell? ⟨R, 3, none⟩ = some (.slice Aa na ca) ∧ w'.cell? ⟨R, 4, none⟩ = some (.slice Ab nb cb) ∧ Fr (fun _ => False) w0 w' := by
  have F := hf.2.2.2.2.2
  refine (refrow_calls e at_ Aw Aa Ab nw cw na ca nb cb size way a b w he0 he1 ha0 ha1 hs hnw (hrw.fr0 F) hbw hw100 hna (hra.fr0 F) hba ha100 hnb (hrb.fr0 F) hbb hb100).mono ?_
  rintro r w' ⟨rfl, h⟩
  exact ⟨rfl, h5_fr hf h⟩
theorem h5_way {w0 w : World} {R : Nat} {e at_ : Int} {Aa Ab : Option Addr} {na ca nb cb size : Nat} {Aw : Option Addr} {nw cw : Nat} {way : List Int} (hT : Tab w0) (hnw : way.length = nw) (hrw : RdI .i64 w0 Aw way) (hbw : I64s way) (hw100 : nw ≤ 100) (hf : w.cell? ⟨R, 0, none⟩ = some (.int .i64 e) ∧ w.cell? ⟨R, 1, none⟩ = some (.int .i64 at_) ∧ w.cell? ⟨R, 2, none⟩ = some (.int .u64 size) ∧ w.cell? ⟨R, 3, none⟩ = some (.slice Aa na ca) ∧ w.cell? ⟨R, 4, none⟩ = some (.slice Ab nb cb) ∧ Fr (fun _ => False) w0 w) :
    Calls Tryd.prog 32 #[.slice Aw nw cw] w fun r w' => r = .returned (.string (txt (wayL way))) ∧ w'.cell? ⟨R, 0, none⟩ = some (.int .i64 e) ∧ w'.cell? ⟨R, 1, none⟩ = some (.int .i64 at_) ∧ w'.cell? ⟨R, 2, none⟩ = some (.int .u64 size) ∧ w'.cell? ⟨R, 3, none⟩ = some (.slice Aa na ca) ∧ w'.cell? ⟨R, 4, none⟩ = some (.slice Ab nb cb) ∧ Fr (fun _ => False) w0 w' := by
  have F := hf.2.2.2.2.2
  refine (way_calls Aw nw cw way w (hT.fr0 F) hnw hw100 (hrw.fr0 F) hbw).mono ?_
  rintro r w' ⟨rfl, h⟩
  exact ⟨rfl, h5_fr hf h⟩
theorem h5_refway {w0 w : World} {R : Nat} {e at_ : Int} {Aa Ab : Option Addr} {na ca nb cb size : Nat} {Aw : Option Addr} {nw cw : Nat} {way : List Int} (hnw : way.length = nw) (hrw : RdI .i64 w0 Aw way) (hbw : I64s way) (hw100 : nw ≤ 100) (hf : w.cell? ⟨R, 0, none⟩ = some (.int .i64 e) ∧ w.cell? ⟨R, 1, none⟩ = some (.int .i64 at_) ∧ w.cell? ⟨R, 2, none⟩ = some (.int .u64 size) ∧ w.cell? ⟨R, 3, none⟩ = some (.slice Aa na ca) ∧ w.cell? ⟨R, 4, none⟩ = some (.slice Ab nb cb) ∧ Fr (fun _ => False) w0 w) :
    Calls Tryd.prog 33 #[.slice Aw nw cw] w fun r w' => r = .returned (.string (txt (wayL way))) ∧ w'.cell? ⟨R, 0, none⟩ = some (.int .i64 e) ∧ w'.cell? ⟨R, 1, none⟩ = some (.int .i64 at_) ∧ w'.cell? ⟨R, 2, none⟩ = some (.int .u64 size) ∧ w'.cell? ⟨R, 3, none⟩ = some (.slice Aa na ca) ∧ w'.cell? ⟨R, 4, none⟩ = some (.slice Ab nb cb) ∧ Fr (fun _ => False) w0 w' := by
  have F := hf.2.2.2.2.2
  refine (refway_calls Aw nw cw way w hnw hw100 (hrw.fr0 F) hbw).mono ?_
  rintro r w' ⟨rfl, rfl⟩
  exact ⟨rfl, hf⟩
theorem h5_name {w0 w : World} {R : Nat} {e at_ : Int} {Aa Ab : Option Addr} {na ca nb cb size : Nat} (x : Int) (hx0 : -9223372036854775808 ≤ x) (hx1 : x ≤ 9223372036854775807) (hT : Tab w0) (hN : NamesAt w0) (hf : w.cell? ⟨R, 0, none⟩ = some (.int .i64 e) ∧ w.cell? ⟨R, 1, none⟩ = some (.int .i64 at_) ∧ w.cell? ⟨R, 2, none⟩ = some (.int .u64 size) ∧ w.cell? ⟨R, 3, none⟩ = some (.slice Aa na ca) ∧ w.cell? ⟨R, 4, none⟩ = some (.slice Ab nb cb) ∧ Fr (fun _ => False) w0 w) :
    Calls Tryd.prog 34 #[.int .i64 x] w fun r w' => r = .returned (.string (txt (nameL x))) ∧ w'.cell? ⟨R, 0, none⟩ = some (.int .i64 e) ∧ w'.cell? ⟨R, 1, none⟩ = some (.int .i64 at_) ∧ w'.cell? ⟨R, 2, none⟩ = some (.int .u64 size) ∧ w'.cell? ⟨R, 3, none⟩ = some (.slice Aa na ca) ∧ w'.cell? ⟨R, 4, none⟩ = some (.slice Ab nb cb) ∧ Fr (fun _ => False) w0 w' := by
  have F := hf.2.2.2.2.2
  refine (name_calls x w hx0 hx1 (hT.fr0 F) (hN.fr0 F)).mono ?_
  rintro r w' ⟨rfl, h⟩
  exact ⟨rfl, h5_fr hf h⟩
theorem h5_refname {w0 w : World} {R : Nat} {e at_ : Int} {Aa Ab : Option Addr} {na ca nb cb size : Nat} (x : Int) (hx0 : -9223372036854775808 ≤ x) (hx1 : x ≤ 9223372036854775807) (hf : w.cell? ⟨R, 0, none⟩ = some (.int .i64 e) ∧ w.cell? ⟨R, 1, none⟩ = some (.int .i64 at_) ∧ w.cell? ⟨R, 2, none⟩ = some (.int .u64 size) ∧ w.cell? ⟨R, 3, none⟩ = some (.slice Aa na ca) ∧ w.cell? ⟨R, 4, none⟩ = some (.slice Ab nb cb) ∧ Fr (fun _ => False) w0 w) :
    Calls Tryd.prog 35 #[.int .i64 x] w fun r w' => r = .returned (.string (txt (nameL x))) ∧ w'.cell? ⟨R, 0, none⟩ = some (.int .i64 e) ∧ w'.cell? ⟨R, 1, none⟩ = some (.int .i64 at_) ∧ w'.cell? ⟨R, 2, none⟩ = some (.int .u64 size) ∧ w'.cell? ⟨R, 3, none⟩ = some (.slice Aa na ca) ∧ w'.cell? ⟨R, 4, none⟩ = some (.slice Ab nb cb) ∧ Fr (fun _ => False) w0 w' := by
  refine (refname_calls x w hx0 hx1).mono ?_
  rintro r w' ⟨rfl, h⟩
  exact ⟨rfl, h5_fr hf h⟩

set_option maxRecDepth 20000 in
set_option maxHeartbeats 4000000 in
theorem tell_calls (e at_ x : Int) (Aw Aa Ab : Option Addr) (nw cw na ca nb cb size : Nat) (way a b : List Int) (w : World) (hT : Tab w) (hN : NamesAt w)
    (he0 : -9223372036854775808 ≤ e) (he1 : e ≤ 9223372036854775807) (ha0 : -9223372036854775808 ≤ at_) (ha1 : at_ ≤ 9223372036854775807) (hx0 : -9223372036854775808 ≤ x) (hx1 : x ≤ 9223372036854775807) (hs : size < 18446744073709551616)
    (hnw : way.length = nw) (hrw : RdI .i64 w Aw way) (hbw : I64s way) (hwm : nw ≤ maxLen)
    (hna : a.length = na) (hra : RdI .u8 w Aa a) (hba : Bytes a) (ham : na ≤ maxLen)
    (hnb : b.length = nb) (hrb : RdI .u8 w Ab b) (hbb : Bytes b) (hbm : nb ≤ maxLen) :
    Calls Tryd.prog 8 #[.agg #[.int .i64 e, .int .i64 at_, .int .u64 size, .slice Aa na ca, .slice Ab nb cb], .slice Aw nw cw, .int .i64 x] w fun r w' => r = .returned (.bool true) ∧ Fr (fun _ => False) w w' := by
  unfold maxLen at hwm ham hbm
  have HT := hid hT
  have HN := hid hN
  have HS := hid hs
  have HNW := hid hnw
  have HRW := hid hrw
  have HBW := hid hbw
  have HNA := hid hna
  have HRA := hid hra
  have HBA := hid hba
  have HNB := hid hnb
  have HRB := hid hrb
  have HBB := hid hbb
  clear hT hN hs hnw hrw hbw hna hra hba hnb hrb hbb
  obtain ⟨w1, hw1⟩ : ∃ w1, w.alloc (.cells #[.int .i64 e, .int .i64 at_, .int .u64 size, .slice Aa na ca, .slice Ab nb cb] 51) = w1 := ⟨_, rfl⟩
  have HF1 := hid (show Fr (fun _ => False) w w1 by rw [← hw1]; exact (Fr.refl _ w).alloc _)
  have HBR := hid (show Blk w1 w.heap.size 51 #[.int .i64 e, .int .i64 at_, .int .u64 size, .slice Aa na ca, .slice Ab nb cb] by rw [← hw1]; exact Blk.new w _ _)
  have HW1 := hid hw1
  clear hw1
  by_cases hbig : 100 < nw
  · go_enter Tryd.func8, Tryd.ntmps8
    go_wp2_with fail
    rw [HW1.out]
    refine (RowsG.awake_calls w1 (HT.out.fr0 HF1.out) (HN.out.fr0 HF1.out)).mono ?_
    rintro r w2 ⟨rfl, hf⟩
    have HF2 := hid (HF1.out.then_ hf (fun _ _ h => h))
    clear hf
    go_wp2_with fail
    go_ret
    exact ⟨rfl, HF2.out⟩
  · go_enter Tryd.func8, Tryd.ntmps8
    go_wp2_with fail
    rw [HW1.out]
    refine (RowsG.awake_calls w1 (HT.out.fr0 HF1.out) (HN.out.fr0 HF1.out)).mono ?_
    rintro r w2 ⟨rfl, hf⟩
    have HF2 := hid (HF1.out.then_ hf (fun _ _ h => h))
    have hb2 := HBR.out.fr hf (fun h => h)
    have c0 := hb2.cell 0
    have c1 := hb2.cell 1
    have c2 := hb2.cell 2
    have c3 := hb2.cell 3
    have c4 := hb2.cell 4
    simp at c0 c1 c2 c3 c4
    clear hf hb2
    by_cases hbig2 : 100 < na
    · go_wp2_with fail
      go_ret
      exact ⟨rfl, HF2.out⟩
    · by_cases hbig3 : 100 < nb
      · go_wp2_with fail
        go_ret
        exact ⟨rfl, HF2.out⟩
      · have hw100 : nw ≤ 100 := by omega
        have ha100 : na ≤ 100 := by omega
        have hb100 : nb ≤ 100 := by omega
        have HT2 := hid (HT.out.fr0 HF2.out)
        have HN2 := hid (HN.out.fr0 HF2.out)
        have HRW2 := hid (HRW.out.fr0 HF2.out)
        have HRA2 := hid (HRA.out.fr0 HF2.out)
        have HRB2 := hid (HRB.out.fr0 HF2.out)
        go_wp2_with fail
        go_region_held3 (fun w' => w'.cell? ⟨w.heap.size, 0, none⟩ = some (.int .i64 e) ∧ w'.cell? ⟨w.heap.size, 1, none⟩ = some (.int .i64 at_) ∧ w'.cell? ⟨w.heap.size, 2, none⟩ = some (.int .u64 size) ∧ w'.cell? ⟨w.heap.size, 3, none⟩ = some (.slice Aa na ca) ∧ w'.cell? ⟨w.heap.size, 4, none⟩ = some (.slice Ab nb cb) ∧ Fr (fun _ => False) w2 w')
          (first | assumption | exact ⟨c0, c1, c2, c3, c4, (Fr.refl _ _).drew⟩ | exact ⟨c0, c1, c2, c3, c4, Fr.refl _ _⟩)
          (first
            | ((go_at_call 30; refine (h5_row HT2.out HN2.out he0 he1 ha0 ha1 HS.out HNW.out HRW2.out HBW.out hw100 HNA.out HRA2.out HBA.out ha100 HNB.out HRB2.out HBB.out hb100 (by assumption)).mono ?_; rintro r w4 ⟨rfl, hf⟩))
            | ((go_at_call 31; refine (h5_ref he0 he1 ha0 ha1 HS.out HNW.out HRW2.out HBW.out hw100 HNA.out HRA2.out HBA.out ha100 HNB.out HRB2.out HBB.out hb100 (by assumption)).mono ?_; rintro r w4 ⟨rfl, hf⟩))
            | ((go_at_call 32; refine (h5_way HT2.out HNW.out HRW2.out HBW.out hw100 (by assumption)).mono ?_; rintro r w4 ⟨rfl, hf⟩))
            | ((go_at_call 33; refine (h5_refway HNW.out HRW2.out HBW.out hw100 (by assumption)).mono ?_; rintro r w4 ⟨rfl, hf⟩))
            | ((go_at_call 34; refine (h5_name x hx0 hx1 HT2.out HN2.out (by assumption)).mono ?_; rintro r w4 ⟨rfl, hf⟩))
            | ((go_at_call 35; refine (h5_refname x hx0 hx1 (by assumption)).mono ?_; rintro r w4 ⟨rfl, hf⟩)))
        all_goals
          go_wp2_with fail
          go_ret
          exact ⟨ret_bool (by simp), HF2.out.trans hf.2.2.2.2.2⟩
end Go.Proofs.YtgdhchknegjpfaaDoor.RowsH
