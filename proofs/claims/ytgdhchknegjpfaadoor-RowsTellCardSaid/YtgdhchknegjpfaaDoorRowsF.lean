/- Layer rows: the row. -/
import Derived.Test.YtgdhchknegjpfaaDoorRowsE
import Derived.Test.YtgdhchknegjpfaaDoorOwn
import Derived.Deep.RegionHeld3
set_option linter.unusedVariables false
set_option linter.unusedSimpArgs false
namespace Go.Proofs.YtgdhchknegjpfaaDoor.RowsF
open Go.IntWalk Go.RowKit Go.Proofs.YtgdhchknegjpfaaDoor.Mem Go.Proofs.YtgdhchknegjpfaaDoor.Txt Go.Proofs.YtgdhchknegjpfaaDoor.Itoa Go.Proofs.YtgdhchknegjpfaaDoor.BitsA Go.Proofs.YtgdhchknegjpfaaDoor.HexA Go.Proofs.YtgdhchknegjpfaaDoor.RowsA Go.Proofs.YtgdhchknegjpfaaDoor.RowsC Go.Proofs.YtgdhchknegjpfaaDoor.RowsE Go.Proofs.YtgdhchknegjpfaaDoor.Own

theorem infoStr : (Tryd.prog.info? 9).map (fun i => (i.zero, i.size, i.bytes)) = some (some (.string ByteArray.empty), 1, 16) := by kernel_rfl
/-- Texts, as cells. -/
def strs (ls : List (List UInt8)) : List Value := ls.map fun l => Value.string (txt l)
theorem strs_one (ls : List (List UInt8)) : ∀ u ∈ strs ls, u.oneCell' = true := by
  intro u hu
  simp only [strs, List.mem_map] at hu
  obtain ⟨l, _, rfl⟩ := hu
  rfl
theorem strs_len (ls : List (List UInt8)) : (strs ls).length = ls.length := by simp [strs]
/-- A result's cells. -/
def resC (e at_ : Int) (size : Nat) (Aa Ab : Option Addr) (na ca nb cb : Nat) : Array Value := #[.int .i64 e, .int .i64 at_, .int .u64 size, .slice Aa na ca, .slice Ab nb cb]

/-- What is known of the list, at the cut behind the verdict. -/
def Pre (B : Nat) (e at_ : Int) (way : List Int) (v : Value) (m : Nat) (ls : List (List UInt8)) (wx : World) : Prop :=
  OwnG 9 1 wx B v m (strs ls) ∧ ls.length = m ∧ 1 ≤ m ∧ m ≤ 6 ∧ Lib.join ls [32] = preL e at_ way
/-- Two cells, and all that was there: behind a call that turns nothing. -/
theorem held_fr {w0 w w' : World} {p q : Addr} {x y : Value} (h : w.cell? p = some x ∧ w.cell? q = some y ∧ Fr (fun _ => False) w0 w) (k : Fr (fun _ => False) w w') : w'.cell? p = some x ∧ w'.cell? q = some y ∧ Fr (fun _ => False) w0 w' :=
  ⟨(k.cell (World.block_lt_of_cell? w p h.1) (fun h => h)).trans h.1, (k.cell (World.block_lt_of_cell? w q h.2.1) (fun h => h)).trans h.2.1, h.2.2.then_ k (fun _ _ h => h)⟩
theorem held_alloc {w0 w : World} {p q : Addr} {x y : Value} (h : w.cell? p = some x ∧ w.cell? q = some y ∧ Fr (fun _ => False) w0 w) (o : Obj) : (w.alloc o).cell? p = some x ∧ (w.alloc o).cell? q = some y ∧ Fr (fun _ => False) w0 (w.alloc o) := held_fr h ((Fr.refl _ w).alloc o)
theorem held_drew {w0 w : World} {p q : Addr} {x y : Value} (h : w.cell? p = some x ∧ w.cell? q = some y ∧ Fr (fun _ => False) w0 w) : w.drew.cell? p = some x ∧ w.drew.cell? q = some y ∧ Fr (fun _ => False) w0 w.drew := held_fr h (Fr.refl _ w).drew
theorem name_from (e : Int) (h0 : -9223372036854775808 ≤ e) (h1 : e ≤ 9223372036854775807) (w0 w : World) (hT : Tab w0) (hN : NamesAt w0) {p q : Addr} {x y : Value} (hf : w.cell? p = some x ∧ w.cell? q = some y ∧ Fr (fun _ => False) w0 w) :
    Calls Tryd.prog 34 #[.int .i64 e] w fun r w' => r = .returned (.string (txt (nameL e))) ∧ w'.cell? p = some x ∧ w'.cell? q = some y ∧ Fr (fun _ => False) w0 w' := by
  refine (name_calls e w h0 h1 (hT.fr0 hf.2.2) (hN.fr0 hf.2.2)).mono ?_
  rintro r w' ⟨rfl, h⟩
  exact ⟨rfl, held_fr hf h⟩
theorem itoa_from (e : Int) (h0 : -9223372036854775808 ≤ e) (h1 : e ≤ 9223372036854775807) (w0 w : World) (hT : Tab w0) {p q : Addr} {x y : Value} (hf : w.cell? p = some x ∧ w.cell? q = some y ∧ Fr (fun _ => False) w0 w) :
    Calls Tryd.prog 48 #[.int .i64 e] w fun r w' => r = .returned (.string (txt (Lib.itoa e))) ∧ w'.cell? p = some x ∧ w'.cell? q = some y ∧ Fr (fun _ => False) w0 w' := by
  refine (itoa_calls e w h0 h1 (hT.fr0 hf.2.2)).mono ?_
  rintro r w' ⟨rfl, h⟩
  exact ⟨rfl, held_fr hf h⟩
theorem way_from (A : Option Addr) (n c : Nat) (l : List Int) (w0 w : World) (hT : Tab w0) (hn : l.length = n) (hm : n ≤ 100) (hr : RdI .i64 w0 A l) (hb : I64s l) {p q : Addr} {x y : Value} (hf : w.cell? p = some x ∧ w.cell? q = some y ∧ Fr (fun _ => False) w0 w) :
    Calls Tryd.prog 32 #[.slice A n c] w fun r w' => r = .returned (.string (txt (wayL l))) ∧ w'.cell? p = some x ∧ w'.cell? q = some y ∧ Fr (fun _ => False) w0 w' := by
  refine (way_calls A n c l w (hT.fr0 hf.2.2) hn hm (hr.fr0 hf.2.2) hb).mono ?_
  rintro r w' ⟨rfl, h⟩
  exact ⟨rfl, held_fr hf h⟩
theorem fin6 {e at_ : Int} {way : List Int} {w w3 wk : World} {p q : Addr} {x y : Value} (h3 : Fr (fun _ => False) w w3) (hk : wk.cell? p = some x ∧ wk.cell? q = some y ∧ Fr (fun _ => False) w3 wk) (hp : preL e at_ way = Lib.join [[114, 101, 106, 101, 99, 116], nameL e, [97, 116], Lib.itoa at_, [105, 110], wayL way] [32]) :
    ∃ (A5 : Option Addr) (m c5 : Nat) (ls : List (List UInt8)), Value.slice (some ⟨wk.heap.size, 0, none⟩) 6 6 = .slice A5 m c5 ∧ m ≤ c5 ∧ Hid (Pre w.heap.size e at_ way (.slice A5 m c5) m ls (wk.alloc (.cells #[.string { data := #[114, 101, 106, 101, 99, 116] }, .string (txt (nameL e)), .string { data := #[97, 116] }, .string (txt (Lib.itoa at_)), .string { data := #[105, 110] }, .string (txt (wayL way))] 9))) ∧ Hid (Fr (fun _ => False) w3 (wk.alloc (.cells #[.string { data := #[114, 101, 106, 101, 99, 116] }, .string (txt (nameL e)), .string { data := #[97, 116] }, .string (txt (Lib.itoa at_)), .string { data := #[105, 110] }, .string (txt (wayL way))] 9))) := by
  refine ⟨_, 6, 6, [[114, 101, 106, 101, 99, 116], nameL e, [97, 116], Lib.itoa at_, [105, 110], wayL way], rfl, Nat.le_refl _, hid ⟨?_, rfl, by omega, by omega, hp.symm⟩, hid (hk.2.2.alloc _)⟩
  have hb : w.heap.size ≤ wk.heap.size := Nat.le_trans h3.size hk.2.2.size
  exact OwnG.blk (sz := 1) (n := 6) (Blk.new wk _ _) hb rfl (by simp [maxLen])
theorem join_snoc (l : List (List UInt8)) (h : l ≠ []) (x : List UInt8) : Lib.join (l ++ [x]) [32] = Lib.join l [32] ++ 32 :: x := by
  cases l with
  | nil => exact absurd rfl h
  | cons y r =>
    rw [List.cons_append, Lib.join_cons, Lib.join_cons]
    simp [Lib.joinTail]
/-- A digest's digits, if it has any. -/
def opt (b : List Int) : List (List UInt8) := if b = [] then [] else [hexL b]
theorem join_opt (l : List (List UInt8)) (h : l ≠ []) (b : List Int) : Lib.join (l ++ opt b) [32] = Lib.join l [32] ++ digL b := by
  unfold opt digL
  split
  · simp
  · exact join_snoc l h _
theorem opt_len (b : List Int) : (opt b).length ≤ 1 := by unfold opt; split <;> simp
def ext (a b : List Int) : Nat → List (List UInt8)
  | 0 => []
  | 1 => opt a
  | _ => opt a ++ opt b
theorem pre_len (e at_ : Int) (way : List Int) (he0 : -9223372036854775808 ≤ e) (he1 : e ≤ 9223372036854775807) (ha0 : -9223372036854775808 ≤ at_) (ha1 : at_ ≤ 9223372036854775807) (hb : I64s way) (hn : way.length ≤ 100) : (preL e at_ way).length ≤ 2300 := by
  unfold preL
  split
  · simp
  · have h1 := name_len e he0 he1
    have h2 := Dec.itoa_len at_ ha0 ha1
    have h3 := wayL_len way hb hn
    simp only [List.length_append, List.length_cons, List.length_nil]
    omega
theorem dig_len (b : List Int) (h : b.length ≤ 100) : (digL b).length ≤ 201 := by
  unfold digL
  split
  · simp
  · simp only [List.length_cons, hexL_length]; omega
set_option maxRecDepth 20000 in
set_option maxHeartbeats 4000000 in
theorem row_calls (e at_ : Int) (Aw Aa Ab : Option Addr) (nw cw na ca nb cb size : Nat) (way a b : List Int) (w : World) (hT : Tab w) (hNm : NamesAt w)
    (he0 : -9223372036854775808 ≤ e) (he1 : e ≤ 9223372036854775807) (ha0 : -9223372036854775808 ≤ at_) (ha1 : at_ ≤ 9223372036854775807) (hs : size < 18446744073709551616)
    (hnw : way.length = nw) (hrw : RdI .i64 w Aw way) (hbw : I64s way) (hw100 : nw ≤ 100)
    (hna : a.length = na) (hra : RdI .u8 w Aa a) (hba : Bytes a) (ha100 : na ≤ 100)
    (hnb : b.length = nb) (hrb : RdI .u8 w Ab b) (hbb : Bytes b) (hb100 : nb ≤ 100) :
    Calls Tryd.prog 30 #[.agg (resC e at_ size Aa Ab na ca nb cb), .slice Aw nw cw] w fun r w' => r = .returned (.string (txt (rowL e at_ way size a b))) ∧ Fr (fun _ => False) w w' := by
  have HT := hid hT
  have HNm := hid hNm
  have HS := hid hs
  have HNW := hid hnw
  have HRW := hid hrw
  have HBW := hid hbw
  have HNA := hid hna
  have HRA := hid hra
  have HBA := hid hba
  have HNB := hid hnb
  have HRB := hid hrb
  have HBB := hid hbb
  clear hT hNm hs hnw hrw hbw hna hra hba hnb hrb hbb
  unfold resC
  go_enter Tryd.func30, Tryd.ntmps30
  go_upto_if 14 with fail
  obtain ⟨w1, hw1⟩ : ∃ w1, (w.alloc (.cells #[.int .i64 e, .int .i64 at_, .int .u64 size, .slice Aa na ca, .slice Ab nb cb] 51)) = w1 := ⟨_, rfl⟩
  have HF1 := hid (show Fr (fun _ => False) w w1 by rw [← hw1]; exact (Fr.refl _ w).alloc _)
  have HBR := hid (show Blk w1 w.heap.size 51 #[.int .i64 e, .int .i64 at_, .int .u64 size, .slice Aa na ca, .slice Ab nb cb] by rw [← hw1]; exact Blk.new w _ _)
  have hs1 : w1.heap.size = w.heap.size + 1 := by rw [← hw1]; simp
  have HS1 := hid hs1
  rw [hw1]
  obtain ⟨w3, hw3⟩ : ∃ w3, (w1.alloc (.cells #[.string { data := #[97, 99, 99, 101, 112, 116] }] 9)).alloc (.cells #[.int .i64 e, .int .i64 at_] 49) = w3 := ⟨_, rfl⟩
  have HF3 := hid (show Fr (fun _ => False) w1 w3 by rw [← hw3]; exact ((Fr.refl _ w1).alloc _).alloc _)
  have HBL := hid (show Blk w3 (w.heap.size + 1) 9 (strs [[97, 99, 99, 101, 112, 116]]).toArray by
    rw [← hw3, ← hs1]
    exact (Blk.new w1 _ _).alloc _)
  have HBV := hid (show Blk w3 (w.heap.size + 1 + 1) 49 #[.int .i64 e, .int .i64 at_] by
    rw [← hw3, ← hs1]
    have h := Blk.new (w1.alloc (.cells #[.string { data := #[97, 99, 99, 101, 112, 116] }] 9)) 49 #[.int .i64 e, .int .i64 at_]
    rwa [show (w1.alloc (.cells #[.string { data := #[97, 99, 99, 101, 112, 116] }] 9)).heap.size = w1.heap.size + 1 by simp] at h)
  rw [hw3]
  clear hw3 hw1 hs1
  go_cut [5] (fun s5 wx => ∃ (A5 : Option Addr) (m c5 : Nat) (ls : List (List UInt8)), s5 = .slice A5 m c5 ∧ m ≤ c5 ∧ Hid (Pre w1.heap.size e at_ way (.slice A5 m c5) m ls wx) ∧ Hid (Fr (fun _ => False) w3 wx))
  case first =>
    by_cases he : e = 0
    · have h1 : (e != 0) = false := by simp [he]
      have HP := hid (show Pre w1.heap.size e at_ way (.slice (some ⟨w.heap.size + 1, 0, none⟩) 1 1) 1 [[97, 99, 99, 101, 112, 116]] w3 by
        refine ⟨?_, rfl, by omega, by omega, ?_⟩
        · have := OwnG.blk (sz := 1) (n := 1) (base := w1.heap.size) HBL.out (by rw [HS1.out]; exact Nat.le_refl _) rfl (by simp [maxLen])
          simpa using this
        · rw [preL, if_pos he]; rfl)
      clear he
      go_wp2_with fail
      go_meet
      case rel => exact ⟨_, 1, 1, _, rfl, Nat.le_refl _, HP, hid (Fr.refl _ _)⟩
    · have h1 : (e != 0) = true := by simp [he]
      have v0 := HBV.out.cell 0
      have v1 := HBV.out.cell 1
      simp at v0 v1
      have HT3 := hid ((HT.out.fr0 HF1.out).fr0 HF3.out)
      have HN3 := hid ((HNm.out.fr0 HF1.out).fr0 HF3.out)
      have HW3 := hid ((HRW.out.fr0 HF1.out).fr0 HF3.out)
      have hVlt := hid (HBV.out.lt)
      have HPre := hid (show preL e at_ way = Lib.join [[114, 101, 106, 101, 99, 116], nameL e, [97, 116], Lib.itoa at_, [105, 110], wayL way] [32] by
        rw [preL, if_neg he]
        simp [Lib.join, List.intercalate])
      clear he
      go_wp2_with fail
      go_region_held3 (fun w' => w'.cell? ⟨w.heap.size + 1 + 1, 0, none⟩ = some (.int .i64 e) ∧ w'.cell? ⟨w.heap.size + 1 + 1, 1, none⟩ = some (.int .i64 at_) ∧ Fr (fun _ => False) w3 w')
        (first | assumption | exact ⟨v0, v1, (Fr.refl _ _).drew⟩ | exact ⟨v0, v1, Fr.refl _ _⟩ | exact held_alloc (by assumption) _ | exact held_drew (by assumption))
        (first
          | ((go_at_call 34; refine (name_from e he0 he1 w3 _ HT3.out HN3.out (by assumption)).mono ?_; rintro r w4 ⟨rfl, hf⟩))
          | ((go_at_call 48; refine (itoa_from at_ ha0 ha1 w3 _ HT3.out (by assumption)).mono ?_; rintro r w4 ⟨rfl, hf⟩))
          | ((go_at_call 32; refine (way_from Aw nw cw way w3 _ HT3.out HNW.out hw100 HW3.out HBW.out (by assumption)).mono ?_; rintro r w4 ⟨rfl, hf⟩)))
      all_goals
        go_wp2_with fail
        go_meet
        case rel => exact fin6 HF3.out (by assumption) HPre.out
  case rest =>
    obtain ⟨A5, m, c5, ls, rfl, hm5, HP, HF4⟩ := hcut
    have HFw := hid (HF3.out.trans HF4.out)
    have HBR4 := hid (HBR.out.fr HFw.out (fun h => h))
    clear HBL HBV HF3 HF4
    have r2 := HBR4.out.cell 2
    simp at r2
    go_wp2_with fail
    refine (FmtU.fmtu_calls size HS.out wc ((HT.out.fr0 HF1.out).fr0 HFw.out)).mono ?_
    rintro r w5 ⟨rfl, hf⟩
    have HF5 := hid (HFw.out.then_ hf (fun _ _ h => h))
    have HO5 := hid (show OwnG 9 1 w5 w1.heap.size (.slice A5 m c5) m (strs ls) from HP.out.1.fr0 hf)
    obtain ⟨hl0, hm1, hm6, hjn⟩ := HP.out.2
    have HLM := hid hl0
    have HJN := hid hjn
    clear hf HP HFw HBR4 r2 hl0 hjn
    go_wp2_with (refine wpList_appG1 rfl (.tmp 24) (.tmp 28) 83 rfl (.string ByteArray.empty) 16 Tryd.underlying83 infoStr rfl (by decide) w5 #[.string (txt (Lib.decDigits size))] 9 _ m (strs ls) rfl HO5.out rfl rfl (by simp [Value.oneCell']) (by omega) HF5.out.size ?_; intro v6 w6 HO6 HK6; have HF6 := hid (HK6.out (fun _ => False) w1 HF5.out (Nat.le_refl _)); have r3 := (HBR.out.fr HF6.out (fun h => h)).cell 3; have r4 := (HBR.out.fr HF6.out (fun h => h)).cell 4; simp at r3 r4)
    have HBD := hid (Blk.new w6 32 #[.slice Aa na ca, .slice Ab nb cb])
    obtain ⟨w7, hw7⟩ : ∃ w7, w6.alloc (.cells #[.slice Aa na ca, .slice Ab nb cb] 32) = w7 := ⟨_, rfl⟩
    have HF7 := hid (show Fr (fun _ => False) w1 w7 by rw [← hw7]; exact HF6.out.alloc _)
    have HO7 := hid (show OwnG 9 1 w7 w1.heap.size v6 (m + 1) (strs (ls ++ [Lib.decDigits size])) by
      rw [← hw7, show strs (ls ++ [Lib.decDigits size]) = strs ls ++ [.string (txt (Lib.decDigits size))] by simp [strs]]
      exact HO6.out.fr0 ((Fr.refl _ w6).alloc _))
    rw [hw7] at HBD ⊢
    have HV6 := HO6
    clear hw7 r3 r4 HO6 HK6 HF6 HO5
    obtain ⟨D, hD⟩ : ∃ D, w6.heap.size = D := ⟨_, rfl⟩
    have HV7 := hid (show ∀ g, v6.ownBlock = some g → g ≠ D by
      intro g hg e
      rw [← hD] at e
      exact absurd (HV6.out.lt g hg).2 (by omega))
    rw [hD] at HBD ⊢
    clear hD HV6
    obtain ⟨A7, c7, rfl, hc7, _, _⟩ := HO7.out.form
    go_loopw [5, 36] (fun v5 i wr => ∃ (k mm : Nat) (A : Option Addr) (c : Nat) (lk : List (List UInt8)), k ≤ 2 ∧ mm ≤ 7 + k ∧ 1 ≤ mm ∧ mm ≤ c ∧ i = .int .i64 k ∧ v5 = .slice A mm c ∧ Hid (lk = ls ++ [Lib.decDigits size] ++ ext a b k) ∧ Hid (OwnG 9 1 wr w1.heap.size (.slice A mm c) mm (strs lk)) ∧ Hid (∀ g, (Value.slice A mm c).ownBlock = some g → g ≠ D) ∧ Hid (Blk wr D 32 #[.slice Aa na ca, .slice Ab nb cb]) ∧ Hid (Fr (fun _ => False) w1 wr)) (fun _ i _ => 2 - (intOf i).toNat)
    case atStart => exact ⟨0, m + 1, A7, c7, ls ++ [Lib.decDigits size], by omega, by omega, by omega, hc7, rfl, rfl, hid (by simp [ext]), HO7, HV7, HBD, HF7⟩
    case round =>
      obtain ⟨k, mm, A, c, lk, hk, hmm, hmm1, hmc, rfl, rfl, HLK, HO, HV, HBD, HF⟩ := hrel
      by_cases hlt : k < 2
      · obtain ⟨Ax, nx, cx, xs, hcx, hnx, hrx, hbx, hx100, hext⟩ : ∃ (Ax : Option Addr) (nx cx : Nat) (xs : List Int), wr.cell? ⟨D, k, none⟩ = some (.slice Ax nx cx) ∧ xs.length = nx ∧ RdI .u8 wr Ax xs ∧ Bytes xs ∧ nx ≤ 100 ∧ ext a b (k + 1) = ext a b k ++ opt xs := by
          have hk01 : k = 0 ∨ k = 1 := by omega
          rcases hk01 with rfl | rfl
          · exact ⟨Aa, na, ca, a, by rw [HBD.out.cell]; rfl, HNA.out, (HRA.out.fr0 HF1.out).fr0 HF.out, HBA.out, ha100, rfl⟩
          · exact ⟨Ab, nb, cb, b, by rw [HBD.out.cell]; rfl, HNB.out, (HRB.out.fr0 HF1.out).fr0 HF.out, HBB.out, hb100, rfl⟩
        have HNX := hid hnx
        have HRX := hid hrx
        have HBX := hid hbx
        have HEX := hid hext
        have hk0 : (0 : Int) ≤ (k : Int) := by omega
        have hk2 : (k : Int) < 2 := by omega
        clear hnx hrx hbx hext
        by_cases h0 : nx = 0
        · have hn0 : ¬ 0 < nx := by omega
          have HE2 := hid (show ext a b (k + 1) = ext a b k by rw [HEX.out, opt, if_pos (List.eq_nil_of_length_eq_zero (by rw [HNX.out]; exact h0))]; simp)
          clear h0
          go_wp2_with fail
          go_roundw
          case rel => exact ⟨k + 1, mm, A, c, lk, by omega, by omega, hmm1, hmc, by go_num, rfl, hid (by rw [HE2.out]; exact HLK.out), HO, HV, HBD, HF⟩
          case measure => simp [intOf]; omega
        · have hn0 : 0 < nx := by omega
          have HE2 := hid (show ext a b (k + 1) = ext a b k ++ [hexL xs] by rw [HEX.out, opt, if_neg (by intro h; subst h; have := HNX.out; simp at this; omega)])
          clear h0
          go_wp2_with fail
          refine (HexB.put_calls Ax nx cx xs wr HNX.out HRX.out HBX.out (by omega)).mono ?_
          rintro r w8 ⟨rfl, hf⟩
          have HF8 := hid (HF.out.then_ hf (fun _ _ h => h))
          have HO8 := hid (HO.out.fr0 hf)
          have HBD8 := hid (HBD.out.fr hf (fun h => h))
          have HD8 := hid (HBD8.out.lt)
          clear hf hcx HF HO HBD
          go_wp2_with (refine wpList_appG2 rfl (.tmp 43) (.tmp 46) 83 rfl (.string ByteArray.empty) 16 Tryd.underlying83 infoStr rfl (by decide) w8 #[.string (txt (hexL xs))] 9 _ mm (strs lk) rfl HO8.out rfl rfl (by simp [Value.oneCell']) (by omega) HF8.out.size ?_; intro v9 w9 HO9 HK9 HB9)
          obtain ⟨A9, c9, rfl, hc9, _, _⟩ := HO9.out.form
          go_roundw
          case rel =>
            refine ⟨k + 1, mm + 1, A9, c9, lk ++ [hexL xs], by omega, by omega, by omega, hc9, by go_num, rfl, hid (by rw [HLK.out, HE2.out]; simp), hid ?_, hid ?_, hid (HBD8.out.fr HK9.out (fun h => HV.out D h rfl)), hid (HF8.out.then_ HK9.out (fun i hi e => by have := (HO8.out.lt i e).1; omega))⟩
            · have := HO9.out
              rwa [show strs lk ++ (#[Value.string (txt (hexL xs))] : Array Value).toList = strs (lk ++ [hexL xs]) by simp [strs]] at this
            · intro g hg e
              rcases HB9.out with h | h
              · exact HV.out g (h.symm.trans hg) e
              · rw [h] at hg
                injection hg with hg
                have := HD8.out
                omega
          case measure => simp [intOf]; omega
      · obtain rfl : k = 2 := by omega
        have HJ := hid (show Lib.join lk [32] = rowL e at_ way size a b by
          have h0 : ls ≠ [] := by intro h; have := HLM.out; rw [h] at this; simp at this; omega
          have e1 : lk = ls ++ [Lib.decDigits size] ++ opt a ++ opt b := by rw [HLK.out]; simp [ext]
          rw [e1, join_opt _ (by simp), join_opt _ (by simp), join_snoc _ h0, HJN.out]
          rfl)
        obtain ⟨_, _, hv, _, _, hA⟩ := HO.out.form
        injection hv with hv1 hv2 hv3
        obtain ⟨ad, rfl⟩ : ∃ ad, A = some ad := by
          cases A with
          | none => have := (HO.out.rd.1 0 (.string (txt (lk.getD 0 []))) (by
              have hl := HO.out.len
              rw [strs_len] at hl
              have : 0 < lk.length := by omega
              simp [strs, List.getD_eq_getElem?_getD, List.getElem?_eq_getElem this])); obtain ⟨_, h, _⟩ := this; cases h
          | some ad => exact ⟨ad, rfl⟩
        obtain ⟨g, rfl, _, hg⟩ := hA ad hv1.symm
        have HLL := hid (show lk.length = mm by have := HO.out.len; rw [strs_len] at this; omega)
        have HLJ := hid (show (rowL e at_ way size a b).length ≤ 3000 by
          have h1 := pre_len e at_ way he0 he1 ha0 ha1 HBW.out (by rw [HNW.out]; exact hw100)
          have h2 := dig_len a (by rw [HNA.out]; exact ha100)
          have h3 := dig_len b (by rw [HNB.out]; exact hb100)
          have h4 := Dec.dec_len size 19 (by have := HS.out; omega)
          unfold rowL
          simp only [List.length_append, List.length_cons]
          omega)
        have hmap : ((lk.map txt).map (·.data.toList)) = lk := by
          rw [List.map_map]
          conv => rhs; rw [← List.map_id lk]
          exact List.map_congr_left (fun l _ => txt_data l)
        have HMP := hid hmap
        have HG := hid hg
        clear hv1 hv2 hv3 hA hg hmap
        go_wp2_with fail
        have hj := Tryd.strings_Join g 0 c (lk.map txt) { data := #[32] } wr (fun j x hx => by
          rw [Nat.zero_add]
          have := HO.out.rd.1 j (.string x) (by
            rw [List.getElem?_map] at hx
            obtain ⟨l, hl, rfl⟩ := Option.map_eq_some_iff.1 hx
            simp [strs, hl])
          obtain ⟨ad, he, _, hc⟩ := this
          injection he with he
          subst he
          rw [add_plain, Nat.zero_add] at hc
          exact hc) HG.out (by rw [List.length_map, HLL.out]; omega) (by rw [List.length_map, HLL.out]; exact hmc) (by rw [HMP.out, show (ByteArray.mk #[32]).data.toList = [32] from rfl, HJ.out]; have := HLJ.out; omega)
        rw [HMP.out, show (ByteArray.mk #[32]).data.toList = [32] from rfl, HJ.out, List.length_map, HLL.out] at hj
        refine hj.mono ?_
        rintro r w8 ⟨rfl, hb8⟩
        have HF8 := hid ((HF1.out.trans HF.out).trans (Fr.below hb8))
        clear hj hb8
        go_wp2_with fail
        go_ret
        exact ⟨rfl, HF8.out⟩
end Go.Proofs.YtgdhchknegjpfaaDoor.RowsF
