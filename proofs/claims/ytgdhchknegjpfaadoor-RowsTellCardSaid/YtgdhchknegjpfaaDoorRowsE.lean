/- Layer rows: the document's row. -/
import Derived.Test.YtgdhchknegjpfaaDoorRowsD
import Derived.Deep.DeepCutAuto
import Derived.Deep.Cut
set_option linter.unusedVariables false
set_option linter.unusedSimpArgs false
namespace Go.Proofs.YtgdhchknegjpfaaDoor.RowsE
open Go.IntWalk Go.RowKit Go.Proofs.YtgdhchknegjpfaaDoor.Mem Go.Proofs.YtgdhchknegjpfaaDoor.Txt Go.Proofs.YtgdhchknegjpfaaDoor.Itoa Go.Proofs.YtgdhchknegjpfaaDoor.BitsA Go.Proofs.YtgdhchknegjpfaaDoor.HexA Go.Proofs.YtgdhchknegjpfaaDoor.RowsA Go.Proofs.YtgdhchknegjpfaaDoor.RowsC Go.Proofs.YtgdhchknegjpfaaDoor.RowsD

/-- A text, of which its length alone is to be known. -/
theorem opq (l : List UInt8) (N : Nat) (h : l.length ≤ N) : ∃ s : ByteArray, txt l = s ∧ s.size ≤ N := ⟨_, rfl, by rw [txt_size]; exact h⟩
def preL (e at_ : Int) (way : List Int) : List UInt8 :=
  if e = 0 then [97, 99, 99, 101, 112, 116] else [114, 101, 106, 101, 99, 116, 32] ++ nameL e ++ [32, 97, 116, 32] ++ Lib.itoa at_ ++ [32, 105, 110, 32] ++ wayL way
def digL (b : List Int) : List UInt8 := if b = [] then [] else 32 :: hexL b
def rowL (e at_ : Int) (way : List Int) (size : Nat) (a b : List Int) : List UInt8 := preL e at_ way ++ (32 :: Lib.decDigits size) ++ digL a ++ digL b
theorem wayL_len (l : List Int) (h : I64s l) (hn : l.length ≤ 100) : (wayL l).length ≤ 2200 := by
  unfold wayL
  split
  · simp
  · have := steps_len l h; omega

set_option maxRecDepth 20000 in
set_option maxHeartbeats 4000000 in
theorem refrow_calls (e at_ : Int) (Aw Aa Ab : Option Addr) (nw cw na ca nb cb size : Nat) (way a b : List Int) (w : World)
    (he0 : -9223372036854775808 ≤ e) (he1 : e ≤ 9223372036854775807) (ha0 : -9223372036854775808 ≤ at_) (ha1 : at_ ≤ 9223372036854775807) (hs : size < 18446744073709551616)
    (hnw : way.length = nw) (hrw : RdI .i64 w Aw way) (hbw : I64s way) (hw100 : nw ≤ 100)
    (hna : a.length = na) (hra : RdI .u8 w Aa a) (hba : Bytes a) (ha100 : na ≤ 100)
    (hnb : b.length = nb) (hrb : RdI .u8 w Ab b) (hbb : Bytes b) (hb100 : nb ≤ 100) :
    Calls Tryd.prog 31 #[.int .i64 e, .int .i64 at_, .slice Aw nw cw, .int .u64 size, .slice Aa na ca, .slice Ab nb cb] w fun r w' => r = .returned (.string (txt (rowL e at_ way size a b))) ∧ Fr (fun _ => False) w w' := by
  have HS := hid hs
  have HNW := hid hnw
  have HRW := hid hrw
  have HBW := hid hbw
  have HNA := hid hna
  have HRA := hid hra
  have HBA := hid hba
  have HNB := hid hnb
  have HRB := hid hrb
  have HBB := hid hbb
  clear hs hnw hrw hbw hna hra hba hnb hrb hbb
  go_enter Tryd.func31, Tryd.ntmps31
  go_upto_if 15 with fail
  go_cut [13] (fun s13 wx => ∃ P : ByteArray, s13 = .string P ∧ P.size ≤ 3000 ∧ Hid (P = txt (preL e at_ way)) ∧ Hid (Fr (fun _ => False) w wx))
  case first =>
    by_cases he : e = 0
    · have h1 : (e != 0) = false := by simp [he]
      have HP := hid (show ({ data := #[97, 99, 99, 101, 112, 116] } : ByteArray) = txt (preL e at_ way) by rw [preL, if_pos he]; rfl)
      clear he
      go_wp2_with fail
      go_meet
      case rel => exact ⟨_, rfl, by decide, HP, hid (Fr.refl _ _)⟩
    · have h1 : (e != 0) = true := by simp [he]
      have HP := hid (show preL e at_ way = [114, 101, 106, 101, 99, 116, 32] ++ nameL e ++ [32, 97, 116, 32] ++ Lib.itoa at_ ++ [32, 105, 110, 32] ++ wayL way by rw [preL, if_neg he])
      clear he
      go_wp2_with fail
      refine (refname_calls e w he0 he1).mono ?_
      rintro r w1 ⟨rfl, hf⟩
      have HF := hid hf
      obtain ⟨s1, hs1, hz1⟩ := opq (nameL e) 30 (name_len e he0 he1)
      rw [hs1]
      have HS1 := hid hs1
      clear hf hs1
      go_wp2_with fail
      refine (Dec.text_calls at_ w1 ha0 ha1).mono ?_
      rintro r w2 ⟨rfl, rfl⟩
      obtain ⟨s2, hs2, hz2⟩ := opq (Lib.itoa at_) 21 (Dec.itoa_len at_ ha0 ha1)
      rw [hs2]
      have HS2 := hid hs2
      clear hs2
      go_wp2_with fail
      refine (refway_calls Aw nw cw way w1 HNW.out hw100 (HRW.out.fr0 HF.out) HBW.out).mono ?_
      rintro r w2 ⟨rfl, rfl⟩
      obtain ⟨s3, hs3, hz3⟩ := opq (wayL way) 2200 (wayL_len way HBW.out (by rw [HNW.out]; exact hw100))
      rw [hs3]
      have HS3 := hid hs3
      clear hs3
      go_wp2_with fail
      go_meet
      case rel =>
        refine ⟨_, rfl, ?_, hid ?_, HF⟩
        · simp only [ByteArray.size_append]
          have e1 : (ByteArray.mk #[114, 101, 106, 101, 99, 116, 32]).size = 7 := rfl
          have e2 : (ByteArray.mk #[32, 97, 116, 32]).size = 4 := rfl
          have e3 : (ByteArray.mk #[32, 105, 110, 32]).size = 4 := rfl
          omega
        · rw [HP.out, ← HS1.out, ← HS2.out, ← HS3.out]
          rw [show (ByteArray.mk #[114, 101, 106, 101, 99, 116, 32]) = txt [114, 101, 106, 101, 99, 116, 32] from rfl, show (ByteArray.mk #[32, 97, 116, 32]) = txt [32, 97, 116, 32] from rfl, show (ByteArray.mk #[32, 105, 110, 32]) = txt [32, 105, 110, 32] from rfl]
          simp only [txt_add]
  case rest =>
    obtain ⟨P, rfl, hPz, HP, HF⟩ := hcut
    go_wp2_with fail
    refine (refsize_calls size HS.out _).mono ?_
    rintro r w2 ⟨rfl, rfl⟩
    obtain ⟨s4, hs4, hz4⟩ := opq (Lib.decDigits size) 20 (Dec.dec_len size 19 (by have := HS.out; omega))
    rw [hs4]
    have HS4 := hid hs4
    clear hs4
    go_upto_if 34 with fail
    go_cut [13] (fun s13 wx => ∃ Q : ByteArray, s13 = .string Q ∧ Q.size ≤ 3300 ∧ Hid (Q = txt (preL e at_ way ++ (32 :: Lib.decDigits size) ++ digL a)) ∧ Hid (Fr (fun _ => False) w wx))
    case first =>
      by_cases h0 : na = 0
      · have hn : ¬ 0 < na := by omega
        have HQ := hid (show P ++ ByteArray.mk #[32] ++ s4 = txt (preL e at_ way ++ (32 :: Lib.decDigits size) ++ digL a) by
          rw [HP.out, ← HS4.out, show (ByteArray.mk #[32]) = txt [32] from rfl, show a = [] from List.eq_nil_of_length_eq_zero (by rw [HNA.out]; exact h0)]
          simp only [txt_add]
          simp [digL])
        clear h0
        go_wp2_with fail
        go_meet
        case rel => exact ⟨_, rfl, by simp only [ByteArray.size_append]; have e1 : (ByteArray.mk #[32]).size = 1 := rfl; omega, HQ, HF⟩
      · have hn : 0 < na := by omega
        have HD := hid (show digL a = 32 :: hexL a by rw [digL, if_neg (by intro h; subst h; have := HNA.out; simp at this; omega)])
        clear h0
        go_wp2_with fail
        refine (refput_calls Aa na ca a wc HNA.out (HRA.out.fr0 HF.out) HBA.out (by omega)).mono ?_
        rintro r w5 ⟨rfl, hf⟩
        have HF5 := hid (HF.out.then_ hf (fun _ _ h => h))
        obtain ⟨s5, hs5, hz5⟩ := opq (hexL a) 200 (by rw [hexL_length, HNA.out]; omega)
        rw [hs5]
        have HS5 := hid hs5
        have HQ := hid (show P ++ ByteArray.mk #[32] ++ s4 ++ ByteArray.mk #[32] ++ s5 = txt (preL e at_ way ++ (32 :: Lib.decDigits size) ++ digL a) by
          rw [HP.out, ← HS4.out, HD.out, ← HS5.out, show (ByteArray.mk #[32]) = txt [32] from rfl]
          simp only [txt_add]
          simp)
        clear hf hs5
        go_wp2_with fail
        go_meet
        case rel => exact ⟨_, rfl, by simp only [ByteArray.size_append]; have e1 : (ByteArray.mk #[32]).size = 1 := rfl; omega, HQ, HF5⟩
    case rest =>
      obtain ⟨Q, rfl, hQz, HQ, HFQ⟩ := hcut
      clear HP HF HS4 hz4 hPz
      by_cases h0 : nb = 0
      · have hn : ¬ 0 < nb := by omega
        have HR := hid (show Q = txt (rowL e at_ way size a b) by
          rw [HQ.out, show b = [] from List.eq_nil_of_length_eq_zero (by rw [HNB.out]; exact h0)]
          simp [rowL, digL])
        clear h0
        go_wp2_with fail
        go_ret
        rw [← HR.out]
        exact ⟨rfl, HFQ.out⟩
      · have hn : 0 < nb := by omega
        have HD := hid (show digL b = 32 :: hexL b by rw [digL, if_neg (by intro h; subst h; have := HNB.out; simp at this; omega)])
        clear h0
        go_wp2_with fail
        refine (refput_calls Ab nb cb b _ HNB.out (HRB.out.fr0 HFQ.out) HBB.out (by omega)).mono ?_
        rintro r w5 ⟨rfl, hf⟩
        have HF5 := hid (HFQ.out.then_ hf (fun _ _ h => h))
        obtain ⟨s5, hs5, hz5⟩ := opq (hexL b) 200 (by rw [hexL_length, HNB.out]; omega)
        rw [hs5]
        have HS5 := hid hs5
        have HR := hid (show Q ++ ByteArray.mk #[32] ++ s5 = txt (rowL e at_ way size a b) by
          rw [HQ.out, rowL, HD.out, ← HS5.out, show (ByteArray.mk #[32]) = txt [32] from rfl]
          simp only [txt_add]
          simp)
        clear hf hs5
        go_wp2_with fail
        go_ret
        rw [← HR.out]
        exact ⟨rfl, HF5.out⟩
end Go.Proofs.YtgdhchknegjpfaaDoor.RowsE
