/- Layer hex: both walks of Take. -/
import Derived.Test.YtgdhchknegjpfaaDoorHexC
import Derived.Deep.QuietTactic
import Derived.BigQuiet
set_option linter.unusedVariables false
set_option linter.unusedSimpArgs false
namespace Go.Proofs.YtgdhchknegjpfaaDoor.HexD
open Go.IntWalk Go.RowKit Go.Proofs.YtgdhchknegjpfaaDoor.Mem Go.Proofs.YtgdhchknegjpfaaDoor.Num Go.Proofs.YtgdhchknegjpfaaDoor.BitsA Go.Proofs.YtgdhchknegjpfaaDoor.Txt Go.Proofs.YtgdhchknegjpfaaDoor.HexA Go.Proofs.YtgdhchknegjpfaaDoor.HexC Go.Proofs.YtgdhchknegjpfaaDoor.App

/-- What both hand back: the bytes, or nothing. -/
def TakeTo (w : World) (o : Option (List Int)) (e : Ending) (w' : World) : Prop :=
  ∃ v, e = .returned (.tuple #[v, .bool o.isSome]) ∧ Own .u8 5 w' w.heap.size v (o.getD []) ∧ Fr (fun _ => False) w w'
theorem take_none {w w' : World} {o : Option (List Int)} (h : o = none) (hf : Fr (fun _ => False) w w') : TakeTo w o (.returned (.tuple #[.slice none 0 0, .bool false])) w' := by
  subst h
  exact ⟨_, rfl, Own.nil _ _ _ _, hf⟩
theorem take_some {w w' : World} {o : Option (List Int)} {l : List Int} {v : Value} (h : o = some l) (hv : Own .u8 5 w' w.heap.size v l) (hf : Fr (fun _ => False) w w') : TakeTo w o (.returned (.tuple #[v, .bool true])) w' := by
  subst h
  exact ⟨_, rfl, hv, hf⟩
theorem drop_two (l : List Int) (j : Nat) (h : j + 1 < l.length) : l.drop j = l.getD j 0 :: l.getD (j + 1) 0 :: l.drop (j + 2) := by
  rw [List.drop_eq_getElem_cons (by omega), List.drop_eq_getElem_cons h, getD_get (by omega), getD_get h]
theorem byt_getD (s : ByteArray) (i : Nat) (h : i < s.size) : (byt s).getD i 0 = ((s[i]'h).toNat : Int) := by
  rw [List.getD_eq_getElem?_getD, byt_get s i h]; rfl

/-- At the head of a round. -/
def Half (s : ByteArray) (w : World) (v : Value) (j : Nat) (wr : World) : Prop :=
  j ≤ s.size ∧ j % 2 = 0 ∧ ∃ acc, acc.length * 2 = j ∧ takeP (byt s) = (takeP ((byt s).drop j)).map (acc ++ ·) ∧ Own .u8 5 wr w.heap.size v acc ∧ Fr (fun _ => False) w wr
theorem Half.start (s : ByteArray) (w : World) : Half s w (.slice none 0 0) 0 w :=
  ⟨by omega, rfl, [], rfl, by simp, Own.nil _ _ _ _, Fr.refl _ _⟩
theorem Half.stop {s : ByteArray} {w wr : World} {v : Value} {j : Nat} (h : Half s w v j wr) (hj : j + 1 < s.size) (hb : hv ((s[j]'(by omega)).toNat : Int) < 0 ∨ hv ((s[j + 1]'hj).toNat : Int) < 0) : takeP (byt s) = none := by
  obtain ⟨_, _, acc, _, h, _, _⟩ := h
  rw [h, drop_two _ j (by rw [byt_length]; exact hj), byt_getD s j (by omega), byt_getD s (j + 1) hj, takeP, if_pos hb]
  rfl
theorem Half.step {s : ByteArray} {w w' : World} {v' : Value} {j : Nat} {acc : List Int} {va vb : Int} (hj2 : j % 2 = 0) (hj : j + 1 < s.size) (hl : acc.length * 2 = j) (h : takeP (byt s) = (takeP ((byt s).drop j)).map (acc ++ ·))
    (hva : hv ((s[j]'(by omega)).toNat : Int) = va) (hvb : hv ((s[j + 1]'hj).toNat : Int) = vb) (ha : ¬ va < 0) (hb : ¬ vb < 0)
    (ho : Own .u8 5 w' w.heap.size v' (acc ++ [va * 16 + vb])) (hf : Fr (fun _ => False) w w') : Half s w v' (j + 2) w' := by
  refine ⟨by omega, by omega, acc ++ [va * 16 + vb], by simp; omega, ?_, ho, hf⟩
  rw [h, drop_two _ j (by rw [byt_length]; exact hj), byt_getD s j (by omega), byt_getD s (j + 1) hj, takeP, hva, hvb, if_neg (by omega)]
  cases takeP ((byt s).drop (j + 2)) <;> simp
theorem Half.done {s : ByteArray} {w wr : World} {v : Value} {j : Nat} (h : Half s w v j wr) (hj : j = s.size) : ∃ l, takeP (byt s) = some l ∧ Own .u8 5 wr w.heap.size v l ∧ Fr (fun _ => False) w wr := by
  obtain ⟨_, _, acc, _, h, ho, hf⟩ := h
  subst hj
  rw [List.drop_eq_nil_of_le (by rw [byt_length]; exact Nat.le_refl _)] at h
  exact ⟨acc, by simpa [takeP] using h, ho, hf⟩

set_option maxRecDepth 20000 in
set_option maxHeartbeats 2000000 in
theorem reftake_calls (s : ByteArray) (w : World) (hs : s.size ≤ 1000000) :
    Calls Tryd.prog 28 #[.string s] w (TakeTo w (takeP (byt s))) := by
  by_cases hodd : s.size % 2 = 1
  · have HT := hid (take_none (takeP_odd (byt s) (by rw [byt_length]; exact hodd)) (Fr.refl (fun _ => False) w))
    have e : ((s.size : Int) % 2 == 1) = true := by simp; omega
    clear hodd
    go_enter Tryd.func28, Tryd.ntmps28
    go_wp2
    go_ret2
    exact HT.out
  · have e : ((s.size : Int) % 2 == 1) = false := beq_eq_false_iff_ne.2 (by omega)
    have HE := hid hodd
    clear hodd
    go_enter Tryd.func28, Tryd.ntmps28
    go_wp2
    go_loopw [4, 5] (fun v i wr => ∃ j : Nat, i = .int .i64 j ∧ Hid (Half s w v j wr)) (fun _ i _ => s.size - (intOf i).toNat)
    case atStart => exact ⟨0, rfl, hid (Half.start s w)⟩
    case round =>
      obtain ⟨j, rfl, HH⟩ := hrel
      have hj := HH.out.1
      have hj2 := HH.out.2.1
      by_cases hlt : j + 1 < s.size
      · have h0 : (0 : Int) ≤ (j : Int) := by omega
        have h1 : (j : Int) < (s.size : Int) := by omega
        have h2 : (0 : Int) ≤ (j : Int) + 1 := by omega
        have h3 : (j : Int) + 1 < (s.size : Int) := by omega
        have hjl : j < s.size := by omega
        obtain ⟨va, hva⟩ : ∃ va, hv ((s[j]'hjl).toNat : Int) = va := ⟨_, rfl⟩
        obtain ⟨vb, hvb⟩ : ∃ vb, hv ((s[j + 1]'hlt).toNat : Int) = vb := ⟨_, rfl⟩
        have ba := hv_bd ((s[j]'hjl).toNat : Int)
        have bb := hv_bd ((s[j + 1]'hlt).toNat : Int)
        rw [hva] at ba
        rw [hvb] at bb
        have n1 : IntKind.i64.wrap ((j : Int) + 1) = (j : Int) + 1 := IntWalk.i64_in _ (by omega)
        have t1 : ((j : Int) + 1).toNat = j + 1 := by omega
        have HVA := hid hva
        have HVB := hid hvb
        clear hva hvb
        obtain ⟨acc, HA1, HA2, HO, HF⟩ : ∃ acc : List Int, Hid (acc.length * 2 = j) ∧ Hid (takeP (byt s) = (takeP ((byt s).drop j)).map (acc ++ ·)) ∧ Hid (Own .u8 5 wr w.heap.size u4 acc) ∧ Hid (Fr (fun _ => False) w wr) := HH.out.2.2
        by_cases hna : va < 0
        · have HT := hid (HH.out.stop hlt (.inl (by rw [HVA.out]; exact hna)))
          go_wp2
          go_quiet ((go_at_call 50; exact Calls.quiet_of_same (digit_calls _ _)))
          clear n1
          rw [HVA.out]
          go_wp2
          go_ret2
          exact take_none HT.out (HF.out.drewN _)
        · by_cases hnb : vb < 0
          · have HT := hid (HH.out.stop hlt (.inr (by rw [HVB.out]; exact hnb)))
            go_wp2
            go_quiet ((go_at_call 50; exact Calls.quiet_of_same (digit_calls _ _)))
            clear n1
            rw [HVA.out, HVB.out]
            go_wp2
            go_ret2
            exact take_none HT.out (HF.out.drewN _)
          · go_wp2
            go_quiet ((go_at_call 50; exact Calls.quiet_of_same (digit_calls _ _)))
            clear n1
            rw [HVA.out, HVB.out]
            have HOd := hid (HO.out.fr ((Fr.refl (fun _ => False) wr).drewN nq) (fun _ _ h => h))
            have HFd := hid (HF.out.drewN nq)
            have HAL := hid (show acc.length ≤ 1000000 by have := HA1.out; omega)
            go_wp2_with (refine wpList_app1 rfl (.tmp 35) (.tmp 41) 32 rfl 1 Tryd.underlying32 infoByte (wr.drewN nq) (va * 16 + vb) 5 _ acc rfl HOd.out rfl (by have := HAL.out; omega) HFd.out.size ?_; intro v7 w7 HO7 HK7)
            go_roundw
            case rel => exact ⟨j + 2, by go_num, hid (Half.step hj2 hlt HA1.out HA2.out HVA.out HVB.out (by omega) (by omega) HO7.out (HK7.out _ _ HFd.out (Nat.le_refl _)))⟩
            case measure => simp [intOf]; omega
      · have hjs : j = s.size := by have := HE.out; omega
        obtain ⟨l, h1, h2, h3⟩ := HH.out.done hjs
        have H1 := hid h1
        have H2 := hid h2
        have H3 := hid h3
        clear h1 h2 h3 hjs
        go_wp2
        go_ret2
        exact take_some H1.out H2.out H3.out
end Go.Proofs.YtgdhchknegjpfaaDoor.HexD
