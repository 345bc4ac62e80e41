/- Layer hex: Show, the document's Show, the example. -/
import Derived.Test.YtgdhchknegjpfaaDoorHexE
import Derived.Test.YtgdhchknegjpfaaDoorItoa
import Derived.Test.YtgdhchknegjpfaaDoorSame
set_option linter.unusedVariables false
set_option linter.unusedSimpArgs false
namespace Go.Proofs.YtgdhchknegjpfaaDoor.HexF
open Go.IntWalk Go.RowKit Go.Proofs.YtgdhchknegjpfaaDoor.Mem Go.Proofs.YtgdhchknegjpfaaDoor.Num Go.Proofs.YtgdhchknegjpfaaDoor.BitsA Go.Proofs.YtgdhchknegjpfaaDoor.Txt Go.Proofs.YtgdhchknegjpfaaDoor.HexA Go.Proofs.YtgdhchknegjpfaaDoor.HexC Go.Proofs.YtgdhchknegjpfaaDoor.HexD Go.Proofs.YtgdhchknegjpfaaDoor.App Go.Proofs.YtgdhchknegjpfaaDoor.Itoa

/-- The digits of the first bytes. -/
def showL (xs : List Int) (m : Int) : List UInt8 :=
  if (xs.length : Int) ≤ m then hexL xs else hexL (xs.take m.toNat) ++ [46, 46] ++ Lib.itoa xs.length
theorem RdI.take {k : IntKind} {w : World} {A : Option Addr} {xs : List Int} (h : RdI k w A xs) (m : Nat) : RdI k w A (xs.take m) := fun i hi => by
  rw [List.length_take] at hi
  obtain ⟨ad, hA, hb, hc⟩ := h i (by omega)
  refine ⟨ad, hA, hb, ?_⟩
  rw [hc]
  simp only [List.getD_eq_getElem?_getD, List.getElem?_take]
  rw [if_pos (by omega)]
theorem bytes_take {xs : List Int} (h : Bytes xs) (m : Nat) : Bytes (xs.take m) := fun c hc => h c (List.mem_of_mem_take hc)

set_option maxRecDepth 20000 in
set_option maxHeartbeats 2000000 in
theorem show_calls (A : Option Addr) (n c : Nat) (m : Int) (xs : List Int) (w : World) (hT : Tab w) (hn : xs.length = n) (hc : n ≤ c) (hr : RdI .u8 w A xs) (hb : Bytes xs) (hm : n ≤ 1000000) :
    Calls Tryd.prog 26 #[.slice A n c, .int .i64 m] w fun e w' => e = .returned (.string (txt (showL xs m))) ∧ Fr (fun _ => False) w w' := by
  have HT := hid hT
  have HN := hid hn
  have HR := hid hr
  have HB := hid hb
  clear hT hn hr hb
  by_cases hle : (n : Int) ≤ m
  · have e : showL xs m = hexL xs := by rw [showL, if_pos (by rw [HN.out]; exact hle)]
    rw [e]
    go_enter Tryd.func26, Tryd.ntmps26
    go_wp2_with fail
    refine (HexB.put_calls A n c xs w HN.out HR.out HB.out hm).mono ?_
    rintro e w1 ⟨rfl, hf⟩
    have HF := hid hf
    clear hf
    go_wp2_with fail
    go_ret
    exact ⟨rfl, HF.out⟩
  · obtain ⟨mm, hmm⟩ : ∃ mm : Nat, m.toNat = mm := ⟨_, rfl⟩
    have HE := hid (show showL xs m = hexL (xs.take mm) ++ [46, 46] ++ Lib.itoa n by rw [showL, if_neg (by rw [HN.out]; exact hle), HN.out, hmm])
    have hmx : max m 0 = (mm : Int) := by omega
    have hmn : mm ≤ n := by omega
    have hmni : (mm : Int) ≤ (c : Int) := by omega
    have hl : (hexL (xs.take mm)).length ≤ 2000000 := by rw [hexL_length, List.length_take, HN.out]; omega
    have hl2 := Dec.itoa_len n (by omega) (by omega)
    have a1 : ∀ w, (Op.stringOp .add (txt (hexL (xs.take mm))) { data := #[46, 46] }).run Tryd.prog w = .ok (.string (txt (hexL (xs.take mm) ++ [46, 46]))) w := run_add_txt (P := Tryd.prog) (hexL (xs.take mm)) [46, 46] (by simp only [List.length_cons, List.length_nil]; omega)
    have a2 := run_add_txt (P := Tryd.prog) (hexL (xs.take mm) ++ [46, 46]) (Lib.itoa n) (by simp only [List.length_append, List.length_cons, List.length_nil]; omega)
    have HTL := hid (show (xs.take mm).length = mm by rw [List.length_take, HN.out]; omega)
    clear hl hl2 hmm
    go_enter Tryd.func26, Tryd.ntmps26
    go_wp2_with fail
    refine (HexB.put_calls A mm c (xs.take mm) w HTL.out (RdI.take HR.out mm) (bytes_take HB.out mm) (by omega)).mono ?_
    rintro e w1 ⟨rfl, hf⟩
    have HF := hid hf
    clear hf
    go_wp2_with fail
    refine (itoa_calls n w1 (by omega) (by omega) (HT.out.fr0 HF.out)).mono ?_
    rintro e w2 ⟨rfl, hf⟩
    have HF2 := hid (HF.out.then_ hf (fun _ _ h => h))
    clear hf
    go_wp2_with fail
    go_ret
    rw [HE.out, List.append_assoc]
    exact ⟨rfl, HF2.out⟩
set_option maxRecDepth 20000 in
set_option maxHeartbeats 2000000 in
theorem refshow_calls (A : Option Addr) (n c : Nat) (m : Int) (xs : List Int) (w : World) (hn : xs.length = n) (hc : n ≤ c) (hr : RdI .u8 w A xs) (hb : Bytes xs) (hm : n ≤ 1000000) :
    Calls Tryd.prog 27 #[.slice A n c, .int .i64 m] w fun e w' => e = .returned (.string (txt (showL xs m))) ∧ Fr (fun _ => False) w w' := by
  have HN := hid hn
  have HR := hid hr
  have HB := hid hb
  clear hn hr hb
  by_cases hle : (n : Int) ≤ m
  · have e : showL xs m = hexL xs := by rw [showL, if_pos (by rw [HN.out]; exact hle)]
    rw [e]
    go_enter Tryd.func27, Tryd.ntmps27
    go_wp2_with fail
    refine (refput_calls A n c xs w HN.out HR.out HB.out hm).mono ?_
    rintro e w1 ⟨rfl, hf⟩
    have HF := hid hf
    clear hf
    go_wp2_with fail
    go_ret
    exact ⟨rfl, HF.out⟩
  · obtain ⟨mm, hmm⟩ : ∃ mm : Nat, m.toNat = mm := ⟨_, rfl⟩
    have HE := hid (show showL xs m = hexL (xs.take mm) ++ [46, 46] ++ Lib.itoa n by rw [showL, if_neg (by rw [HN.out]; exact hle), HN.out, hmm])
    have hmn : mm ≤ n := by omega
    have hmni : (mm : Int) ≤ (c : Int) := by omega
    have hl : (hexL (xs.take mm)).length ≤ 2000000 := by rw [hexL_length, List.length_take, HN.out]; omega
    have hl2 := Dec.itoa_len n (by omega) (by omega)
    have a1 : ∀ w, (Op.stringOp .add (txt (hexL (xs.take mm))) { data := #[46, 46] }).run Tryd.prog w = .ok (.string (txt (hexL (xs.take mm) ++ [46, 46]))) w := run_add_txt (P := Tryd.prog) (hexL (xs.take mm)) [46, 46] (by simp only [List.length_cons, List.length_nil]; omega)
    have a2 := run_add_txt (P := Tryd.prog) (hexL (xs.take mm) ++ [46, 46]) (Lib.itoa n) (by simp only [List.length_append, List.length_cons, List.length_nil]; omega)
    have HTL := hid (show (xs.take mm).length = mm by rw [List.length_take, HN.out]; omega)
    clear hl hl2
    by_cases hneg : m < 0
    · obtain rfl : mm = 0 := by omega
      have HE2 := hid (show showL xs m = [46, 46] ++ Lib.itoa n from HE.out)
      have b1 : ∀ w, (Op.stringOp .add (txt []) { data := #[46, 46] }).run Tryd.prog w = .ok (.string (txt [46, 46])) w := run_add_txt (P := Tryd.prog) [] [46, 46] (by decide)
      have b2 := run_add_txt (P := Tryd.prog) [46, 46] (Lib.itoa n) (by simp only [List.length_cons, List.length_nil]; have := Dec.itoa_len n (by omega) (by omega); omega)
      have HR0 := hid (show RdI .u8 w A [] from fun i hi => by simp at hi)
      clear hmm a1 a2 HTL HE
      go_enter Tryd.func27, Tryd.ntmps27
      go_wp2_with fail
      refine (refput_calls A 0 c [] w rfl HR0.out (fun c hc => by simp at hc) (by omega)).mono ?_
      rintro e w1 ⟨rfl, hf⟩
      have HF := hid hf
      rw [show hexL [] = [] from rfl]
      clear hf
      go_wp2_with fail
      refine (Dec.text_calls n w1 (by omega) (by omega)).mono ?_
      rintro e w2 ⟨rfl, rfl⟩
      go_wp2_with fail
      go_ret
      rw [HE2.out]
      exact ⟨rfl, HF.out⟩
    · obtain rfl : m = mm := by omega
      clear hmm
      go_enter Tryd.func27, Tryd.ntmps27
      go_wp2_with fail
      refine (refput_calls A mm c (xs.take mm) w HTL.out (RdI.take HR.out mm) (bytes_take HB.out mm) (by omega)).mono ?_
      rintro e w1 ⟨rfl, hf⟩
      have HF := hid hf
      clear hf
      go_wp2_with fail
      refine (Dec.text_calls n w1 (by omega) (by omega)).mono ?_
      rintro e w2 ⟨rfl, rfl⟩
      go_wp2_with fail
      go_ret
      rw [HE.out, List.append_assoc]
      exact ⟨rfl, HF.out⟩

theorem show_123 : showL [1, 2, 3] 2 = [48, 49, 48, 50, 46, 46, 51] := by
  rw [showL, if_neg (by decide)]
  have e : Lib.itoa (([1, 2, 3] : List Int).length : Int) = [51] := by
    unfold Lib.itoa
    rw [if_neg (by decide), Dec.dec_eq]
    rfl
  rw [e]
  rfl
set_option maxRecDepth 20000 in
set_option maxHeartbeats 2000000 in
theorem awake_calls (w : World) (hT : Tab w) :
    Calls Tryd.prog 22 #[] w fun e w' => e = .returned (.bool true) ∧ Fr (fun _ => False) w w' := by
  have HT := hid hT
  have HV := hid (show VecI .u8 5 (w.alloc (.cells #[.int .u8 1, .int .u8 2, .int .u8 3] 5)) w.heap.size [1, 2, 3] from Blk.new w _ _)
  have HF0 := hid ((Fr.refl (fun _ => False) w).alloc (.cells #[.int .u8 1, .int .u8 2, .int .u8 3] 5))
  clear hT
  go_enter Tryd.func22, Tryd.ntmps22
  go_wp2_with fail
  refine (show_calls (some ⟨w.heap.size, 0, none⟩) 3 3 2 [1, 2, 3] _ (HT.out.fr0 HF0.out) rfl (by omega) HV.out.rd (by intro c hc; simp at hc; omega) (by omega)).mono ?_
  rintro e w1 ⟨rfl, hf⟩
  have HF := hid (HF0.out.then_ hf (fun _ _ h => h))
  rw [show_123]
  clear hf
  go_wp2_with fail
  go_ret
  exact ⟨ret_bool (by rw [txt_toList]; rfl), HF.out⟩
end Go.Proofs.YtgdhchknegjpfaaDoor.HexF
