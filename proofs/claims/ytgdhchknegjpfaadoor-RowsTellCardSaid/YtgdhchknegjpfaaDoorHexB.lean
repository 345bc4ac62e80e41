/- Layer hex: the program's Put. -/
import Derived.Test.YtgdhchknegjpfaaDoorHexA
import Derived.Test.YtgdhchknegjpfaaDoorBld
import Derived.Test.YtgdhchknegjpfaaDoorShelf
set_option linter.unusedVariables false
set_option linter.unusedSimpArgs false
namespace Go.Proofs.YtgdhchknegjpfaaDoor.HexB
open Go.IntWalk Go.RowKit Go.Proofs.YtgdhchknegjpfaaDoor.Mem Go.Proofs.YtgdhchknegjpfaaDoor.Num Go.Proofs.YtgdhchknegjpfaaDoor.BitsA Go.Proofs.YtgdhchknegjpfaaDoor.Txt Go.Proofs.YtgdhchknegjpfaaDoor.HexA

/-- A builder of the call's own, that holds these bytes. -/
def IsB (w0 : World) (b : Nat) (l : List UInt8) (w : World) : Prop := Lib.IsBuilder 77 5 w0.heap.size b (Lib.byteCells l) w
theorem IsB.fresh (w : World) : IsB w w.heap.size [] (w.alloc (.cells #[.pointer none, .slice none 0 0] 77)) := Lib.fresh_isBuilder _ _ w
theorem IsB.put {w0 w1 w2 : World} {b : Nat} {l : List UInt8} (c : UInt8) (h : Lib.BuilderAt 77 5 w0.heap.size b (.pointer (some ⟨b, 0, none⟩)) (Lib.byteCells l ++ [.int .u8 (c.toNat : Int)]) w2) : IsB w0 b (l ++ [c]) w2 := by
  refine .inr ?_
  have e : Lib.byteCells (l ++ [c]) = Lib.byteCells l ++ [.int .u8 (c.toNat : Int)] := by simp [Lib.byteCells]
  rw [e]
  exact h
/-- WriteByte, at such a builder. -/
theorem wbyte (w0 : World) (b : Nat) (l : List UInt8) (c : UInt8) (w : World) (h : IsB w0 b l w) (hl : l.length + 1 ≤ 140737488355328) (hw : Below w0.heap.size w0 w) :
    Calls Tryd.prog 46 #[.pointer (some ⟨b, 0, none⟩), .int .u8 (c.toNat : Int)] w fun e w' => e = .returned .nilIface ∧ IsB w0 b (l ++ [c]) w' ∧ Below w0.heap.size w0 w' := by
  refine (Bld.byte_calls w0.heap.size b (Lib.byteCells l) (c.toNat : Int) w h (by simp [Lib.byteCells]; omega) hw.size).mono ?_
  rintro e w' ⟨rfl, h1, h2⟩
  exact ⟨rfl, IsB.put (w1 := w) c h1, hw.trans h2⟩
/-- String, at such a builder. -/
theorem wstring (w0 : World) (b : Nat) (l : List UInt8) (w : World) (h : IsB w0 b l w) (hw : Below w0.heap.size w0 w) :
    Calls Tryd.prog 47 #[.pointer (some ⟨b, 0, none⟩)] w fun e w' => e = .returned (.string (txt l)) ∧ Below w0.heap.size w0 w' := by
  refine (Tryd.Builder_String_any w0.heap.size b l w h hw.size).mono ?_
  rintro e w' ⟨rfl, h2⟩
  exact ⟨rfl, hw.trans h2⟩

set_option maxRecDepth 20000 in
set_option maxHeartbeats 1000000 in
theorem put_calls (A : Option Addr) (n c : Nat) (xs : List Int) (w : World) (hn : xs.length = n) (hr : RdI .u8 w A xs) (hb : Bytes xs) (hm : n ≤ 1000000) :
    Calls Tryd.prog 24 #[.slice A n c] w fun e w' => e = .returned (.string (txt (hexL xs))) ∧ Fr (fun _ => False) w w' := by
  have HN := hid hn
  have HR := hid hr
  have HB := hid hb
  have HBB := hid (IsB.fresh w)
  have HB0 := hid ((Below.refl w.heap.size w).alloc (Nat.le_refl _) (.cells #[.pointer none, .slice none 0 0] 77))
  clear hn hr hb
  go_enter Tryd.func24, Tryd.ntmps24
  go_wp2
  go_loopw [8] (fun i wr => ∃ k : Nat, k ≤ n ∧ i = .int .i64 k ∧ Hid (IsB w w.heap.size (hexL (xs.take k)) wr) ∧ Hid (Below w.heap.size w wr)) (fun i _ => n - (intOf i).toNat)
  case atStart => exact ⟨0, Nat.zero_le _, rfl, HBB, HB0⟩
  case round =>
    obtain ⟨k, hk, rfl, H1, H2⟩ := hrel
    by_cases hlt : k < n
    · obtain ⟨ad, rfl, hab, hc⟩ := HR.out k (by rw [HN.out]; exact hlt)
      obtain ⟨v, hv⟩ : ∃ v : Nat, xs.getD k 0 = v ∧ v < 256 := by
        have := HB.out (xs.getD k 0) (by rw [getD_get (by rw [HN.out]; exact hlt)]; exact List.getElem_mem _)
        exact ⟨(xs.getD k 0).toNat, by omega, by omega⟩
      have HS := hid (hexL_snoc xs k v (by rw [HN.out]; exact hlt) hv.1)
      rw [hv.1] at hc
      have hc' := (H2.out.cell (p := ad.add k) (by rw [block_of_add]; exact hab)).trans hc
      have hl : (hexL (xs.take k)).length ≤ 2000000 := by rw [hexL_length, List.length_take]; omega
      have hv2 := hv.2
      have hv0 : (0 : Int) ≤ v := by omega
      have hv3 : (v : Int) ≤ 255 := by omega
      have hk0 : (0 : Int) ≤ (k : Int) := by omega
      have hkl : (k : Int) < (n : Int) := by omega
      have HL := hid hl
      have i1 := run_dig_index (v / 16) (by omega)
      have i2 := run_dig_index (v % 16) (by omega)
      have cv1 : ((v / 16 : Nat) : Int) = (v : Int) / 16 := by omega
      have cv2 : ((v % 16 : Nat) : Int) = (v : Int) % 16 := by omega
      rw [cv1] at i1
      rw [cv2] at i2
      clear hv hc hl cv1 cv2
      go_wp2_with fail
      refine (wbyte w w.heap.size (hexL (xs.take k)) (dig (v / 16)) _ H1.out (by have := HL.out; omega) H2.out).mono ?_
      rintro e w1 ⟨rfl, h1, h2⟩
      have H3 := hid h1
      have H4 := hid h2
      clear h1 h2 i1
      go_wp2_with fail
      refine (wbyte w w.heap.size (hexL (xs.take k) ++ [dig (v / 16)]) (dig (v % 16)) _ H3.out (by have := HL.out; simp only [List.length_append, List.length_cons, List.length_nil]; omega) H4.out).mono ?_
      rintro e w2 ⟨rfl, h1, h2⟩
      have H5 := hid h1
      have H6 := hid h2
      clear h1 h2 i2 hc' H3 H4
      go_wp2_with fail
      go_roundw
      case rel =>
        refine ⟨k + 1, by omega, by go_num, ?_, H6⟩
        rw [HS.out]
        have := H5.out
        simp only [List.append_assoc, List.cons_append, List.nil_append] at this
        exact hid this
      case measure => simp [intOf]; omega
    · obtain rfl : k = n := by omega
      have e : hexL (xs.take k) = hexL xs := by rw [List.take_of_length_le (by rw [HN.out]; omega)]
      rw [e] at H1
      go_wp2_with fail
      refine (wstring w _ _ _ H1.out H2.out).mono ?_
      rintro e w' ⟨rfl, h2⟩
      have HF := hid (Fr.below (S := fun _ => False) h2)
      clear h2
      go_wp2_with fail
      go_ret
      exact ⟨rfl, HF.out⟩
end Go.Proofs.YtgdhchknegjpfaaDoor.HexB
