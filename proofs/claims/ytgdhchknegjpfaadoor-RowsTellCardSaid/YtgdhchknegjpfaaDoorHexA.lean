/- Layer hex: the digits of bytes: the plain words, and the document's Put. -/
import Derived.Test.YtgdhchknegjpfaaDoorProg
import Derived.Test.YtgdhchknegjpfaaDoorTxt
import Derived.Test.YtgdhchknegjpfaaDoorBitsA
import Derived.Deep.QuietTactic
import Derived.BigQuiet
import Derived.RegionTactic
import Derived.Outline
set_option linter.unusedVariables false
set_option linter.unusedSimpArgs false
namespace Go.Proofs.YtgdhchknegjpfaaDoor.HexA
open Go.IntWalk Go.RowKit Go.Proofs.YtgdhchknegjpfaaDoor.Mem Go.Proofs.YtgdhchknegjpfaaDoor.Num Go.Proofs.YtgdhchknegjpfaaDoor.BitsA Go.Proofs.YtgdhchknegjpfaaDoor.Txt

/-- A digit. -/
def dig (n : Nat) : UInt8 := if n < 10 then UInt8.ofNat (48 + n) else UInt8.ofNat (87 + n)
def d16 : ByteArray := { data := #[48, 49, 50, 51, 52, 53, 54, 55, 56, 57, 97, 98, 99, 100, 101, 102] }
/-- The digits of bytes. -/
def hexL (xs : List Int) : List UInt8 := xs.flatMap fun x => [dig (x.toNat / 16), dig (x.toNat % 16)]
theorem hexL_append (xs ys : List Int) : hexL (xs ++ ys) = hexL xs ++ hexL ys := by simp [hexL]
theorem hexL_length (xs : List Int) : (hexL xs).length = 2 * xs.length := by
  induction xs with
  | nil => rfl
  | cons x xs ih =>
    have : hexL (x :: xs) = [dig (x.toNat / 16), dig (x.toNat % 16)] ++ hexL xs := rfl
    rw [this, List.length_append, ih]
    simp
    omega
theorem hexL_snoc (xs : List Int) (k v : Nat) (h : k < xs.length) (hv : xs.getD k 0 = v) : hexL (xs.take (k + 1)) = hexL (xs.take k) ++ [dig (v / 16), dig (v % 16)] := by
  rw [List.take_succ_eq_append_getElem h, hexL_append]
  rw [getD_get h] at hv
  rw [hv]
  simp [hexL]
theorem dig_slice : ∀ a : Fin 16, d16.extract a.val (a.val + 1) = txt [dig a.val] := by decide
theorem dig_index : ∀ a : Fin 16, (d16[a.val]'(Nat.lt_of_lt_of_eq a.isLt rfl)) = dig a.val := by decide
theorem run_dig_slice (a : Nat) (h : a < 16) (w : World) : (Instr.slice 9 (.string { data := #[48, 49, 50, 51, 52, 53, 54, 55, 56, 57, 97, 98, 99, 100, 101, 102] }) (some (.int .i64 (a : Int))) (some (.int .i64 ((a : Int) + 1))) none).run Tryd.prog w = .ok (.string (txt [dig a])) w := by
  rw [run_slice_string w 9 _ .i64 .i64 a (a + 1) Tryd.underlying9 (by omega) (by omega) (by show (a : Int) + 1 ≤ 16; omega)]
  have e1 : ((a : Int)).toNat = a := by omega
  have e2 : ((a : Int) + 1).toNat = a + 1 := by omega
  rw [e1, e2]
  exact congrArg (fun s => Result.ok (Value.string s) w) (dig_slice ⟨a, h⟩)
theorem run_dig_index (a : Nat) (h : a < 16) (w : World) : (Instr.index 9 (.string { data := #[48, 49, 50, 51, 52, 53, 54, 55, 56, 57, 97, 98, 99, 100, 101, 102] }) (.int .u8 (a : Int))).run Tryd.prog w = .ok (.int .u8 ((dig a).toNat : Int)) w := by
  have h16 : (a : Int) < ((⟨#[48, 49, 50, 51, 52, 53, 54, 55, 56, 57, 97, 98, 99, 100, 101, 102]⟩ : ByteArray).size : Int) := by show (a : Int) < 16; omega
  rw [run_index_string w 9 _ .u8 a Tryd.underlying9, dif_pos ⟨by omega, h16⟩]
  have e := dig_index ⟨a, h⟩
  exact congrArg (fun b : UInt8 => Result.ok (Value.int .u8 (b.toNat : Int)) w) e
theorem dig_lt (a : Nat) : (dig a).toNat < 256 := (dig a).toNat_lt

set_option maxRecDepth 20000 in
set_option maxHeartbeats 1000000 in
theorem refput_calls (A : Option Addr) (n c : Nat) (xs : List Int) (w : World) (hn : xs.length = n) (hr : RdI .u8 w A xs) (hb : Bytes xs) (hm : n ≤ 1000000) :
    Calls Tryd.prog 25 #[.slice A n c] w fun e w' => e = .returned (.string (txt (hexL xs))) ∧ Fr (fun _ => False) w w' := by
  have HN := hid hn
  have HR := hid hr
  have HB := hid hb
  clear hn hr hb
  go_enter Tryd.func25, Tryd.ntmps25
  go_wp2
  go_loopw [4, 5] (fun s i wr => ∃ k j : Nat, k ≤ n ∧ i = .int .i64 k ∧ s = .string (txt (hexL (xs.take k))) ∧ wr = w.drewN j) (fun _ i _ => n - (intOf i).toNat)
  case atStart => exact ⟨0, 0, Nat.zero_le _, rfl, rfl, rfl⟩
  case round =>
    obtain ⟨k, j, hk, rfl, rfl, rfl⟩ := hrel
    by_cases hlt : k < n
    · obtain ⟨ad, rfl, _, hc⟩ := HR.out k (by rw [HN.out]; exact hlt)
      obtain ⟨v, hv⟩ : ∃ v : Nat, xs.getD k 0 = v ∧ v < 256 := by
        have := HB.out (xs.getD k 0) (by rw [getD_get (by rw [HN.out]; exact hlt)]; exact List.getElem_mem _)
        exact ⟨(xs.getD k 0).toNat, by omega, by omega⟩
      have HS := hid (hexL_snoc xs k v (by rw [HN.out]; exact hlt) hv.1)
      rw [hv.1] at hc
      have hv2 := hv.2
      have hv3 : (v : Int) < 256 := by omega
      have hv0 : (0 : Int) ≤ v := by omega
      have hk0 : (0 : Int) ≤ (k : Int) := by omega
      have hkl : (k : Int) < (n : Int) := by omega
      have hl : (hexL (xs.take k)).length ≤ 2000000 := by rw [hexL_length, List.length_take]; omega
      have cv1 : ((v / 16 : Nat) : Int) = (v : Int) / 16 := by omega
      have cv2 : ((v % 16 : Nat) : Int) = (v : Int) % 16 := by omega
      have s1 := run_dig_slice (v / 16) (by omega)
      have s2 := run_dig_slice (v % 16) (by omega)
      rw [cv1] at s1
      rw [cv2] at s2
      have a1 := run_add_txt (P := Tryd.prog) (hexL (xs.take k)) [dig (v / 16)] (by simp only [List.length_cons, List.length_nil]; omega)
      have a2 := run_add_txt (P := Tryd.prog) (hexL (xs.take k) ++ [dig (v / 16)]) [dig (v % 16)] (by simp only [List.length_append, List.length_cons, List.length_nil]; omega)
      have n1 : IntKind.i64.wrap ((v : Int) / 16 + 1) = (v : Int) / 16 + 1 := IntWalk.i64_in _ (by omega)
      have n2 : IntKind.i64.wrap ((v : Int) % 16 + 1) = (v : Int) % 16 + 1 := IntWalk.i64_in _ (by omega)
      clear hv cv1 cv2 hl
      go_wp2
      go_quiet (fail)
      go_wp2
      go_quiet (fail)
      clear n1 n2
      go_wp2
      go_roundw
      case rel => exact ⟨k + 1, _, by omega, by go_num, by rw [HS.out], by first | rfl | (simp only [World.drewN_drewN]; done)⟩
      case measure => simp [intOf]; omega
    · obtain rfl : k = n := by omega
      go_wp2
      go_ret
      refine ⟨?_, drewN_fr _ w j⟩
      rw [List.take_of_length_le (by rw [HN.out]; omega)]
      rfl
end Go.Proofs.YtgdhchknegjpfaaDoor.HexA
