/- Layer rows: the document's Way and Size. -/
import Derived.Test.YtgdhchknegjpfaaDoorRowsC
set_option linter.unusedVariables false
set_option linter.unusedSimpArgs false
namespace Go.Proofs.YtgdhchknegjpfaaDoor.RowsD
open Go.IntWalk Go.RowKit Go.Proofs.YtgdhchknegjpfaaDoor.Mem Go.Proofs.YtgdhchknegjpfaaDoor.Txt Go.Proofs.YtgdhchknegjpfaaDoor.Dec Go.Proofs.YtgdhchknegjpfaaDoor.RowsC

theorem txt_ne_nil (c : UInt8) (l : List UInt8) : ((txt (c :: l)).toList == []) = false := by rw [txt_toList]; rfl
theorem steps_cons {l : List Int} (h : l ≠ []) : ∃ r, steps l = 47 :: r := by
  cases l with
  | nil => exact absurd rfl h
  | cons n l => exact ⟨_, rfl⟩
set_option maxRecDepth 20000 in
set_option maxHeartbeats 1000000 in
theorem refway_calls (A : Option Addr) (n c : Nat) (l : List Int) (w : World) (hn : l.length = n) (hm : n ≤ 100) (hr : RdI .i64 w A l) (hb : I64s l) :
    Calls Tryd.prog 33 #[.slice A n c] w fun e w' => e = .returned (.string (txt (wayL l))) ∧ w = w' := by
  have HN := hid hn
  have HR := hid hr
  have HB := hid hb
  have HW := hid (show wayL l = if l = [] then [47] else steps l from rfl)
  clear hr hb
  have HSL := hid (steps_len l HB.out)
  clear hn
  go_enter Tryd.func33, Tryd.ntmps33
  go_wp2_with fail
  go_loop [3, 4] (fun s i => ∃ k : Nat, k ≤ n ∧ i = .int .i64 k ∧ s = .string (txt (steps (l.take k)))) (fun _ i => n - (intOf i).toNat)
  case atStart => exact ⟨0, Nat.zero_le _, rfl, rfl⟩
  case round =>
    obtain ⟨k, hk, rfl, rfl⟩ := hrel
    by_cases hlt : k < n
    · obtain ⟨ad, rfl, hab, hc⟩ := HR.out k (by rw [HN.out]; exact hlt)
      obtain ⟨v, hv⟩ : ∃ v, l.getD k 0 = v := ⟨_, rfl⟩
      have hvr := HB.out (l.getD k 0) (by simp only [List.getD_eq_getElem?_getD, List.getElem?_eq_getElem (show k < l.length by rw [HN.out]; exact hlt)]; exact List.getElem_mem _)
      have hS := steps_snoc l k (by rw [HN.out]; exact hlt) v hv
      rw [hv] at hc hvr
      have HL := hid (show (steps (l.take k)).length ≤ 2200 by have := steps_len _ (i64s_take HB.out k); rw [List.length_take] at this; omega)
      have HIL := hid (itoa_len v hvr.1 hvr.2)
      obtain ⟨T, hT⟩ : ∃ T, steps (l.take k) = T := ⟨_, rfl⟩
      rw [hT] at hS HL ⊢
      have HS := hid hS
      have a1 : ∀ w, (Op.stringOp .add (txt T) { data := #[47] }).run Tryd.prog w = .ok (.string (txt (T ++ [47]))) w := run_add_txt (P := Tryd.prog) T [47] (by have := HL.out; simp only [List.length_cons, List.length_nil]; omega)
      have a2 := run_add_txt (P := Tryd.prog) (T ++ [47]) (Lib.itoa v) (by have := HL.out; have := HIL.out; simp only [List.length_append, List.length_cons, List.length_nil]; omega)
      have hv1 := hvr.1
      have hv2 := hvr.2
      have hk0 : (0 : Int) ≤ (k : Int) := by omega
      have hkl : (k : Int) < (n : Int) := by omega
      clear hv hvr hT hS
      go_wp2_with fail
      refine (text_calls v w hv1 hv2).mono ?_
      rintro e w' ⟨rfl, rfl⟩
      go_wp2_with fail
      go_round
      case rel =>
        refine ⟨k + 1, by omega, by go_num, ?_⟩
        rw [HS.out]
      case measure => simp [intOf]; omega
    · obtain rfl : k = n := by omega
      have e : steps (l.take k) = steps l := by rw [List.take_of_length_le (by rw [HN.out]; omega)]
      rw [e]
      clear e
      by_cases h0 : l = []
      · subst h0
        rw [show steps [] = [] from rfl]
        have e1 : ((txt []).toList == []) = true := by rw [txt_toList]; rfl
        have e2 : (txt []).toList = [] := by rw [txt_toList]
        go_wp2_with fail
        go_ret
        exact ⟨rfl, rfl⟩
      · obtain ⟨r, hr⟩ := steps_cons h0
        have e1 := txt_ne_nil 47 r
        have e2 : (txt (47 :: r)).toList.isEmpty = false := by rw [txt_toList]; rfl
        have HQ := hid (show wayL l = 47 :: r by rw [HW.out, if_neg h0, hr])
        rw [hr]
        clear hr h0
        go_wp2_with fail
        go_ret
        rw [HQ.out]
        exact ⟨rfl, rfl⟩
theorem run_d10u (a : Nat) (h : a < 10) (w : World) : (Instr.slice 9 (.string { data := #[48, 49, 50, 51, 52, 53, 54, 55, 56, 57] }) (some (.int .u64 (a : Int))) (some (.int .u64 ((a : Int) + 1))) none).run Tryd.prog w = .ok (.string (txt [UInt8.ofNat (48 + a)])) w := by
  rw [run_slice_string w 9 _ .u64 .u64 a (a + 1) Tryd.underlying9 (by omega) (by omega) (by show (a : Int) + 1 ≤ 10; omega)]
  have e1 : ((a : Int)).toNat = a := by omega
  have e2 : ((a : Int) + 1).toNat = a + 1 := by omega
  rw [e1, e2]
  exact congrArg (fun s => Result.ok (Value.string s) w) (d10_slice ⟨a, h⟩)
/-- 1 at true. -/
def flag : Value → Nat
  | .bool true => 1
  | _ => 0
theorem upz_first (n : Nat) : Lib.decDigits n = upz (n / 10) ++ [UInt8.ofNat (48 + n % 10)] := by
  rw [dec_eq, upz]
  by_cases h10 : n < 10
  · rw [if_pos h10, if_pos (by omega), Nat.mod_eq_of_lt h10]; rfl
  · rw [if_neg h10, if_neg (by omega)]
set_option maxRecDepth 20000 in
set_option maxHeartbeats 2000000 in
theorem refsize_calls (N : Nat) (hN : N < 18446744073709551616) (w : World) :
    Calls Tryd.prog 53 #[.int .u64 N] w fun e w' => e = .returned (.string (txt (Lib.decDigits N))) ∧ w = w' := by
  obtain ⟨D, hD⟩ : ∃ D, Lib.decDigits N = D := ⟨_, rfl⟩
  have HD := hid hD
  have HDL := hid (show D.length ≤ 20 by rw [← hD]; exact dec_len N 19 (by omega))
  have HNN := hid hN
  clear hD hN
  go_enter Tryd.func53, Tryd.ntmps53
  go_wp2_with fail
  go_loop [0, 3, 4] (fun x s f => ∃ (m : Nat) (l : List UInt8) (b : Bool), m ≤ N ∧ x = .int .u64 m ∧ s = .string (txt l) ∧ f = .bool b ∧ Hid ((b = true ∧ m = N ∧ l = []) ∨ (b = false ∧ D = upz m ++ l))) (fun x _ f => (intOf x).toNat + flag f)
  case atStart => exact ⟨N, [], true, by omega, rfl, rfl, rfl, hid (.inl ⟨rfl, rfl, rfl⟩)⟩
  case round =>
    obtain ⟨m, l, b, hm, rfl, rfl, rfl, HL⟩ := hrel
    obtain ⟨q, hq⟩ : ∃ q : Nat, m / 10 = q := ⟨_, rfl⟩
    have e1 : (m : Int) / 10 = (q : Int) := by omega
    have s1 := run_d10u (m % 10) (by omega)
    have e2 : ((m % 10 : Nat) : Int) = (m : Int) % 10 := by omega
    obtain ⟨c, hc⟩ : ∃ c : UInt8, UInt8.ofNat (48 + m % 10) = c := ⟨_, rfl⟩
    rw [hc, e2] at s1
    have hqm : q ≤ m := by omega
    have hwr : IntKind.u64.wrap (q : Int) = (q : Int) := by have := HNN.out; rw [IntKind.wrap_u64]; omega
    by_cases hb : b = true
    · subst hb
      have hb2 : m = N ∧ l = [] := by rcases HL.out with h | h; exact h.2; exact absurd h.1 (by simp)
      obtain ⟨hm2, rfl⟩ := hb2
      have HS := hid (show D = upz q ++ [c] by rw [← HD.out, ← hm2, ← hc, ← hq]; exact upz_first m)
      have a1 := run_add_txt (P := Tryd.prog) [c] [] (by simp)
      clear hq hc e2 hm2
      go_wp2_with fail
      go_round
      case rel => exact ⟨q, [c] ++ [], false, by omega, rfl, rfl, rfl, hid (.inr ⟨rfl, by rw [HS.out]; rfl⟩)⟩
      case measure => simp [intOf, flag]; omega
    · have hb' : b = false := by simpa using hb
      subst hb'
      have HU := hid (show D = upz m ++ l by rcases HL.out with h | h; exact absurd h.1 (by simp); exact h.2)
      by_cases h0 : m = 0
      · subst h0
        have e : D = l := by rw [HU.out]; rfl
        subst e
        clear hq hc e2 s1 e1
        go_wp2_with fail
        go_ret
        refine ⟨?_, rfl⟩
        rw [HD.out]
        rfl
      · have HS := hid (show upz m = upz q ++ [c] by rw [← hc, ← hq]; exact upz_step m h0)
        have HLL := hid (show l.length ≤ 20 by have := congrArg List.length HU.out; have := HDL.out; simp at *; omega)
        have a1 := run_add_txt (P := Tryd.prog) [c] l (by simp only [List.length_cons, List.length_nil]; have := HLL.out; omega)
        have hm0 : (0 : Int) < m := by omega
        have hqm2 : q < m := by omega
        clear hq hc e2
        go_wp2_with fail
        go_round
        case rel => exact ⟨q, [c] ++ l, false, by omega, rfl, rfl, rfl, hid (.inr ⟨rfl, by rw [HU.out, HS.out]; simp⟩)⟩
        case measure => simp [intOf, flag]; omega
end Go.Proofs.YtgdhchknegjpfaaDoor.RowsD
