/- A number's decimal digits: the document's Text. -/
import Derived.Test.YtkmgiodhaaajjaaDoorProg
import Derived.Test.YtkmgiodhaaajjaaDoorTxt
set_option linter.unusedVariables false
set_option linter.unusedSimpArgs false
namespace Go.Proofs.YtkmgiodhaaajjaaDoor.Dec
open Go.IntWalk Go.RowKit Go.Proofs.YtkmgiodhaaajjaaDoor.Mem Go.Proofs.YtkmgiodhaaajjaaDoor.Txt

def d10 : ByteArray := { data := #[48, 49, 50, 51, 52, 53, 54, 55, 56, 57] }
theorem d10_slice : ∀ a : Fin 10, d10.extract a.val (a.val + 1) = txt [UInt8.ofNat (48 + a.val)] := by decide
theorem run_d10 (a : Nat) (h : a < 10) (w : World) : (Instr.slice 9 (.string { data := #[48, 49, 50, 51, 52, 53, 54, 55, 56, 57] }) (some (.int .i64 (a : Int))) (some (.int .i64 ((a : Int) + 1))) none).run Tryd.prog w = .ok (.string (txt [UInt8.ofNat (48 + a)])) w := by
  rw [run_slice_string w 9 _ .i64 .i64 a (a + 1) Tryd.underlying9 (by omega) (by omega) (by show (a : Int) + 1 ≤ 10; omega)]
  have e1 : ((a : Int)).toNat = a := by omega
  have e2 : ((a : Int) + 1).toNat = a + 1 := by omega
  rw [e1, e2]
  exact congrArg (fun s => Result.ok (Value.string s) w) (d10_slice ⟨a, h⟩)

/-- What is still to be put ahead: of a number whose last digit stands already; of a number. -/
def up (n : Nat) : List UInt8 := if n < 10 then [] else Lib.decDigits (n / 10)
def upz (m : Nat) : List UInt8 := if m = 0 then [] else Lib.decDigits m
theorem dec_eq (n : Nat) : Lib.decDigits n = if n < 10 then [UInt8.ofNat (48 + n)] else Lib.decDigits (n / 10) ++ [UInt8.ofNat (48 + n % 10)] := by
  rw [Lib.decDigits]
  split <;> rfl
theorem up_start (n : Nat) : Lib.decDigits n = up n ++ [UInt8.ofNat (48 + n % 10)] := by
  rw [dec_eq, up]
  split
  · rename_i h
    rw [Nat.mod_eq_of_lt h]; rfl
  · rfl
theorem up_step (n : Nat) (h : ¬ n < 10) : up n = up (n / 10) ++ [UInt8.ofNat (48 + n / 10 % 10)] := by
  rw [up, if_neg h]; exact up_start _
theorem upz_step (m : Nat) (h : m ≠ 0) : upz m = upz (m / 10) ++ [UInt8.ofNat (48 + m % 10)] := by
  rw [upz, if_neg h, dec_eq, upz]
  by_cases h10 : m < 10
  · rw [if_pos h10, if_pos (by omega), Nat.mod_eq_of_lt h10]; rfl
  · rw [if_neg h10, if_neg (by omega)]
theorem dec_len (n : Nat) : ∀ k, n < 10 ^ (k + 1) → (Lib.decDigits n).length ≤ k + 1 := by
  intro k
  induction k generalizing n with
  | zero => intro h; rw [dec_eq, if_pos (by omega)]; simp
  | succ k ih =>
    intro h
    rw [dec_eq]
    split
    · simp
    · have := ih (n / 10) (by rw [Nat.pow_succ] at h; omega)
      simp; omega
theorem itoa_len (n : Int) (h0 : -9223372036854775808 ≤ n) (h1 : n ≤ 9223372036854775807) : (Lib.itoa n).length ≤ 21 := by
  unfold Lib.itoa
  split
  · have := dec_len n.natAbs 19 (by omega)
    simp; omega
  · have := dec_len n.toNat 19 (by omega)
    omega

theorem tmod_neg (m : Nat) : Int.tmod (-(m : Int)) 10 = -((m % 10 : Nat) : Int) := by rw [Int.neg_tmod]; rfl
theorem tdiv_neg (m : Nat) : Int.tdiv (-(m : Int)) 10 = -((m / 10 : Nat) : Int) := by rw [Int.neg_tdiv]; rfl
set_option maxRecDepth 20000 in
set_option maxHeartbeats 2000000 in
theorem text_calls (n : Int) (w : World) (h0 : -9223372036854775808 ≤ n) (h1 : n ≤ 9223372036854775807) :
    Calls Tryd.prog 89 #[.int .i64 n] w fun e w' => e = .returned (.string (txt (Lib.itoa n))) ∧ w = w' := by
  have HI := hid (show Lib.itoa n = if n < 0 then 45 :: Lib.decDigits n.natAbs else Lib.decDigits n.toNat from rfl)
  by_cases hn : n < 0
  · obtain ⟨D, hD⟩ : ∃ D, Lib.decDigits n.natAbs = D := ⟨_, rfl⟩
    have HD := hid hD
    have HDL := hid (show D.length ≤ 20 by rw [← hD]; exact dec_len n.natAbs 19 (by omega))
    have HI2 := hid (show Lib.itoa n = 45 :: D by rw [HI.out, if_pos hn, hD])
    have hU := hid (show D = upz n.natAbs ++ [] by rw [← hD, upz, if_neg (by omega), List.append_nil])
    have a0 : ∀ w, (Op.stringOp .add { data := #[45] } (txt D)).run Tryd.prog w = .ok (.string (txt (45 :: D))) w := run_add_txt (P := Tryd.prog) [45] D (by simp only [List.length_cons, List.length_nil]; have := HDL.out; omega)
    clear hD
    go_enter Tryd.func89, Tryd.ntmps89
    go_wp2
    go_loop [0, 3] (fun x s => ∃ (y : Int) (l : List UInt8), -9223372036854775808 ≤ y ∧ y ≤ 0 ∧ x = .int .i64 y ∧ s = .string (txt l) ∧ Hid (D = upz y.natAbs ++ l)) (fun x _ => (intOf x).natAbs)
    case atStart => exact ⟨n, [], h0, by omega, rfl, rfl, hU⟩
    case round =>
      obtain ⟨y, l, hy0, hy1, rfl, rfl, HL⟩ := hrel
      by_cases hy : y < 0
      · obtain ⟨m, hm⟩ : ∃ m : Nat, y = -(m : Int) := ⟨y.natAbs, by omega⟩
        obtain ⟨d, hd⟩ : ∃ d : Nat, m % 10 = d := ⟨_, rfl⟩
        obtain ⟨z, hz⟩ : ∃ z : Int, -((m / 10 : Nat) : Int) = z := ⟨_, rfl⟩
        have hd10 : d < 10 := by omega
        have hdi : (d : Int) < 10 := by omega
        have hz0 : z ≤ 0 ∧ y < z ∧ z.natAbs = m / 10 := by omega
        have q1 : Int.tmod y 10 = -(d : Int) := by rw [hm, tmod_neg, hd]
        have q2 : Int.tdiv y 10 = z := by rw [hm, tdiv_neg, hz]
        have s1 := run_d10 d hd10
        have hS := show upz y.natAbs = upz z.natAbs ++ [UInt8.ofNat (48 + d)] by rw [hz0.2.2, show y.natAbs = m by omega, ← hd]; exact upz_step m (by omega)
        obtain ⟨c, hc⟩ : ∃ c : UInt8, UInt8.ofNat (48 + d) = c := ⟨_, rfl⟩
        rw [hc] at s1 hS
        have HS := hid hS
        have HLL := hid (show l.length ≤ 20 by have := congrArg List.length HL.out; have := HDL.out; simp at *; omega)
        have a1 := run_add_txt (P := Tryd.prog) [c] l (by simp only [List.length_cons, List.length_nil]; have := HLL.out; omega)
        have hz1 := hz0.1
        have hz2 := hz0.2.1
        clear hm hd hz hz0 hc hS
        go_wp2
        go_round
        case rel =>
          refine ⟨z, [c] ++ l, by omega, by omega, rfl, rfl, hid ?_⟩
          rw [HL.out, HS.out]
          simp
        case measure => simp [intOf]; omega
      · have hy' : y = 0 := by omega
        have e : D = l := by rw [HL.out, hy']; rfl
        subst e
        clear hy'
        go_wp2
        go_ret
        refine ⟨?_, rfl⟩
        rw [HI2.out]
        rfl
  · obtain ⟨N, rfl⟩ : ∃ N : Nat, n = N := ⟨n.toNat, by omega⟩
    obtain ⟨D, hD⟩ : ∃ D, Lib.decDigits N = D := ⟨_, rfl⟩
    have HDL := hid (show D.length ≤ 20 by rw [← hD]; exact dec_len N 19 (by omega))
    have HI2 := hid (show Lib.itoa N = D by rw [HI.out, if_neg hn, ← hD]; rfl)
    obtain ⟨c, hc⟩ : ∃ c : UInt8, UInt8.ofNat (48 + N % 10) = c := ⟨_, rfl⟩
    have s0 := run_d10 (N % 10) (by omega)
    have e0 : ((N % 10 : Nat) : Int) = (N : Int) % 10 := by omega
    rw [hc, e0] at s0
    have hU := hid (show D = up N ++ [c] by rw [← hD, ← hc]; exact up_start N)
    clear hD hc e0 HI
    go_enter Tryd.func89, Tryd.ntmps89
    go_wp2
    go_loop [0, 5] (fun x s => ∃ (m : Nat) (l : List UInt8), (m : Int) ≤ N ∧ x = .int .i64 m ∧ s = .string (txt l) ∧ Hid (D = up m ++ l)) (fun x _ => (intOf x).toNat)
    case atStart => exact ⟨N, [c], by omega, rfl, rfl, hU⟩
    case round =>
      obtain ⟨m, l, hm, rfl, rfl, HL⟩ := hrel
      by_cases hlt : m < 10
      · have e : D = l := by rw [HL.out, up, if_pos hlt]; rfl
        subst e
        go_wp2
        go_ret
        refine ⟨?_, rfl⟩
        rw [HI2.out]
        rfl
      · obtain ⟨q, hq⟩ : ∃ q : Nat, m / 10 = q := ⟨_, rfl⟩
        have e1 : (m : Int) / 10 = (q : Int) := by omega
        have s1 := run_d10 (q % 10) (by omega)
        have e2 : ((q % 10 : Nat) : Int) = (q : Int) % 10 := by omega
        obtain ⟨c, hc⟩ : ∃ c : UInt8, UInt8.ofNat (48 + q % 10) = c := ⟨_, rfl⟩
        rw [hc, e2] at s1
        have hS := up_step m hlt
        rw [hq, hc] at hS
        have HS := hid hS
        have HLL := hid (show l.length ≤ 20 by have := congrArg List.length HL.out; have := HDL.out; simp at *; omega)
        have a1 := run_add_txt (P := Tryd.prog) [c] l (by simp only [List.length_cons, List.length_nil]; have := HLL.out; omega)
        have hql : q < m := by omega
        have hqN : (q : Int) ≤ N := by omega
        have hm10 : (10 : Int) ≤ m := by omega
        clear hq hc hS e2 s0
        go_wp2
        go_round
        case rel =>
          refine ⟨q, [c] ++ l, by omega, rfl, rfl, hid ?_⟩
          rw [HL.out, HS.out]
          simp
        case measure => simp [intOf]; omega
end Go.Proofs.YtkmgiodhaaajjaaDoor.Dec
