/- Layer sha, plainly: the document's sum. No program is named here. -/
import Derived.Test.YtcbogkpgkdijaaaDoorShaB
set_option linter.unusedVariables false
set_option linter.unusedSimpArgs false
namespace Go.Proofs.YtcbogkpgkdijaaaDoor.ShaE
open Go.RowKit Go.Proofs.YtcbogkpgkdijaaaDoor.Mem Go.Proofs.YtcbogkpgkdijaaaDoor.Num Go.Proofs.YtcbogkpgkdijaaaDoor.BitsA Go.Proofs.YtcbogkpgkdijaaaDoor.BitsB Go.Proofs.YtcbogkpgkdijaaaDoor.ShaP Go.Proofs.YtcbogkpgkdijaaaDoor.ShaB

theorem xor_nat (a b : Nat) (ha : a < 2 ^ 32) (hb : b < 2 ^ 32) : Go.bits .xor .u32 a b = ((a ^^^ b : Nat) : Int) := by
  have hx : a ^^^ b < 2 ^ 32 := Nat.xor_lt_two_pow ha hb
  have h1 : (BitVec.ofInt 32 (a : Int)).toNat = a := by
    rw [BitVec.ofInt_natCast, BitVec.toNat_ofNat]; exact Nat.mod_eq_of_lt ha
  have h2 : (BitVec.ofInt 32 (b : Int)).toNat = b := by
    rw [BitVec.ofInt_natCast, BitVec.toNat_ofNat]; exact Nat.mod_eq_of_lt hb
  show IntKind.u32.wrap ((BitVec.ofInt 32 (a : Int) ^^^ BitVec.ofInt 32 (b : Int)).toNat : Int) = _
  rw [BitVec.toNat_xor, h1, h2, wrap_u32]
  omega
theorem and_nat (a b : Nat) (ha : a < 2 ^ 32) (hb : b < 2 ^ 32) : Go.bits .and .u32 a b = ((a &&& b : Nat) : Int) := (bits_u32 a b ha hb).1
theorem or_nat (a b : Nat) (ha : a < 2 ^ 32) (hb : b < 2 ^ 32) : Go.bits .or .u32 a b = ((a ||| b : Nat) : Int) := (bits_u32 a b ha hb).2
theorem lt32 {x : Int} (h : 0 ≤ x ∧ x < 4294967296) : ∃ n : Nat, x = n ∧ n < 2 ^ 32 := ⟨x.toNat, by omega, by omega⟩
theorem N_nat (a : Nat) (ha : a < 2 ^ 32) : N (a : Int) = ((4294967295 ^^^ a : Nat) : Int) := by
  unfold N
  exact xor_nat 4294967295 a (by decide) ha
theorem ch_nat (e f g : Nat) (he : e < 2 ^ 32) : (e &&& f) ||| ((4294967295 ^^^ e) &&& g) = (e &&& f) ^^^ ((4294967295 ^^^ e) &&& g) := by
  apply Nat.eq_of_testBit_eq
  intro i
  simp only [Nat.testBit_or, Nat.testBit_xor, Nat.testBit_and]
  by_cases hi : i < 32
  · have : (4294967295 : Nat).testBit i = true := by
      rw [show (4294967295 : Nat) = 2 ^ 32 - 1 from rfl, Nat.testBit_two_pow_sub_one]; simpa using hi
    rw [this]
    cases e.testBit i <;> cases f.testBit i <;> cases g.testBit i <;> rfl
  · have : e.testBit i = false := Nat.testBit_lt_two_pow (Nat.lt_of_lt_of_le he (Nat.pow_le_pow_right (by decide) (by omega)))
    rw [this]
    cases (4294967295 : Nat).testBit i <;> cases f.testBit i <;> cases g.testBit i <;> rfl
theorem maj_nat (a b c : Nat) : ((a &&& b) ||| (a &&& c)) ||| (b &&& c) = ((a &&& b) ^^^ (a &&& c)) ^^^ (b &&& c) := by
  apply Nat.eq_of_testBit_eq
  intro i
  simp only [Nat.testBit_or, Nat.testBit_xor, Nat.testBit_and]
  cases a.testBit i <;> cases b.testBit i <;> cases c.testBit i <;> rfl
theorem ch_eq {e f g : Int} (he : 0 ≤ e ∧ e < 4294967296) (hf : 0 ≤ f ∧ f < 4294967296) (hg : 0 ≤ g ∧ g < 4294967296) :
    Go.bits .or .u32 (Go.bits .and .u32 e f) (Go.bits .and .u32 (Go.bits .xor .u32 4294967295 e) g) = X (A e f) (A (N e) g) := by
  obtain ⟨e, rfl, qe⟩ := lt32 he
  obtain ⟨f, rfl, qf⟩ := lt32 hf
  obtain ⟨g, rfl, qg⟩ := lt32 hg
  have h1 := Nat.and_lt_two_pow e qf
  have h2 : 4294967295 ^^^ e < 2 ^ 32 := Nat.xor_lt_two_pow (by decide) qe
  have h3 := Nat.and_lt_two_pow (4294967295 ^^^ e) qg
  unfold X A
  rw [N_nat e qe, show Go.bits .xor .u32 4294967295 (e : Int) = ((4294967295 ^^^ e : Nat) : Int) from xor_nat 4294967295 e (by decide) qe, and_nat e f qe qf, and_nat _ g h2 qg, or_nat _ _ h1 h3, xor_nat _ _ h1 h3, ch_nat e f g qe]
theorem maj_eq {a b c : Int} (ha : 0 ≤ a ∧ a < 4294967296) (hb : 0 ≤ b ∧ b < 4294967296) (hc : 0 ≤ c ∧ c < 4294967296) :
    Go.bits .or .u32 (Go.bits .or .u32 (Go.bits .and .u32 a b) (Go.bits .and .u32 a c)) (Go.bits .and .u32 b c) = X (X (A a b) (A a c)) (A b c) := by
  obtain ⟨a, rfl, qa⟩ := lt32 ha
  obtain ⟨b, rfl, qb⟩ := lt32 hb
  obtain ⟨c, rfl, qc⟩ := lt32 hc
  have h1 := Nat.and_lt_two_pow a qb
  have h2 := Nat.and_lt_two_pow a qc
  have h3 := Nat.and_lt_two_pow b qc
  unfold X A
  rw [and_nat a b qa qb, and_nat a c qa qc, and_nat b c qb qc, or_nat _ _ h1 h2, or_nat _ _ (Nat.or_lt_two_pow h1 h2) h3, xor_nat _ _ h1 h2, xor_nat _ _ (Nat.xor_lt_two_pow h1 h2) h3, maj_nat]

theorem getD_append_zero (xs : List Int) (m i : Nat) : (xs ++ List.replicate m 0).getD i 0 = xs.getD i 0 := by
  simp only [List.getD_eq_getElem?_getD]
  rcases Nat.lt_or_ge i xs.length with h | h
  · rw [List.getElem?_append_left h]
  · rw [List.getElem?_append_right h, List.getElem?_eq_none h, List.getElem?_replicate]
    split <;> rfl
theorem first_win (xs : List Int) (n : Nat) : firstS xs n = win xs 0 n := by
  apply ext_getD
  · rw [firstS_length, win_length]
  · intro i hi
    rw [firstS_length] at hi
    have h1 : (firstS xs n).getD i 0 = (xs ++ List.replicate n 0).getD i 0 := by
      simp only [firstS, List.getD_eq_getElem?_getD, List.getElem?_take, hi, if_true]
    have h2 : (win xs 0 n).getD i 0 = xs.getD i 0 := by
      simp [win, List.getD_eq_getElem?_getD, hi]
    rw [h1, h2, getD_append_zero]
theorem win_get (xs : List Int) (from_ n i : Nat) (hi : i < n) : (win xs from_ n).getD i 0 = xs.getD (from_ + i) 0 := by
  simp [win, List.getD_eq_getElem?_getD, hi]
/-- The first words of a block: the document's and the code's. -/
theorem word_win (s : List Int) (m t : Nat) (ht : t < 16) : val (win s (64 * m + 4 * t) 4) = val (firstS ((chunk s m).drop (4 * t)) 4) := by
  congr 1
  apply ext_getD
  · rw [firstS_length, win_length]
  · intro i hi
    rw [win_length] at hi
    rw [win_get _ _ _ _ hi, first_win, win_get _ _ _ _ hi]
    unfold chunk
    simp only [List.getD_eq_getElem?_getD, List.getElem?_drop, List.getElem?_take]
    rw [if_pos (by omega)]
    congr 2
    omega
end Go.Proofs.YtcbogkpgkdijaaaDoor.ShaE
