/- Layer head, plainly: what the first head of bytes is, and the shortest head. No program is named here. -/
import Derived.Test.YtgdhchknegjpfaaDoorBitsB
import Derived.Test.YtgdhchknegjpfaaDoorFloatG
set_option linter.unusedVariables false
set_option linter.unusedSimpArgs false
namespace Go.Proofs.YtgdhchknegjpfaaDoor.HeadP
open Go.RowKit Go.Proofs.YtgdhchknegjpfaaDoor.Mem Go.Proofs.YtgdhchknegjpfaaDoor.Num Go.Proofs.YtgdhchknegjpfaaDoor.BitsA Go.Proofs.YtgdhchknegjpfaaDoor.BitsB Go.Proofs.YtgdhchknegjpfaaDoor.FloatP Go.Proofs.YtgdhchknegjpfaaDoor.FloatG

/-- The width that a first byte's low bits tell. -/
def begW (I : Nat) : Nat := if I = 24 then 1 else if I = 25 then 2 else if I = 26 then 4 else if I = 27 then 8 else 0
def begA (I : Nat) : Nat := if 24 ≤ I ∧ I ≤ 27 then 0 else I
def begE (M I : Nat) : Nat := if I = 31 ∧ 2 ≤ M ∧ M ≤ 5 then 5 else if 28 ≤ I then 2 else 0
/-- Is the argument not the shortest? -/
def longB (M W A : Nat) : Bool := if W = 0 then false else if M = 7 then decide (1 < W) && !shortR A W else if W = 1 then decide (A < 24) else decide (A / 2 ^ (4 * W) = 0)
/-- Major type, width, argument, how many bytes, the place, the error's number. -/
structure Rd where
  M : Nat
  W : Nat
  A : Nat
  many : Nat
  at_ : Int
  f : Nat
def arg (xs : List Int) (W : Nat) : Nat := (val (win xs 1 W)).toNat
def readW (xs : List Int) (M W : Nat) : Rd :=
  if xs.length ≤ W then ⟨0, 0, 0, 0, xs.length, 9⟩
  else if M = 7 ∧ W = 1 ∧ arg xs W < 32 then ⟨0, 0, 0, 0, 1, 2⟩
  else if longB M W (arg xs W) = true then ⟨M, W, arg xs W, 1 + W, W, 5⟩ else ⟨M, W, arg xs W, 1 + W, -1, 0⟩
def readC (xs : List Int) (c : Nat) : Rd :=
  if 28 ≤ c % 32 then ⟨0, 0, 0, 0, 0, begE (c / 32) (c % 32)⟩
  else if c % 32 < 24 then ⟨c / 32, 0, c % 32, 1, -1, 0⟩
  else readW xs (c / 32) (begW (c % 32))
def readR : List Int → Rd
  | [] => ⟨0, 0, 0, 0, 0, 9⟩
  | c :: xs => readC (c :: xs) c.toNat
/-- What First tells. -/
def firstH (xs : List Int) : Rd := if (readR xs).f = 0 then ⟨(readR xs).M, (readR xs).W, (readR xs).A, 0, (readR xs).many, 0⟩ else ⟨0, 0, 0, 0, (readR xs).at_, (readR xs).f⟩
theorem begW_cases {I : Nat} (h1 : 24 ≤ I) (h2 : I ≤ 27) : begW I = 1 ∨ begW I = 2 ∨ begW I = 4 ∨ begW I = 8 := by
  have : I = 24 ∨ I = 25 ∨ I = 26 ∨ I = 27 := by omega
  rcases this with rfl | rfl | rfl | rfl <;> simp [begW]
theorem and31 (M I : Nat) (hM : M < 8) (hI : I < 32) : Go.bits .and .u8 (32 * (M : Int) + (I : Int)) 31 = (I : Int) := by
  have h : ∀ M : Nat, M < 8 → ∀ I : Nat, I < 32 → Go.bits .and .u8 (32 * (M : Int) + (I : Int)) 31 = (I : Int) := by decide +kernel
  exact h M hM I hI
theorem firstH_nil : firstH [] = ⟨0, 0, 0, 0, 0, 9⟩ := rfl
theorem firstH_err (c : Int) (xs : List Int) (h : 28 ≤ c.toNat % 32) : firstH (c :: xs) = ⟨0, 0, 0, 0, 0, begE (c.toNat / 32) (c.toNat % 32)⟩ := by
  have e : readR (c :: xs) = ⟨0, 0, 0, 0, 0, begE (c.toNat / 32) (c.toNat % 32)⟩ := by
    show readC (c :: xs) c.toNat = _
    unfold readC
    rw [if_pos h]
  have hE : ¬ begE (c.toNat / 32) (c.toNat % 32) = 0 := by unfold begE; rw [if_pos h]; split <;> decide
  unfold firstH
  rw [e, if_neg hE]
theorem firstH_low (c : Int) (xs : List Int) (h : c.toNat % 32 < 24) : firstH (c :: xs) = ⟨c.toNat / 32, 0, c.toNat % 32, 0, 1, 0⟩ := by
  have e : readR (c :: xs) = ⟨c.toNat / 32, 0, c.toNat % 32, 1, -1, 0⟩ := by
    show readC (c :: xs) c.toNat = _
    unfold readC
    rw [if_neg (by omega), if_pos h]
  unfold firstH
  rw [e]
  rfl
theorem readR_wide (c : Int) (xs : List Int) (h1 : 24 ≤ c.toNat % 32) (h2 : c.toNat % 32 ≤ 27) : readR (c :: xs) = readW (c :: xs) (c.toNat / 32) (begW (c.toNat % 32)) := by
  show readC (c :: xs) c.toNat = _
  unfold readC
  rw [if_neg (by omega), if_neg (by omega)]
/-- The head of a first byte that tells a width. -/
structure WideIs (xs : List Int) (M W : Nat) : Prop where
  e : readR xs = readW xs M W
theorem WideIs.short {xs : List Int} {M W : Nat} (h : WideIs xs M W) (hl : xs.length ≤ W) : firstH xs = ⟨0, 0, 0, 0, xs.length, 9⟩ := by
  have e : readR xs = ⟨0, 0, 0, 0, xs.length, 9⟩ := by rw [h.e]; unfold readW; rw [if_pos hl]
  unfold firstH
  rw [e]
  rfl
theorem WideIs.bad {xs : List Int} {M W : Nat} (h : WideIs xs M W) (hl : W < xs.length) (hb : M = 7 ∧ W = 1 ∧ arg xs W < 32) : firstH xs = ⟨0, 0, 0, 0, 1, 2⟩ := by
  have e : readR xs = ⟨0, 0, 0, 0, 1, 2⟩ := by rw [h.e]; unfold readW; rw [if_neg (by omega), if_pos hb]
  unfold firstH
  rw [e]
  rfl
theorem WideIs.long {xs : List Int} {M W : Nat} (h : WideIs xs M W) (hl : W < xs.length) (hb : ¬ (M = 7 ∧ W = 1 ∧ arg xs W < 32)) (hL : longB M W (arg xs W) = true) : firstH xs = ⟨0, 0, 0, 0, W, 5⟩ := by
  have e : readR xs = ⟨M, W, arg xs W, 1 + W, W, 5⟩ := by rw [h.e]; unfold readW; rw [if_neg (by omega), if_neg hb, if_pos hL]
  unfold firstH
  rw [e]
  rfl
theorem WideIs.good {xs : List Int} {M W : Nat} (h : WideIs xs M W) (hl : W < xs.length) (hb : ¬ (M = 7 ∧ W = 1 ∧ arg xs W < 32)) (hL : longB M W (arg xs W) = false) : firstH xs = ⟨M, W, arg xs W, 0, ((1 + W : Nat) : Int), 0⟩ := by
  have e : readR xs = ⟨M, W, arg xs W, 1 + W, -1, 0⟩ := by rw [h.e]; unfold readW; rw [if_neg (by omega), if_neg hb, if_neg (by rw [hL]; decide)]
  unfold firstH
  rw [e]
  rfl
end Go.Proofs.YtgdhchknegjpfaaDoor.HeadP
