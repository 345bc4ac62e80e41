/- Layer hex: bytes out of digits: the plain law, and both walks of Take. -/
import Derived.Test.YtgdhchknegjpfaaDoorHexB
import Derived.Test.YtgdhchknegjpfaaDoorApp
set_option linter.unusedVariables false
set_option linter.unusedSimpArgs false
namespace Go.Proofs.YtgdhchknegjpfaaDoor.HexC
open Go.IntWalk Go.RowKit Go.Proofs.YtgdhchknegjpfaaDoor.Mem Go.Proofs.YtgdhchknegjpfaaDoor.Num Go.Proofs.YtgdhchknegjpfaaDoor.BitsA Go.Proofs.YtgdhchknegjpfaaDoor.Txt Go.Proofs.YtgdhchknegjpfaaDoor.HexA Go.Proofs.YtgdhchknegjpfaaDoor.App

/-- A digit's value; -1: it is none. -/
def hv (c : Int) : Int := if 48 ≤ c ∧ c ≤ 57 then c - 48 else if 97 ≤ c ∧ c ≤ 102 then c - 87 else -1
theorem hv_bd (c : Int) : -1 ≤ hv c ∧ hv c < 16 := by unfold hv; split <;> (try split) <;> omega
set_option maxRecDepth 100000 in
theorem hv_index : ∀ n : Fin 256, Lib.indexByte [48, 49, 50, 51, 52, 53, 54, 55, 56, 57, 97, 98, 99, 100, 101, 102] (UInt8.ofNat n.val) = hv (n.val : Int) := by decide
theorem hv_dig : ∀ n : Fin 16, hv ((dig n.val).toNat : Int) = (n.val : Int) := by decide
set_option maxRecDepth 100000 in
theorem dig_hv : ∀ n : Fin 256, 0 ≤ hv (n.val : Int) → dig (hv (n.val : Int)).toNat = UInt8.ofNat n.val := by decide
/-- Pairs of digits. -/
def takeP : List Int → Option (List Int)
  | [] => some []
  | [_] => none
  | a :: b :: l => if hv a < 0 ∨ hv b < 0 then none else (takeP l).map ((hv a * 16 + hv b) :: ·)
theorem takeP_odd : ∀ (l : List Int), l.length % 2 = 1 → takeP l = none
  | [], h => by simp at h
  | [_], _ => rfl
  | a :: b :: l, h => by
    have := takeP_odd l (by simp at h; omega)
    simp [takeP, this]
def takeR (l : List Int) : List Int := (takeP l).getD []
theorem takeP_nums (xs : List Int) (h : Bytes xs) : takeP (nums (hexL xs)) = some xs := by
  induction xs with
  | nil => rfl
  | cons x xs ih =>
    have hx := h x (by simp)
    have e : hexL (x :: xs) = dig (x.toNat / 16) :: dig (x.toNat % 16) :: hexL xs := rfl
    have e1 := hv_dig ⟨x.toNat / 16, by omega⟩
    have e2 := hv_dig ⟨x.toNat % 16, by omega⟩
    simp only at e1 e2
    have e3 : nums (hexL (x :: xs)) = ((dig (x.toNat / 16)).toNat : Int) :: ((dig (x.toNat % 16)).toNat : Int) :: nums (hexL xs) := by rw [e]; rfl
    rw [e3, takeP, e1, e2, if_neg (by omega), ih (fun c hc => h c (by simp [hc]))]
    simp only [Option.map_some]
    congr 2
    omega
theorem takeP_back : ∀ (l : List UInt8) (xs : List Int), takeP (nums l) = some xs → hexL xs = l ∧ Bytes xs
  | [], xs, h => by
    have : xs = [] := by simpa [takeP, nums] using h.symm
    subst this
    exact ⟨rfl, fun _ h => by simp at h⟩
  | [a], xs, h => by simp [takeP, nums] at h
  | a :: b :: l, xs, h => by
    have e : nums (a :: b :: l) = (a.toNat : Int) :: (b.toNat : Int) :: nums l := rfl
    rw [e, takeP] at h
    split at h
    · cases h
    · rename_i hn
      obtain ⟨ys, hy, rfl⟩ := Option.map_eq_some_iff.1 h
      obtain ⟨i1, i2⟩ := takeP_back l ys hy
      have d1 := dig_hv ⟨a.toNat, a.toNat_lt⟩ (by simp only; omega)
      have d2 := dig_hv ⟨b.toNat, b.toNat_lt⟩ (by simp only; omega)
      have ba := hv_bd (a.toNat : Int)
      have bb := hv_bd (b.toNat : Int)
      simp only at d1 d2
      refine ⟨?_, ?_⟩
      · have e2 : hexL ((hv (a.toNat : Int) * 16 + hv (b.toNat : Int)) :: ys) = dig ((hv (a.toNat : Int) * 16 + hv (b.toNat : Int)).toNat / 16) :: dig ((hv (a.toNat : Int) * 16 + hv (b.toNat : Int)).toNat % 16) :: hexL ys := rfl
        rw [e2, show (hv (a.toNat : Int) * 16 + hv (b.toNat : Int)).toNat / 16 = (hv (a.toNat : Int)).toNat by omega, show (hv (a.toNat : Int) * 16 + hv (b.toNat : Int)).toNat % 16 = (hv (b.toNat : Int)).toNat by omega, d1, d2, i1]
        simp
      · intro c hc
        rcases List.mem_cons.1 hc with rfl | hc
        · omega
        · exact i2 c hc

theorem idx_calls (b : UInt8) (w : World) :
    Calls Tryd.prog 45 #[.string { data := #[48, 49, 50, 51, 52, 53, 54, 55, 56, 57, 97, 98, 99, 100, 101, 102] }, .int .u8 (b.toNat : Int)] w fun e w' => e = .returned (.int .i64 (hv (b.toNat : Int))) ∧ w' = w := by
  refine (Tryd.strings_IndexByte _ _ w).mono ?_
  rintro e w' ⟨rfl, rfl⟩
  refine ⟨ret_int ?_, rfl⟩
  have := hv_index ⟨b.toNat, b.toNat_lt⟩
  simp only at this
  rw [← this]
  simp [Nat.toUInt8]
set_option maxHeartbeats 1000000 in
theorem digit_calls (b : UInt8) (w : World) :
    Calls Tryd.prog 50 #[.int .u8 (b.toNat : Int)] w fun e w' => e = .returned (.int .i64 (hv (b.toNat : Int))) ∧ w' = w := by
  obtain ⟨x, hx⟩ : ∃ x : Nat, b.toNat = x := ⟨_, rfl⟩
  have hx2 : x < 256 := by have := b.toNat_lt; omega
  rw [hx]
  clear hx
  go_enter Tryd.func50, Tryd.ntmps50
  go_wp2
  all_goals
    go_ret
    refine ⟨ret_int ?_, rfl⟩
    simp only [hv]
    first
      | (rw [if_pos (by omega)])
      | (rw [if_neg (by omega), if_pos (by omega)])
      | (rw [if_neg (by omega), if_neg (by omega)])
end Go.Proofs.YtgdhchknegjpfaaDoor.HexC
