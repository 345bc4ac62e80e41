/- Layer rows: an error by its name; no two have one name. -/
import Derived.Test.YtgdhchknegjpfaaDoorRowsA
set_option linter.unusedVariables false
set_option linter.unusedSimpArgs false
namespace Go.Proofs.YtgdhchknegjpfaaDoor.RowsB
open Go.IntWalk Go.RowKit Go.Proofs.YtgdhchknegjpfaaDoor.Mem Go.Proofs.YtgdhchknegjpfaaDoor.Txt Go.Proofs.YtgdhchknegjpfaaDoor.Itoa Go.Proofs.YtgdhchknegjpfaaDoor.RowsA

/-- The number that digits tell. -/
def dval (l : List UInt8) : Nat := l.foldl (fun n c => n * 10 + (c.toNat - 48)) 0
theorem dval_dec (n : Nat) : dval (Lib.decDigits n) = n := by
  induction n using Nat.strongRecOn with
  | ind n ih =>
    rw [Dec.dec_eq]
    split
    · rename_i h
      have : ∀ i : Fin 10, dval [UInt8.ofNat (48 + i.val)] = i.val := by decide
      exact this ⟨n, h⟩
    · have h1 := ih (n / 10) (by omega)
      have h2 : ∀ i : Fin 10, (UInt8.ofNat (48 + i.val)).toNat = 48 + i.val := by decide
      have h3 := h2 ⟨n % 10, by omega⟩
      simp only at h3
      unfold dval at h1 ⊢
      rw [List.foldl_append, h1]
      simp only [List.foldl_cons, List.foldl_nil]
      rw [h3]
      omega
theorem dec_head (n : Nat) : ∃ c l, Lib.decDigits n = c :: l ∧ 48 ≤ c.toNat := by
  induction n using Nat.strongRecOn with
  | ind n ih =>
    rw [Dec.dec_eq]
    split
    · rename_i h
      have h2 : ∀ i : Fin 10, (UInt8.ofNat (48 + i.val)).toNat = 48 + i.val := by decide
      have := h2 ⟨n, h⟩
      exact ⟨_, _, rfl, by simp only at this; omega⟩
    · obtain ⟨c, l, e, h⟩ := ih (n / 10) (by omega)
      rw [e]
      exact ⟨c, _, rfl, h⟩
theorem dec_inj {a b : Nat} (h : Lib.decDigits a = Lib.decDigits b) : a = b := by
  have := congrArg dval h
  rwa [dval_dec, dval_dec] at this
theorem itoa_inj {a b : Int} (h : Lib.itoa a = Lib.itoa b) : a = b := by
  unfold Lib.itoa at h
  split at h <;> split at h
  · injection h with _ h
    have := dec_inj h
    omega
  · obtain ⟨c, l, e, hc⟩ := dec_head b.toNat
    rw [e] at h
    injection h with h _
    subst h
    simp at hc
  · obtain ⟨c, l, e, hc⟩ := dec_head a.toNat
    rw [e] at h
    injection h with h _
    subst h
    simp at hc
  · have := dec_inj h
    omega
theorem names_apart : ∀ i j : Fin 10, names.getD i.val [] = names.getD j.val [] → i = j := by decide
theorem names_head : ∀ i : Fin 10, (names.getD i.val []).take 6 ≠ errW := by decide
theorem names_err (i : Nat) (hi : i < 10) (l : List UInt8) : names.getD i [] ≠ errW ++ l := by
  intro h
  have := names_head ⟨i, hi⟩
  simp only at this
  rw [h] at this
  exact this (by simp [errW])
theorem name_inj {a b : Int} (h : nameL a = nameL b) : a = b := by
  unfold nameL at h
  split at h <;> split at h
  · have := names_apart ⟨a.toNat, by omega⟩ ⟨b.toNat, by omega⟩ h
    simp only [Fin.mk.injEq] at this
    omega
  · exact absurd h (names_err _ (by omega) _)
  · exact absurd h.symm (names_err _ (by omega) _)
  · exact itoa_inj (List.append_cancel_left h)
theorem name_low (n : Nat) (h : n < 10) : nameL (n : Int) = names.getD n [] := by rw [nameL, if_pos (by omega)]; rfl

theorem cells_names {w : World} (h : NamesAt w) (j : Nat) (hj : j < (names.map txt).length) : w.cell? ⟨0, 0 + j, none⟩ = some (.string ((names.map txt).getD j ByteArray.empty)) := by
  have hj' : j < 10 := by simpa [names] using hj
  rw [Nat.zero_add, h.at_ j hj']
  simp only [List.getD_eq_getElem?_getD, List.getElem?_map]
  have : j < names.length := hj'
  simp [List.getElem?_eq_getElem this]
theorem getD_names (j : Nat) (hj : j < 10) : (names.map txt).getD j ByteArray.empty = txt (names.getD j []) := by
  have : j < names.length := hj
  simp [List.getD_eq_getElem?_getD, List.getElem?_eq_getElem this]
set_option maxRecDepth 20000 in
set_option maxHeartbeats 1000000 in
theorem named_hit (k : Nat) (hk : k < 10) (s : ByteArray) (hs : s = txt (names.getD k [])) (w : World) (hN : NamesAt w) :
    Calls Tryd.prog 36 #[.string s] w fun r w' => r = .returned (.tuple #[.int .i64 k, .bool true]) ∧ w = w' := by
  have HN := hid hN
  have HI := hid (Lib.idxOfS_hit (names.map txt) 10 k s hk (by decide) (by rw [getD_names k hk, hs]) (fun j hj => by
    rw [getD_names j (by omega), hs]
    intro e
    have := names_apart ⟨j, by omega⟩ ⟨k, hk⟩ (txt_inj e)
    simp only [Fin.mk.injEq] at this
    omega))
  have hm : max (k : Int) 0 = k := by omega
  clear hN hs
  go_enter Tryd.func36, Tryd.ntmps36
  go_wp2_with fail
  refine (Tryd.slices_Index_string 0 0 10 10 (names.map txt) s w (by decide) (by omega) (cells_names HN.out)).mono ?_
  rintro e w' ⟨rfl, rfl⟩
  rw [HI.out]
  go_wp2_with fail
  go_ret2
  exact ⟨rfl, rfl⟩
set_option maxRecDepth 20000 in
set_option maxHeartbeats 1000000 in
theorem named_miss (s : ByteArray) (hs : ∀ k, k < 10 → s ≠ txt (names.getD k [])) (w : World) (hN : NamesAt w) :
    Calls Tryd.prog 36 #[.string s] w fun r w' => r = .returned (.tuple #[.int .i64 0, .bool false]) ∧ w = w' := by
  have HN := hid hN
  have HI := hid (Lib.idxOfS_miss (names.map txt) 10 s (fun j hj => by rw [getD_names j hj]; exact fun e => hs j hj e.symm))
  clear hN hs
  go_enter Tryd.func36, Tryd.ntmps36
  go_wp2_with fail
  refine (Tryd.slices_Index_string 0 0 10 10 (names.map txt) s w (by decide) (by omega) (cells_names HN.out)).mono ?_
  rintro e w' ⟨rfl, rfl⟩
  rw [HI.out]
  go_wp2_with fail
  go_ret2
  exact ⟨rfl, rfl⟩
end Go.Proofs.YtgdhchknegjpfaaDoor.RowsB
