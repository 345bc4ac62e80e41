/- Layer rows: names of errors, and the document's. -/
import Derived.Test.YtgdhchknegjpfaaDoorFmtU
import Derived.Test.YtgdhchknegjpfaaDoorHexB
import Derived.Laws.Cells
import Derived.Deep.QuietTactic
import Derived.BigQuiet
set_option linter.unusedVariables false
set_option linter.unusedSimpArgs false
namespace Go.Proofs.YtgdhchknegjpfaaDoor.RowsA
open Go.IntWalk Go.RowKit Go.Proofs.YtgdhchknegjpfaaDoor.Mem Go.Proofs.YtgdhchknegjpfaaDoor.Txt Go.Proofs.YtgdhchknegjpfaaDoor.Itoa

/-- The names of the first ten errors. -/
def names : List (List UInt8) := [[111, 107], [115, 105, 122, 101], [115, 121, 110, 116, 97, 120], [100, 101, 112, 116, 104], [107, 101, 121, 45, 108, 101, 110, 103, 116, 104], [100, 101, 116, 101, 114, 109, 105, 110, 105, 115, 109], [117, 116, 102, 56], [107, 101, 121, 45, 111, 114, 100, 101, 114], [115, 99, 104, 101, 109, 97], [116, 114, 117, 110, 99, 97, 116, 101, 100]]
def errW : List UInt8 := [101, 114, 114, 111, 114, 45]
def nameL (e : Int) : List UInt8 := if 0 ≤ e ∧ e ≤ 9 then names.getD e.toNat [] else errW ++ Lib.itoa e
/-- The variable holds the names. -/
def NamesAt (w : World) : Prop := ∀ i, i < 10 → w.cell? ⟨0, i, none⟩ = some (.string (txt (names.getD i [])))
theorem NamesAt.fr0 {w w' : World} (h : NamesAt w) (hf : Fr (fun _ => False) w w') : NamesAt w' := fun i hi => (hf.cell (World.block_lt_of_cell? w ⟨_, i, none⟩ (h i hi)) (fun h => h)).trans (h i hi)
theorem NamesAt.at_ {w : World} (h : NamesAt w) (i : Nat) (hi : i < 10) : w.cell? ⟨0, i, none⟩ = some (.string (txt (names.getD i []))) := h i hi
theorem name_len (e : Int) (h0 : -9223372036854775808 ≤ e) (h1 : e ≤ 9223372036854775807) : (nameL e).length ≤ 30 := by
  unfold nameL
  split
  · rename_i h
    have : ∀ i : Fin 10, (names.getD i.val []).length ≤ 30 := by decide
    exact this ⟨e.toNat, by omega⟩
  · have := Dec.itoa_len e h0 h1
    simp [errW]; omega

set_option maxRecDepth 20000 in
set_option maxHeartbeats 2000000 in
theorem name_calls (e : Int) (w : World) (h0 : -9223372036854775808 ≤ e) (h1 : e ≤ 9223372036854775807) (hT : Tab w) (hN : NamesAt w) :
    Calls Tryd.prog 34 #[.int .i64 e] w fun r w' => r = .returned (.string (txt (nameL e))) ∧ Fr (fun _ => False) w w' := by
  have HT := hid hT
  have HN := hid hN
  clear hT hN
  by_cases hin : 0 ≤ e ∧ e ≤ 9
  · obtain ⟨n, rfl⟩ : ∃ n : Nat, e = n := ⟨e.toNat, by omega⟩
    have hn : n < 10 := by omega
    have hni : (n : Int) < 10 := by omega
    have hn0 : (0 : Int) ≤ n := by omega
    have hc := HN.out.at_ n hn
    have HE := hid (show nameL n = names.getD n [] by rw [nameL, if_pos hin]; rfl)
    clear hin
    go_enter Tryd.func34, Tryd.ntmps34
    go_wp2_with fail
    go_ret
    rw [HE.out]
    exact ⟨rfl, Fr.refl _ _⟩
  · have HE := hid (show nameL e = errW ++ Lib.itoa e by rw [nameL, if_neg hin])
    have hl := Dec.itoa_len e h0 h1
    have a1 : ∀ w, (Op.stringOp .add { data := #[101, 114, 114, 111, 114, 45] } (txt (Lib.itoa e))).run Tryd.prog w = .ok (.string (txt (errW ++ Lib.itoa e))) w := run_add_txt (P := Tryd.prog) errW (Lib.itoa e) (by simp [errW]; omega)
    clear hl
    rcases (show e < 0 ∨ 10 ≤ e by omega) with hlt | hge
    · clear hin
      go_enter Tryd.func34, Tryd.ntmps34
      go_wp2_with fail
      refine (itoa_calls e w h0 h1 HT.out).mono ?_
      rintro r w' ⟨rfl, hf⟩
      have HF := hid hf
      clear hf
      go_wp2_with fail
      go_ret
      rw [HE.out]
      exact ⟨rfl, HF.out⟩
    · clear hin
      go_enter Tryd.func34, Tryd.ntmps34
      go_wp2_with fail
      refine (itoa_calls e w h0 h1 HT.out).mono ?_
      rintro r w' ⟨rfl, hf⟩
      have HF := hid hf
      clear hf
      go_wp2_with fail
      go_ret
      rw [HE.out]
      exact ⟨rfl, HF.out⟩

set_option maxRecDepth 20000 in
set_option maxHeartbeats 2000000 in
theorem refname_calls (e : Int) (w : World) (h0 : -9223372036854775808 ≤ e) (h1 : e ≤ 9223372036854775807) :
    Calls Tryd.prog 35 #[.int .i64 e] w fun r w' => r = .returned (.string (txt (nameL e))) ∧ Fr (fun _ => False) w w' := by
  have hb := Blk.new w 9 #[.string { data := #[111, 107] }, .string { data := #[115, 105, 122, 101] }, .string { data := #[115, 121, 110, 116, 97, 120] }, .string { data := #[100, 101, 112, 116, 104] }, .string { data := #[107, 101, 121, 45, 108, 101, 110, 103, 116, 104] }, .string { data := #[100, 101, 116, 101, 114, 109, 105, 110, 105, 115, 109] }, .string { data := #[117, 116, 102, 56] }, .string { data := #[107, 101, 121, 45, 111, 114, 100, 101, 114] }, .string { data := #[115, 99, 104, 101, 109, 97] }, .string { data := #[116, 114, 117, 110, 99, 97, 116, 101, 100] }]
  have HB := hid hb
  clear hb
  by_cases hin : 0 ≤ e ∧ e ≤ 9
  · obtain ⟨n, rfl⟩ : ∃ n : Nat, e = n := ⟨e.toNat, by omega⟩
    have hn : n < 10 := by omega
    have hni : (n : Int) < 10 := by omega
    have hn9 : (n : Int) ≤ 9 := by omega
    have hn0 : (0 : Int) ≤ n := by omega
    have HE := hid (show nameL n = names.getD n [] by rw [nameL, if_pos hin]; rfl)
    have HN := hid hn
    clear hin
    go_enter Tryd.func35, Tryd.ntmps35
    go_wp2_with fail
    go_ret
    rw [HE.out]
    refine ⟨?_, (Fr.refl _ _).alloc _⟩
    have hh : n = 0 ∨ n = 1 ∨ n = 2 ∨ n = 3 ∨ n = 4 ∨ n = 5 ∨ n = 6 ∨ n = 7 ∨ n = 8 ∨ n = 9 := by omega
    rcases hh with rfl | rfl | rfl | rfl | rfl | rfl | rfl | rfl | rfl | rfl <;> rfl
  · have HE := hid (show nameL e = errW ++ Lib.itoa e by rw [nameL, if_neg hin])
    have hl := Dec.itoa_len e h0 h1
    have a1 : ∀ w, (Op.stringOp .add { data := #[101, 114, 114, 111, 114, 45] } (txt (Lib.itoa e))).run Tryd.prog w = .ok (.string (txt (errW ++ Lib.itoa e))) w := run_add_txt (P := Tryd.prog) errW (Lib.itoa e) (by simp [errW]; omega)
    clear hl
    rcases (show e < 0 ∨ 10 ≤ e by omega) with hlt | hge
    · clear hin
      go_enter Tryd.func35, Tryd.ntmps35
      go_wp2_with fail
      refine (Dec.text_calls e _ h0 h1).mono ?_
      rintro r w' ⟨rfl, rfl⟩
      go_wp2_with fail
      go_ret
      rw [HE.out]
      exact ⟨rfl, (Fr.refl _ _).alloc _⟩
    · have hge9 : ¬ e ≤ 9 := by omega
      have hge0 : 0 ≤ e := by omega
      clear hin
      go_enter Tryd.func35, Tryd.ntmps35
      go_wp2_with fail
      refine (Dec.text_calls e _ h0 h1).mono ?_
      rintro r w' ⟨rfl, rfl⟩
      go_wp2_with fail
      go_ret
      rw [HE.out]
      exact ⟨rfl, (Fr.refl _ _).alloc _⟩
end Go.Proofs.YtgdhchknegjpfaaDoor.RowsA
