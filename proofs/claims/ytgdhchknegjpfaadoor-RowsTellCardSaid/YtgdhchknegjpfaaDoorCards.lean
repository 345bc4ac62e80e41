/-
  DERIVED. GIVEN WITH THE SEED: THE CARDS: each row of YtgdhchknegjpfaaDoorRows.lean that lists a variable, with what it lists TIED to the program's text (the seventh form; the later family's looks); each row that meets fmt, with fmt's text TOLD by the authors' own Lean function (tested against real Go, not proved from fmt's source: count such statements apart). THE CARD IS WHAT COUNTS. Prove the row's statement (the work); the ties are given (YtgdhchknegjpfaaDoorTie.lean); close each card by the builder's one call (the guide's Derived/Test/ToyasCard.lean, 'card_holds'). Laid BY PROGRAM, IN A SANDBOX (cutbox-door.mjs). By AI agents, Wed Nov 11 2026. No macro, syntax, notation, axiom, sorry.
-/
import Derived.Test.YtgdhchknegjpfaaDoorRows
import GoSem.ClaimSeven
namespace Go.Proofs.YtgdhchknegjpfaaDoor
namespace Rows

/-- THE TIED CARD OF 'ullagelaw07.HeadNone'. -/
def headNoneCard : Claim7 := { stood := { row := headNoneRow, standIns := [], harness := (true, "48c35ca8698f11f91537dc7ef4c95b2d55e9ca7f421a3d25aa48ee91f8d9e6b8"), looks := false }, kinds := [], alts := [], laidByText := true, laidKinds := [.wider], laidTests := true, laidLooks := .later }
def HeadNoneCardSaid : Prop := Claim7.holds Tryd.pinned (.plain (OpenSpec.ofChange headNoneSpec)) headNoneCard

/-- THE TIED CARD OF 'ullagelaw07.HeadFirst'. -/
def headFirstCard : Claim7 := { stood := { row := headFirstRow, standIns := [], harness := (true, "48c35ca8698f11f91537dc7ef4c95b2d55e9ca7f421a3d25aa48ee91f8d9e6b8"), looks := false }, kinds := [], alts := [], laidByText := true, laidKinds := [.wider], laidTests := true, laidLooks := .later }
def HeadFirstCardSaid : Prop := Claim7.holds Tryd.pinned (.plain (OpenSpec.ofChange headFirstSpec)) headFirstCard

/-- THE TIED CARD OF 'ullagelaw07.HeadPuts'. -/
def headPutsCard : Claim7 := { stood := { row := headPutsRow, standIns := [], harness := (true, "48c35ca8698f11f91537dc7ef4c95b2d55e9ca7f421a3d25aa48ee91f8d9e6b8"), looks := false }, kinds := [], alts := [], laidByText := true, laidKinds := [.wider], laidTests := true, laidLooks := .later }
def HeadPutsCardSaid : Prop := Claim7.holds Tryd.pinned (.plain (OpenSpec.ofChange headPutsSpec)) headPutsCard

/-- THE TIED CARD OF 'ullagelaw05.HexPuts'. -/
def hexPutsCard : Claim7 := { stood := { row := hexPutsRow, standIns := [], harness := (true, "48c35ca8698f11f91537dc7ef4c95b2d55e9ca7f421a3d25aa48ee91f8d9e6b8"), looks := false }, kinds := [], alts := [], laidByText := true, laidKinds := [.data, .data, .data], laidTests := true, laidLooks := .later }
def HexPutsCardSaid : Prop := Claim7.holds Tryd.pinned (.plain (OpenSpec.ofChange hexPutsSpec)) hexPutsCard

/-- THE TIED CARD OF 'ullagelaw05.HexTakes'. -/
def hexTakesCard : Claim7 := { stood := { row := hexTakesRow, standIns := [], harness := (true, "48c35ca8698f11f91537dc7ef4c95b2d55e9ca7f421a3d25aa48ee91f8d9e6b8"), looks := false }, kinds := [], alts := [], laidByText := true, laidKinds := [.data, .data, .data], laidTests := true, laidLooks := .later }
def HexTakesCardSaid : Prop := Claim7.holds Tryd.pinned (.plain (OpenSpec.ofChange hexTakesSpec)) hexTakesCard

/-- THE TIED CARD OF 'ullagelaw25.RowsTell'. -/
def rowsTellCard : Claim7 := { stood := { row := rowsTellRow, standIns := [], harness := (true, "48c35ca8698f11f91537dc7ef4c95b2d55e9ca7f421a3d25aa48ee91f8d9e6b8"), looks := false }, kinds := [], alts := [], laidByText := true, laidKinds := [.data, .data, .data, .widerDeep], laidTests := true, laidLooks := .later }
def RowsTellCardSaid : Prop := Claim7.holds Tryd.pinned (.plain (OpenSpec.ofChange rowsTellSpec)) rowsTellCard

/-- THE TIED CARD OF 'ullagelaw25.RowsNames'. -/
def rowsNamesCard : Claim7 := { stood := { row := rowsNamesRow, standIns := [], harness := (true, "48c35ca8698f11f91537dc7ef4c95b2d55e9ca7f421a3d25aa48ee91f8d9e6b8"), looks := false }, kinds := [], alts := [], laidByText := true, laidKinds := [.data, .data, .data, .widerDeep], laidTests := true, laidLooks := .later }
def RowsNamesCardSaid : Prop := Claim7.holds Tryd.pinned (.plain (OpenSpec.ofChange rowsNamesSpec)) rowsNamesCard

/-- THE SECOND FORM's CARD OF 'ullagelaw07.HeadNone'. -/
def headNoneUptoCard : Claim7 := { stood := { row := headNoneUptoRow, standIns := [], harness := (true, "48c35ca8698f11f91537dc7ef4c95b2d55e9ca7f421a3d25aa48ee91f8d9e6b8"), looks := false }, kinds := [], alts := [], laidByText := true, laidKinds := [.wider], laidTests := true, laidLooks := .later }
def HeadNoneUptoCardSaid : Prop := Claim7.holds Tryd.pinned (.plain (OpenSpec.upto headNoneSpec)) headNoneUptoCard

/-- THE SECOND FORM's CARD OF 'ullagelaw07.HeadFirst'. -/
def headFirstUptoCard : Claim7 := { stood := { row := headFirstUptoRow, standIns := [], harness := (true, "48c35ca8698f11f91537dc7ef4c95b2d55e9ca7f421a3d25aa48ee91f8d9e6b8"), looks := false }, kinds := [], alts := [], laidByText := true, laidKinds := [.wider], laidTests := true, laidLooks := .later }
def HeadFirstUptoCardSaid : Prop := Claim7.holds Tryd.pinned (.plain (OpenSpec.upto headFirstSpec)) headFirstUptoCard

/-- THE SECOND FORM's CARD OF 'ullagelaw07.HeadPuts'. -/
def headPutsUptoCard : Claim7 := { stood := { row := headPutsUptoRow, standIns := [], harness := (true, "48c35ca8698f11f91537dc7ef4c95b2d55e9ca7f421a3d25aa48ee91f8d9e6b8"), looks := false }, kinds := [], alts := [], laidByText := true, laidKinds := [.wider], laidTests := true, laidLooks := .later }
def HeadPutsUptoCardSaid : Prop := Claim7.holds Tryd.pinned (.plain (OpenSpec.upto headPutsSpec)) headPutsUptoCard

/-- THE SECOND FORM's CARD OF 'ullagelaw05.HexPuts'. -/
def hexPutsUptoCard : Claim7 := { stood := { row := hexPutsUptoRow, standIns := [], harness := (true, "48c35ca8698f11f91537dc7ef4c95b2d55e9ca7f421a3d25aa48ee91f8d9e6b8"), looks := false }, kinds := [], alts := [], laidByText := true, laidKinds := [.data, .data, .data], laidTests := true, laidLooks := .later }
def HexPutsUptoCardSaid : Prop := Claim7.holds Tryd.pinned (.plain (OpenSpec.upto hexPutsSpec)) hexPutsUptoCard

/-- THE SECOND FORM's CARD OF 'ullagelaw05.HexTakes'. -/
def hexTakesUptoCard : Claim7 := { stood := { row := hexTakesUptoRow, standIns := [], harness := (true, "48c35ca8698f11f91537dc7ef4c95b2d55e9ca7f421a3d25aa48ee91f8d9e6b8"), looks := false }, kinds := [], alts := [], laidByText := true, laidKinds := [.data, .data, .data], laidTests := true, laidLooks := .later }
def HexTakesUptoCardSaid : Prop := Claim7.holds Tryd.pinned (.plain (OpenSpec.upto hexTakesSpec)) hexTakesUptoCard

/-- THE SECOND FORM's CARD OF 'ullagelaw25.RowsTell'. -/
def rowsTellUptoCard : Claim7 := { stood := { row := rowsTellUptoRow, standIns := [], harness := (true, "48c35ca8698f11f91537dc7ef4c95b2d55e9ca7f421a3d25aa48ee91f8d9e6b8"), looks := false }, kinds := [], alts := [], laidByText := true, laidKinds := [.data, .data, .data, .widerDeep], laidTests := true, laidLooks := .later }
def RowsTellUptoCardSaid : Prop := Claim7.holds Tryd.pinned (.plain (OpenSpec.upto rowsTellSpec)) rowsTellUptoCard

/-- THE SECOND FORM's CARD OF 'ullagelaw25.RowsNames'. -/
def rowsNamesUptoCard : Claim7 := { stood := { row := rowsNamesUptoRow, standIns := [], harness := (true, "48c35ca8698f11f91537dc7ef4c95b2d55e9ca7f421a3d25aa48ee91f8d9e6b8"), looks := false }, kinds := [], alts := [], laidByText := true, laidKinds := [.data, .data, .data, .widerDeep], laidTests := true, laidLooks := .later }
def RowsNamesUptoCardSaid : Prop := Claim7.holds Tryd.pinned (.plain (OpenSpec.upto rowsNamesSpec)) rowsNamesUptoCard
end Rows
end Go.Proofs.YtgdhchknegjpfaaDoor
