/-
  DERIVED. GIVEN WITH THE SEED: THE CARDS: each row of YtkmgiodhaaajjaaDoorRows.lean that lists a variable, with what it lists TIED to the program's text (the seventh form; the later family's looks); each row that meets fmt, with fmt's text TOLD by the authors' own Lean function (tested against real Go, not proved from fmt's source: count such statements apart). THE CARD IS WHAT COUNTS. Prove the row's statement (the work); the ties are given (YtkmgiodhaaajjaaDoorTie.lean); close each card by the builder's one call (the guide's Derived/Test/ToyasCard.lean, 'card_holds'). Laid BY PROGRAM, IN A SANDBOX (cutbox-door.mjs). By AI agents, Wed Nov 11 2026. No macro, syntax, notation, axiom, sorry.
-/
import Derived.Test.YtkmgiodhaaajjaaDoorRows
import GoSem.ClaimSeven
namespace Go.Proofs.YtkmgiodhaaajjaaDoor
namespace Rows

/-- THE TIED CARD OF 'ullagelaw08.ItemTells'. -/
def itemTellsCard : Claim7 := { stood := { row := itemTellsRow, standIns := [], harness := (true, "f65c02492f5556769a79cf41b61d9375cb492e34d30a7f6f370c7b0d982b554a"), looks := true }, kinds := [], alts := [], laidByText := true, laidKinds := [.wider], laidTests := true, laidLooks := .later }
def ItemTellsCardSaid : Prop := Claim7.holds Tryd.pinned (.plain (OpenSpec.ofChange itemTellsSpec)) itemTellsCard

/-- THE TIED CARD OF 'ullagelaw08.ItemSame'. -/
def itemSameCard : Claim7 := { stood := { row := itemSameRow, standIns := [], harness := (true, "f65c02492f5556769a79cf41b61d9375cb492e34d30a7f6f370c7b0d982b554a"), looks := true }, kinds := [], alts := [], laidByText := true, laidKinds := [.wider], laidTests := true, laidLooks := .later }
def ItemSameCardSaid : Prop := Claim7.holds Tryd.pinned (.plain (OpenSpec.ofChange itemSameSpec)) itemSameCard

/-- THE TIED CARD OF 'ullagelaw16.SchemaChecks'. -/
def schemaChecksCard : Claim7 := { stood := { row := schemaChecksRow, standIns := [], harness := (true, "f65c02492f5556769a79cf41b61d9375cb492e34d30a7f6f370c7b0d982b554a"), looks := true }, kinds := [], alts := [], laidByText := true, laidKinds := [.wider], laidTests := true, laidLooks := .later }
def SchemaChecksCardSaid : Prop := Claim7.holds Tryd.pinned (.plain (OpenSpec.ofChange schemaChecksSpec)) schemaChecksCard

/-- THE TIED CARD OF 'ullagelaw16.SchemaLeads'. -/
def schemaLeadsCard : Claim7 := { stood := { row := schemaLeadsRow, standIns := [], harness := (true, "f65c02492f5556769a79cf41b61d9375cb492e34d30a7f6f370c7b0d982b554a"), looks := true }, kinds := [], alts := [], laidByText := true, laidKinds := [.wider], laidTests := true, laidLooks := .later }
def SchemaLeadsCardSaid : Prop := Claim7.holds Tryd.pinned (.plain (OpenSpec.ofChange schemaLeadsSpec)) schemaLeadsCard

/-- THE TIED CARD OF 'ullagelaw23.MemBounds'. -/
def memBoundsCard : Claim7 := { stood := { row := memBoundsRow, standIns := [], harness := (true, "f65c02492f5556769a79cf41b61d9375cb492e34d30a7f6f370c7b0d982b554a"), looks := true }, kinds := [], alts := [], laidByText := true, laidKinds := [.wider], laidTests := true, laidLooks := .later }
def MemBoundsCardSaid : Prop := Claim7.holds Tryd.pinned (.plain (OpenSpec.ofChange memBoundsSpec)) memBoundsCard

/-- THE TIED CARD OF 'ullagelaw18.DenoteBounds'. -/
def denoteBoundsCard : Claim7 := { stood := { row := denoteBoundsRow, standIns := [], harness := (true, "f65c02492f5556769a79cf41b61d9375cb492e34d30a7f6f370c7b0d982b554a"), looks := true }, kinds := [], alts := [], laidByText := true, laidKinds := [.wider], laidTests := true, laidLooks := .later }
def DenoteBoundsCardSaid : Prop := Claim7.holds Tryd.pinned (.plain (OpenSpec.ofChange denoteBoundsSpec)) denoteBoundsCard

/-- THE TIED CARD OF 'ullagelaw18.DenoteNumbers'. -/
def denoteNumbersCard : Claim7 := { stood := { row := denoteNumbersRow, standIns := [], harness := (true, "f65c02492f5556769a79cf41b61d9375cb492e34d30a7f6f370c7b0d982b554a"), looks := true }, kinds := [], alts := [], laidByText := true, laidKinds := [.wider], laidTests := true, laidLooks := .later }
def DenoteNumbersCardSaid : Prop := Claim7.holds Tryd.pinned (.plain (OpenSpec.ofChange denoteNumbersSpec)) denoteNumbersCard

/-- THE TIED CARD OF 'ullagelaw18.DenoteMatches'. -/
def denoteMatchesCard : Claim7 := { stood := { row := denoteMatchesRow, standIns := [], harness := (true, "f65c02492f5556769a79cf41b61d9375cb492e34d30a7f6f370c7b0d982b554a"), looks := true }, kinds := [], alts := [], laidByText := true, laidKinds := [.wider], laidTests := true, laidLooks := .later }
def DenoteMatchesCardSaid : Prop := Claim7.holds Tryd.pinned (.plain (OpenSpec.ofChange denoteMatchesSpec)) denoteMatchesCard

/-- THE TIED CARD OF 'ullagelaw12.FaultOthers'. -/
def faultOthersCard : Claim7 := { stood := { row := faultOthersRow, standIns := [], harness := (true, "f65c02492f5556769a79cf41b61d9375cb492e34d30a7f6f370c7b0d982b554a"), looks := true }, kinds := [], alts := [], laidByText := true, laidKinds := [.data, .data, .data, .handle], laidTests := true, laidLooks := .later }
def FaultOthersCardSaid : Prop := Claim7.holds Tryd.pinned (.plain (OpenSpec.ofChange faultOthersSpec)) faultOthersCard

/-- THE TIED CARD OF 'ullagelaw12.FaultTells'. -/
def faultTellsCard : Claim7 := { stood := { row := faultTellsRow, standIns := [], harness := (true, "f65c02492f5556769a79cf41b61d9375cb492e34d30a7f6f370c7b0d982b554a"), looks := true }, kinds := [], alts := [], laidByText := true, laidKinds := [.data, .data, .data, .handle], laidTests := true, laidLooks := .later }
def FaultTellsCardSaid : Prop := Claim7.holds Tryd.pinned (.plain (OpenSpec.ofChange faultTellsSpec)) faultTellsCard

/-- THE TIED CARD OF 'ullagelaw19.CandSets'. -/
def candSetsCard : Claim7 := { stood := { row := candSetsRow, standIns := [], harness := (true, "f65c02492f5556769a79cf41b61d9375cb492e34d30a7f6f370c7b0d982b554a"), looks := true }, kinds := [], alts := [], laidByText := true, laidKinds := [.data, .wider], laidTests := true, laidLooks := .later }
def CandSetsCardSaid : Prop := Claim7.holds Tryd.pinned (.plain (OpenSpec.ofChange candSetsSpec)) candSetsCard

/-- THE SECOND FORM's CARD OF 'ullagelaw08.ItemTells'. -/
def itemTellsUptoCard : Claim7 := { stood := { row := itemTellsUptoRow, standIns := [], harness := (true, "f65c02492f5556769a79cf41b61d9375cb492e34d30a7f6f370c7b0d982b554a"), looks := true }, kinds := [], alts := [], laidByText := true, laidKinds := [.wider], laidTests := true, laidLooks := .later }
def ItemTellsUptoCardSaid : Prop := Claim7.holds Tryd.pinned (.plain (OpenSpec.upto itemTellsSpec)) itemTellsUptoCard

/-- THE SECOND FORM's CARD OF 'ullagelaw08.ItemSame'. -/
def itemSameUptoCard : Claim7 := { stood := { row := itemSameUptoRow, standIns := [], harness := (true, "f65c02492f5556769a79cf41b61d9375cb492e34d30a7f6f370c7b0d982b554a"), looks := true }, kinds := [], alts := [], laidByText := true, laidKinds := [.wider], laidTests := true, laidLooks := .later }
def ItemSameUptoCardSaid : Prop := Claim7.holds Tryd.pinned (.plain (OpenSpec.upto itemSameSpec)) itemSameUptoCard

/-- THE SECOND FORM's CARD OF 'ullagelaw16.SchemaChecks'. -/
def schemaChecksUptoCard : Claim7 := { stood := { row := schemaChecksUptoRow, standIns := [], harness := (true, "f65c02492f5556769a79cf41b61d9375cb492e34d30a7f6f370c7b0d982b554a"), looks := true }, kinds := [], alts := [], laidByText := true, laidKinds := [.wider], laidTests := true, laidLooks := .later }
def SchemaChecksUptoCardSaid : Prop := Claim7.holds Tryd.pinned (.plain (OpenSpec.upto schemaChecksSpec)) schemaChecksUptoCard

/-- THE SECOND FORM's CARD OF 'ullagelaw16.SchemaLeads'. -/
def schemaLeadsUptoCard : Claim7 := { stood := { row := schemaLeadsUptoRow, standIns := [], harness := (true, "f65c02492f5556769a79cf41b61d9375cb492e34d30a7f6f370c7b0d982b554a"), looks := true }, kinds := [], alts := [], laidByText := true, laidKinds := [.wider], laidTests := true, laidLooks := .later }
def SchemaLeadsUptoCardSaid : Prop := Claim7.holds Tryd.pinned (.plain (OpenSpec.upto schemaLeadsSpec)) schemaLeadsUptoCard

/-- THE SECOND FORM's CARD OF 'ullagelaw23.MemBounds'. -/
def memBoundsUptoCard : Claim7 := { stood := { row := memBoundsUptoRow, standIns := [], harness := (true, "f65c02492f5556769a79cf41b61d9375cb492e34d30a7f6f370c7b0d982b554a"), looks := true }, kinds := [], alts := [], laidByText := true, laidKinds := [.wider], laidTests := true, laidLooks := .later }
def MemBoundsUptoCardSaid : Prop := Claim7.holds Tryd.pinned (.plain (OpenSpec.upto memBoundsSpec)) memBoundsUptoCard

/-- THE SECOND FORM's CARD OF 'ullagelaw18.DenoteBounds'. -/
def denoteBoundsUptoCard : Claim7 := { stood := { row := denoteBoundsUptoRow, standIns := [], harness := (true, "f65c02492f5556769a79cf41b61d9375cb492e34d30a7f6f370c7b0d982b554a"), looks := true }, kinds := [], alts := [], laidByText := true, laidKinds := [.wider], laidTests := true, laidLooks := .later }
def DenoteBoundsUptoCardSaid : Prop := Claim7.holds Tryd.pinned (.plain (OpenSpec.upto denoteBoundsSpec)) denoteBoundsUptoCard

/-- THE SECOND FORM's CARD OF 'ullagelaw18.DenoteNumbers'. -/
def denoteNumbersUptoCard : Claim7 := { stood := { row := denoteNumbersUptoRow, standIns := [], harness := (true, "f65c02492f5556769a79cf41b61d9375cb492e34d30a7f6f370c7b0d982b554a"), looks := true }, kinds := [], alts := [], laidByText := true, laidKinds := [.wider], laidTests := true, laidLooks := .later }
def DenoteNumbersUptoCardSaid : Prop := Claim7.holds Tryd.pinned (.plain (OpenSpec.upto denoteNumbersSpec)) denoteNumbersUptoCard

/-- THE SECOND FORM's CARD OF 'ullagelaw18.DenoteMatches'. -/
def denoteMatchesUptoCard : Claim7 := { stood := { row := denoteMatchesUptoRow, standIns := [], harness := (true, "f65c02492f5556769a79cf41b61d9375cb492e34d30a7f6f370c7b0d982b554a"), looks := true }, kinds := [], alts := [], laidByText := true, laidKinds := [.wider], laidTests := true, laidLooks := .later }
def DenoteMatchesUptoCardSaid : Prop := Claim7.holds Tryd.pinned (.plain (OpenSpec.upto denoteMatchesSpec)) denoteMatchesUptoCard

/-- THE SECOND FORM's CARD OF 'ullagelaw12.FaultOthers'. -/
def faultOthersUptoCard : Claim7 := { stood := { row := faultOthersUptoRow, standIns := [], harness := (true, "f65c02492f5556769a79cf41b61d9375cb492e34d30a7f6f370c7b0d982b554a"), looks := true }, kinds := [], alts := [], laidByText := true, laidKinds := [.data, .data, .data, .handle], laidTests := true, laidLooks := .later }
def FaultOthersUptoCardSaid : Prop := Claim7.holds Tryd.pinned (.plain (OpenSpec.upto faultOthersSpec)) faultOthersUptoCard

/-- THE SECOND FORM's CARD OF 'ullagelaw12.FaultTells'. -/
def faultTellsUptoCard : Claim7 := { stood := { row := faultTellsUptoRow, standIns := [], harness := (true, "f65c02492f5556769a79cf41b61d9375cb492e34d30a7f6f370c7b0d982b554a"), looks := true }, kinds := [], alts := [], laidByText := true, laidKinds := [.data, .data, .data, .handle], laidTests := true, laidLooks := .later }
def FaultTellsUptoCardSaid : Prop := Claim7.holds Tryd.pinned (.plain (OpenSpec.upto faultTellsSpec)) faultTellsUptoCard

/-- THE SECOND FORM's CARD OF 'ullagelaw19.CandSets'. -/
def candSetsUptoCard : Claim7 := { stood := { row := candSetsUptoRow, standIns := [], harness := (true, "f65c02492f5556769a79cf41b61d9375cb492e34d30a7f6f370c7b0d982b554a"), looks := true }, kinds := [], alts := [], laidByText := true, laidKinds := [.data, .wider], laidTests := true, laidLooks := .later }
def CandSetsUptoCardSaid : Prop := Claim7.holds Tryd.pinned (.plain (OpenSpec.upto candSetsSpec)) candSetsUptoCard
end Rows
end Go.Proofs.YtkmgiodhaaajjaaDoor
