/-
  DERIVED. GIVEN WITH THE SEED: THE CARDS: each row of YtcbogkpgkdijaaaDoorRows.lean that lists a variable, with what it lists TIED to the program's text (the seventh form; the later family's looks); each row that meets fmt, with fmt's text TOLD by the authors' own Lean function (tested against real Go, not proved from fmt's source: count such statements apart). THE CARD IS WHAT COUNTS. Prove the row's statement (the work); the ties are given (YtcbogkpgkdijaaaDoorTie.lean); close each card by the builder's one call (the guide's Derived/Test/ToyasCard.lean, 'card_holds'). Laid BY PROGRAM, IN A SANDBOX (cutbox-door.mjs). By AI agents, Wed Nov 11 2026. No macro, syntax, notation, axiom, sorry.
-/
import Derived.Test.YtcbogkpgkdijaaaDoorRows
import GoSem.ClaimSeven
namespace Go.Proofs.YtcbogkpgkdijaaaDoor
namespace Rows

/-- THE TIED CARD OF 'ullagelaw06.FloatShortest'. -/
def floatShortestCard : Claim7 := { stood := { row := floatShortestRow, standIns := [], harness := (true, "25d9b190c61013d9bfc5e43cc5ba3278b7cf8ab6b014f506fd63fc80d84d66ef"), looks := false }, kinds := [], alts := [], laidByText := true, laidKinds := [.wider], laidTests := true, laidLooks := .later }
def FloatShortestCardSaid : Prop := Claim7.holds Tryd.pinned (.plain (OpenSpec.ofChange floatShortestSpec)) floatShortestCard

/-- THE TIED CARD OF 'ullagelaw06.FloatWidens'. -/
def floatWidensCard : Claim7 := { stood := { row := floatWidensRow, standIns := [], harness := (true, "25d9b190c61013d9bfc5e43cc5ba3278b7cf8ab6b014f506fd63fc80d84d66ef"), looks := false }, kinds := [], alts := [], laidByText := true, laidKinds := [.wider], laidTests := true, laidLooks := .later }
def FloatWidensCardSaid : Prop := Claim7.holds Tryd.pinned (.plain (OpenSpec.ofChange floatWidensSpec)) floatWidensCard

/-- THE TIED CARD OF 'ullagelaw02.ShaSums'. -/
def shaSumsCard : Claim7 := { stood := { row := shaSumsRow, standIns := [], harness := (true, "25d9b190c61013d9bfc5e43cc5ba3278b7cf8ab6b014f506fd63fc80d84d66ef"), looks := false }, kinds := [], alts := [], laidByText := true, laidKinds := [.data, .data], laidTests := true, laidLooks := .later }
def ShaSumsCardSaid : Prop := Claim7.holds Tryd.pinned (.plain (OpenSpec.ofChange shaSumsSpec)) shaSumsCard

/-- THE TIED CARD OF 'ullagelaw02.ShaChunks'. -/
def shaChunksCard : Claim7 := { stood := { row := shaChunksRow, standIns := [], harness := (true, "25d9b190c61013d9bfc5e43cc5ba3278b7cf8ab6b014f506fd63fc80d84d66ef"), looks := false }, kinds := [], alts := [], laidByText := true, laidKinds := [.data, .data], laidTests := true, laidLooks := .later }
def ShaChunksCardSaid : Prop := Claim7.holds Tryd.pinned (.plain (OpenSpec.ofChange shaChunksSpec)) shaChunksCard

/-- THE TIED CARD OF 'ullagelaw03.BlakeSums'. -/
def blakeSumsCard : Claim7 := { stood := { row := blakeSumsRow, standIns := [], harness := (true, "25d9b190c61013d9bfc5e43cc5ba3278b7cf8ab6b014f506fd63fc80d84d66ef"), looks := false }, kinds := [], alts := [], laidByText := true, laidKinds := [.widerDeep, .data], laidTests := true, laidLooks := .later }
def BlakeSumsCardSaid : Prop := Claim7.holds Tryd.pinned (.plain (OpenSpec.ofChange blakeSumsSpec)) blakeSumsCard

/-- THE TIED CARD OF 'ullagelaw03.BlakeChunks'. -/
def blakeChunksCard : Claim7 := { stood := { row := blakeChunksRow, standIns := [], harness := (true, "25d9b190c61013d9bfc5e43cc5ba3278b7cf8ab6b014f506fd63fc80d84d66ef"), looks := false }, kinds := [], alts := [], laidByText := true, laidKinds := [.widerDeep, .data], laidTests := true, laidLooks := .later }
def BlakeChunksCardSaid : Prop := Claim7.holds Tryd.pinned (.plain (OpenSpec.ofChange blakeChunksSpec)) blakeChunksCard

/-- THE SECOND FORM's CARD OF 'ullagelaw06.FloatShortest'. -/
def floatShortestUptoCard : Claim7 := { stood := { row := floatShortestUptoRow, standIns := [], harness := (true, "25d9b190c61013d9bfc5e43cc5ba3278b7cf8ab6b014f506fd63fc80d84d66ef"), looks := false }, kinds := [], alts := [], laidByText := true, laidKinds := [.wider], laidTests := true, laidLooks := .later }
def FloatShortestUptoCardSaid : Prop := Claim7.holds Tryd.pinned (.plain (OpenSpec.upto floatShortestSpec)) floatShortestUptoCard

/-- THE SECOND FORM's CARD OF 'ullagelaw06.FloatWidens'. -/
def floatWidensUptoCard : Claim7 := { stood := { row := floatWidensUptoRow, standIns := [], harness := (true, "25d9b190c61013d9bfc5e43cc5ba3278b7cf8ab6b014f506fd63fc80d84d66ef"), looks := false }, kinds := [], alts := [], laidByText := true, laidKinds := [.wider], laidTests := true, laidLooks := .later }
def FloatWidensUptoCardSaid : Prop := Claim7.holds Tryd.pinned (.plain (OpenSpec.upto floatWidensSpec)) floatWidensUptoCard

/-- THE SECOND FORM's CARD OF 'ullagelaw02.ShaSums'. -/
def shaSumsUptoCard : Claim7 := { stood := { row := shaSumsUptoRow, standIns := [], harness := (true, "25d9b190c61013d9bfc5e43cc5ba3278b7cf8ab6b014f506fd63fc80d84d66ef"), looks := false }, kinds := [], alts := [], laidByText := true, laidKinds := [.data, .data], laidTests := true, laidLooks := .later }
def ShaSumsUptoCardSaid : Prop := Claim7.holds Tryd.pinned (.plain (OpenSpec.upto shaSumsSpec)) shaSumsUptoCard

/-- THE SECOND FORM's CARD OF 'ullagelaw02.ShaChunks'. -/
def shaChunksUptoCard : Claim7 := { stood := { row := shaChunksUptoRow, standIns := [], harness := (true, "25d9b190c61013d9bfc5e43cc5ba3278b7cf8ab6b014f506fd63fc80d84d66ef"), looks := false }, kinds := [], alts := [], laidByText := true, laidKinds := [.data, .data], laidTests := true, laidLooks := .later }
def ShaChunksUptoCardSaid : Prop := Claim7.holds Tryd.pinned (.plain (OpenSpec.upto shaChunksSpec)) shaChunksUptoCard

/-- THE SECOND FORM's CARD OF 'ullagelaw03.BlakeSums'. -/
def blakeSumsUptoCard : Claim7 := { stood := { row := blakeSumsUptoRow, standIns := [], harness := (true, "25d9b190c61013d9bfc5e43cc5ba3278b7cf8ab6b014f506fd63fc80d84d66ef"), looks := false }, kinds := [], alts := [], laidByText := true, laidKinds := [.widerDeep, .data], laidTests := true, laidLooks := .later }
def BlakeSumsUptoCardSaid : Prop := Claim7.holds Tryd.pinned (.plain (OpenSpec.upto blakeSumsSpec)) blakeSumsUptoCard

/-- THE SECOND FORM's CARD OF 'ullagelaw03.BlakeChunks'. -/
def blakeChunksUptoCard : Claim7 := { stood := { row := blakeChunksUptoRow, standIns := [], harness := (true, "25d9b190c61013d9bfc5e43cc5ba3278b7cf8ab6b014f506fd63fc80d84d66ef"), looks := false }, kinds := [], alts := [], laidByText := true, laidKinds := [.widerDeep, .data], laidTests := true, laidLooks := .later }
def BlakeChunksUptoCardSaid : Prop := Claim7.holds Tryd.pinned (.plain (OpenSpec.upto blakeChunksSpec)) blakeChunksUptoCard
end Rows
end Go.Proofs.YtcbogkpgkdijaaaDoor
