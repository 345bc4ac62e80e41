/-
  DERIVED. GIVEN WITH THE SEED: THE PROGRAM's TIES (one call each: nine closed facts by the kernel) AND EACH ROW's TIE, after the 31st guide's Derived/Test/Toyas{Tie, Card}.lean. No idea stands in it: it is a product of the set-up. Laid BY PROGRAM, IN A SANDBOX (cutbox-door.mjs). By AI agents, Wed Nov 11 2026. No macro, syntax, notation, axiom, sorry.
-/
import Derived.Test.YtcbogkpgkdijaaaDoorRows
import Derived.LaidByTextLater
import Derived.SevenTiedAt
import Derived.LaidSub
import Derived.LaidOnce
namespace Go.Proofs.YtcbogkpgkdijaaaDoor
open Go
set_option maxRecDepth 100000
theorem seatTie1 : Tryd.prog.laidByTextLater [("ullage/float.double", Rows.laid_ullage_float_double), ("ullage/blake.iv", Rows.laid_ullage_blake_iv), ("ullage/blake.table", Rows.laid_ullage_blake_table), ("ullage/sha.first", Rows.laid_ullage_sha_first), ("ullage/sha.k", Rows.laid_ullage_sha_k)] [.wider, .widerDeep, .data, .data, .data] true :=
  Program.laidByTextLater_by_one 44 8 161 (by kernel_rfl) (by kernel_rfl) (by kernel_rfl) (by kernel_rfl) (by kernel_rfl) (by kernel_rfl) (fun _ _ => by kernel_rfl)
theorem noOwnUnsafe : Tryd.pinned.checked.prog.headLifts.contains "ownunsafe" = false := by kernel_rfl
theorem tie : Tryd.prog.laidByTextLater [("ullage/float.double", Rows.laid_ullage_float_double)] [.wider] true :=
  Program.laidByTextLater.sub seatTie1 ["ullage/float.double"] (by kernel_rfl) (by kernel_rfl)
theorem floatShortest_row_tie : Rows.floatShortestRow.laidByTextAt .later Tryd.pinned [.wider] true :=
  OpenClaim.laidByTextAt_later rfl rfl tie noOwnUnsafe
theorem floatWidens_row_tie : Rows.floatWidensRow.laidByTextAt .later Tryd.pinned [.wider] true :=
  OpenClaim.laidByTextAt_later rfl rfl tie noOwnUnsafe
theorem tie2 : Tryd.prog.laidByTextLater [("ullage/sha.first", Rows.laid_ullage_sha_first), ("ullage/sha.k", Rows.laid_ullage_sha_k)] [.data, .data] true :=
  Program.laidByTextLater.sub seatTie1 ["ullage/sha.first", "ullage/sha.k"] (by kernel_rfl) (by kernel_rfl)
theorem shaSums_row_tie : Rows.shaSumsRow.laidByTextAt .later Tryd.pinned [.data, .data] true :=
  OpenClaim.laidByTextAt_later rfl rfl tie2 noOwnUnsafe
theorem shaChunks_row_tie : Rows.shaChunksRow.laidByTextAt .later Tryd.pinned [.data, .data] true :=
  OpenClaim.laidByTextAt_later rfl rfl tie2 noOwnUnsafe
theorem tie3 : Tryd.prog.laidByTextLater [("ullage/blake.iv", Rows.laid_ullage_blake_iv), ("ullage/blake.table", Rows.laid_ullage_blake_table)] [.widerDeep, .data] true :=
  Program.laidByTextLater.sub seatTie1 ["ullage/blake.iv", "ullage/blake.table"] (by kernel_rfl) (by kernel_rfl)
theorem blakeSums_row_tie : Rows.blakeSumsRow.laidByTextAt .later Tryd.pinned [.widerDeep, .data] true :=
  OpenClaim.laidByTextAt_later rfl rfl tie3 noOwnUnsafe
theorem blakeChunks_row_tie : Rows.blakeChunksRow.laidByTextAt .later Tryd.pinned [.widerDeep, .data] true :=
  OpenClaim.laidByTextAt_later rfl rfl tie3 noOwnUnsafe
theorem floatShortestUpto_row_tie : Rows.floatShortestUptoRow.laidByTextAt .later Tryd.pinned [.wider] true :=
  OpenClaim.laidByTextAt_later rfl rfl tie noOwnUnsafe
theorem floatWidensUpto_row_tie : Rows.floatWidensUptoRow.laidByTextAt .later Tryd.pinned [.wider] true :=
  OpenClaim.laidByTextAt_later rfl rfl tie noOwnUnsafe
theorem shaSumsUpto_row_tie : Rows.shaSumsUptoRow.laidByTextAt .later Tryd.pinned [.data, .data] true :=
  OpenClaim.laidByTextAt_later rfl rfl tie2 noOwnUnsafe
theorem shaChunksUpto_row_tie : Rows.shaChunksUptoRow.laidByTextAt .later Tryd.pinned [.data, .data] true :=
  OpenClaim.laidByTextAt_later rfl rfl tie2 noOwnUnsafe
theorem blakeSumsUpto_row_tie : Rows.blakeSumsUptoRow.laidByTextAt .later Tryd.pinned [.widerDeep, .data] true :=
  OpenClaim.laidByTextAt_later rfl rfl tie3 noOwnUnsafe
theorem blakeChunksUpto_row_tie : Rows.blakeChunksUptoRow.laidByTextAt .later Tryd.pinned [.widerDeep, .data] true :=
  OpenClaim.laidByTextAt_later rfl rfl tie3 noOwnUnsafe
end Go.Proofs.YtcbogkpgkdijaaaDoor
