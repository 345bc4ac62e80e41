/-
  NARROWER THAN 'FOR EVERY INPUT', by the rows' own cells (each row's printed sentence says how): HeadNone: laid · HeadFirst: laid · HeadPuts: laid · HexPuts: laid · HexTakes: laid · RowsTell: laid · RowsNames: laid.
  DERIVED. THE GIVEN ROWS OF THIS SEAT. 7 by the template 'for every input the law returns true; each argument reads behind the call as it read before'; 0 by the template 'total and deterministic' (their statements: YtgdhchknegjpfaaDoorTotals.lean).
  GIVEN WITH THE SEED: the statements are not yours to turn. If you find one false, say at which input.
  Laid BY PROGRAM, IN A SANDBOX (cutbox-rows.mjs): the forced cells as the released guide's own fill.sh prints them over the translation bac7eabfe8b9a971… (all of the seat's roots in one cut). By AI agents, Wed Nov 11 2026. No macro, syntax, notation, axiom, sorry.
-/
import Derived.Test.YtgdhchknegjpfaaDoorChecked
import GoSem.Claim
import GoSem.ClaimJoined
import GoSem.ClaimMapViews
import Derived.JoinedTies
import Derived.KernelRfl
namespace Go.Proofs.YtgdhchknegjpfaaDoor
/- THE CELL 'sum', in the pinned program and in every row, IS THE sha256 OF THE DUMP (.gsa) THAT YtgdhchknegjpfaaDoorProg.lean LOADS. Nothing in Lean hashes anything: it is a label: what it is worth is what the hold of that sum in a sandbox is worth. -/
noncomputable def Tryd.pinned : Pinned := { name := "ytgdhchknegjpfaadoor", sum := "bac7eabfe8b9a971f19997d3c19d68c74dd45a5ebb9ac02dd1e085a3480b2dda", checked := Tryd.checked }
namespace Rows
def none {H : Type} : Left H := { results := [], args := [] }

/- WHAT THE LISTED PACKAGE-LEVEL VARIABLES READ AS WHEN THE CALL BEGINS. Each datum BY PROGRAM (the guide's laid-datum.mjs) off the statement by which the dump's own 'gosem.cut.vars' lays the variable. In a bare row this is a premise. The card (YtgdhchknegjpfaaDoorCards.lean) ties it to the program's text. -/
def laid_ullage_float_double {H : Type} : DataW H := .agg [.lit (.int .i64 11), .lit (.int .i64 52)]
def laid_math_bits_deBruijn32tab {H : Type} : DataW H := .agg [.lit (.int .u8 0), .lit (.int .u8 1), .lit (.int .u8 28), .lit (.int .u8 2), .lit (.int .u8 29), .lit (.int .u8 14), .lit (.int .u8 24), .lit (.int .u8 3), .lit (.int .u8 30), .lit (.int .u8 22), .lit (.int .u8 20), .lit (.int .u8 15), .lit (.int .u8 25), .lit (.int .u8 17), .lit (.int .u8 4), .lit (.int .u8 8), .lit (.int .u8 31), .lit (.int .u8 27), .lit (.int .u8 13), .lit (.int .u8 23), .lit (.int .u8 21), .lit (.int .u8 19), .lit (.int .u8 16), .lit (.int .u8 7), .lit (.int .u8 26), .lit (.int .u8 12), .lit (.int .u8 18), .lit (.int .u8 6), .lit (.int .u8 11), .lit (.int .u8 5), .lit (.int .u8 10), .lit (.int .u8 9)]
def laid_math_bits_deBruijn64tab {H : Type} : DataW H := .agg [.lit (.int .u8 0), .lit (.int .u8 1), .lit (.int .u8 56), .lit (.int .u8 2), .lit (.int .u8 57), .lit (.int .u8 49), .lit (.int .u8 28), .lit (.int .u8 3), .lit (.int .u8 61), .lit (.int .u8 58), .lit (.int .u8 42), .lit (.int .u8 50), .lit (.int .u8 38), .lit (.int .u8 29), .lit (.int .u8 17), .lit (.int .u8 4), .lit (.int .u8 62), .lit (.int .u8 47), .lit (.int .u8 59), .lit (.int .u8 36), .lit (.int .u8 45), .lit (.int .u8 43), .lit (.int .u8 51), .lit (.int .u8 22), .lit (.int .u8 53), .lit (.int .u8 39), .lit (.int .u8 33), .lit (.int .u8 30), .lit (.int .u8 24), .lit (.int .u8 18), .lit (.int .u8 12), .lit (.int .u8 5), .lit (.int .u8 63), .lit (.int .u8 55), .lit (.int .u8 48), .lit (.int .u8 27), .lit (.int .u8 60), .lit (.int .u8 41), .lit (.int .u8 37), .lit (.int .u8 16), .lit (.int .u8 46), .lit (.int .u8 35), .lit (.int .u8 44), .lit (.int .u8 21), .lit (.int .u8 52), .lit (.int .u8 32), .lit (.int .u8 23), .lit (.int .u8 11), .lit (.int .u8 54), .lit (.int .u8 26), .lit (.int .u8 40), .lit (.int .u8 15), .lit (.int .u8 34), .lit (.int .u8 20), .lit (.int .u8 31), .lit (.int .u8 10), .lit (.int .u8 25), .lit (.int .u8 14), .lit (.int .u8 19), .lit (.int .u8 9), .lit (.int .u8 13), .lit (.int .u8 8), .lit (.int .u8 7), .lit (.int .u8 6)]
def laid_internal_strconv_uint64pow10 {H : Type} : DataW H := .agg [.lit (.int .u64 1), .lit (.int .u64 10), .lit (.int .u64 100), .lit (.int .u64 1000), .lit (.int .u64 10000), .lit (.int .u64 100000), .lit (.int .u64 1000000), .lit (.int .u64 10000000), .lit (.int .u64 100000000), .lit (.int .u64 1000000000), .lit (.int .u64 10000000000), .lit (.int .u64 100000000000), .lit (.int .u64 1000000000000), .lit (.int .u64 10000000000000), .lit (.int .u64 100000000000000), .lit (.int .u64 1000000000000000), .lit (.int .u64 10000000000000000), .lit (.int .u64 100000000000000000), .lit (.int .u64 1000000000000000000), .lit (.int .u64 10000000000000000000)]
def laid_ullage_rows_names {H : Type} : DataW H := .agg [.lit (.string [111, 107]), .lit (.string [115, 105, 122, 101]), .lit (.string [115, 121, 110, 116, 97, 120]), .lit (.string [100, 101, 112, 116, 104]), .lit (.string [107, 101, 121, 45, 108, 101, 110, 103, 116, 104]), .lit (.string [100, 101, 116, 101, 114, 109, 105, 110, 105, 115, 109]), .lit (.string [117, 116, 102, 56]), .lit (.string [107, 101, 121, 45, 111, 114, 100, 101, 114]), .lit (.string [115, 99, 104, 101, 109, 97]), .lit (.string [116, 114, 117, 110, 99, 97, 116, 101, 100])]

/-- 'ullagelaw07.HeadNone': WHATEVER THE INPUT: true; the input reads as it did. -/
def headNoneSpec : ChangeSpec := { name := "headNone", fn := fun _ => fun
  | [d] => { results := [.lit (.bool true)], args := [d] }
  | _ => none }
def headNoneRow : OpenClaim := { program := "ytgdhchknegjpfaadoor", sum := "bac7eabfe8b9a971f19997d3c19d68c74dd45a5ebb9ac02dd1e085a3480b2dda", func := "ullage/ullagelaw07.HeadNone", spec := "headNone", named := ["ullage/float.double"], apart := false, laid := [("ullage/float.double", laid_ullage_float_double)] }
def HeadNoneSaid : Prop := headNoneRow.holds Tryd.pinned (OpenSpec.ofChange headNoneSpec)

/-- ITS FALSE NEIGHBOUR: 'it returns false'. Refute it at one input. -/
def headNoneWrong : ChangeSpec := { name := "headNone", fn := fun _ => fun
  | [d] => { results := [.lit (.bool false)], args := [d] }
  | _ => none }
def HeadNoneWrongFalsely : Prop := headNoneRow.holds Tryd.pinned (OpenSpec.ofChange headNoneWrong)

/-- 'ullagelaw07.HeadFirst': WHATEVER THE INPUT: true; the input reads as it did. -/
def headFirstSpec : ChangeSpec := { name := "headFirst", fn := fun _ => fun
  | [d] => { results := [.lit (.bool true)], args := [d] }
  | _ => none }
def headFirstRow : OpenClaim := { program := "ytgdhchknegjpfaadoor", sum := "bac7eabfe8b9a971f19997d3c19d68c74dd45a5ebb9ac02dd1e085a3480b2dda", func := "ullage/ullagelaw07.HeadFirst", spec := "headFirst", named := ["ullage/float.double"], apart := false, laid := [("ullage/float.double", laid_ullage_float_double)] }
def HeadFirstSaid : Prop := headFirstRow.holds Tryd.pinned (OpenSpec.ofChange headFirstSpec)

/-- ITS FALSE NEIGHBOUR: 'it returns false'. Refute it at one input. -/
def headFirstWrong : ChangeSpec := { name := "headFirst", fn := fun _ => fun
  | [d] => { results := [.lit (.bool false)], args := [d] }
  | _ => none }
def HeadFirstWrongFalsely : Prop := headFirstRow.holds Tryd.pinned (OpenSpec.ofChange headFirstWrong)

/-- 'ullagelaw07.HeadPuts': WHATEVER THE INPUT: true; the input reads as it did. -/
def headPutsSpec : ChangeSpec := { name := "headPuts", fn := fun _ => fun
  | [d1, d2] => { results := [.lit (.bool true)], args := [d1, d2] }
  | _ => none }
def headPutsRow : OpenClaim := { program := "ytgdhchknegjpfaadoor", sum := "bac7eabfe8b9a971f19997d3c19d68c74dd45a5ebb9ac02dd1e085a3480b2dda", func := "ullage/ullagelaw07.HeadPuts", spec := "headPuts", named := ["ullage/float.double"], apart := false, laid := [("ullage/float.double", laid_ullage_float_double)] }
def HeadPutsSaid : Prop := headPutsRow.holds Tryd.pinned (OpenSpec.ofChange headPutsSpec)

/-- ITS FALSE NEIGHBOUR: 'it returns false'. Refute it at one input. -/
def headPutsWrong : ChangeSpec := { name := "headPuts", fn := fun _ => fun
  | [d1, d2] => { results := [.lit (.bool false)], args := [d1, d2] }
  | _ => none }
def HeadPutsWrongFalsely : Prop := headPutsRow.holds Tryd.pinned (OpenSpec.ofChange headPutsWrong)

/-- 'ullagelaw05.HexPuts': WHATEVER THE INPUT: true; the input reads as it did. -/
def hexPutsSpec : ChangeSpec := { name := "hexPuts", fn := fun _ => fun
  | [d1, d2] => { results := [.lit (.bool true)], args := [d1, d2] }
  | _ => none }
def hexPutsRow : OpenClaim := { program := "ytgdhchknegjpfaadoor", sum := "bac7eabfe8b9a971f19997d3c19d68c74dd45a5ebb9ac02dd1e085a3480b2dda", func := "ullage/ullagelaw05.HexPuts", spec := "hexPuts", inPlace := ["internal/abi.NoEscape", "internal/bytealg.IndexByteString"], named := ["internal/strconv.uint64pow10", "math/bits.deBruijn32tab", "math/bits.deBruijn64tab"], apart := false, laid := [("math/bits.deBruijn32tab", laid_math_bits_deBruijn32tab), ("math/bits.deBruijn64tab", laid_math_bits_deBruijn64tab), ("internal/strconv.uint64pow10", laid_internal_strconv_uint64pow10)] }
def HexPutsSaid : Prop := hexPutsRow.holds Tryd.pinned (OpenSpec.ofChange hexPutsSpec)

/-- ITS FALSE NEIGHBOUR: 'it returns false'. Refute it at one input. -/
def hexPutsWrong : ChangeSpec := { name := "hexPuts", fn := fun _ => fun
  | [d1, d2] => { results := [.lit (.bool false)], args := [d1, d2] }
  | _ => none }
def HexPutsWrongFalsely : Prop := hexPutsRow.holds Tryd.pinned (OpenSpec.ofChange hexPutsWrong)

/-- 'ullagelaw05.HexTakes': WHATEVER THE INPUT: true; the input reads as it did. -/
def hexTakesSpec : ChangeSpec := { name := "hexTakes", fn := fun _ => fun
  | [d] => { results := [.lit (.bool true)], args := [d] }
  | _ => none }
def hexTakesRow : OpenClaim := { program := "ytgdhchknegjpfaadoor", sum := "bac7eabfe8b9a971f19997d3c19d68c74dd45a5ebb9ac02dd1e085a3480b2dda", func := "ullage/ullagelaw05.HexTakes", spec := "hexTakes", inPlace := ["internal/abi.NoEscape", "internal/bytealg.IndexByteString"], named := ["internal/strconv.uint64pow10", "math/bits.deBruijn32tab", "math/bits.deBruijn64tab"], apart := false, laid := [("math/bits.deBruijn32tab", laid_math_bits_deBruijn32tab), ("math/bits.deBruijn64tab", laid_math_bits_deBruijn64tab), ("internal/strconv.uint64pow10", laid_internal_strconv_uint64pow10)] }
def HexTakesSaid : Prop := hexTakesRow.holds Tryd.pinned (OpenSpec.ofChange hexTakesSpec)

/-- ITS FALSE NEIGHBOUR: 'it returns false'. Refute it at one input. -/
def hexTakesWrong : ChangeSpec := { name := "hexTakes", fn := fun _ => fun
  | [d] => { results := [.lit (.bool false)], args := [d] }
  | _ => none }
def HexTakesWrongFalsely : Prop := hexTakesRow.holds Tryd.pinned (OpenSpec.ofChange hexTakesWrong)

/-- 'ullagelaw25.RowsTell': WHATEVER THE INPUT: true; the input reads as it did. -/
def rowsTellSpec : ChangeSpec := { name := "rowsTell", fn := fun _ => fun
  | [d1, d2, d3] => { results := [.lit (.bool true)], args := [d1, d2, d3] }
  | _ => none }
def rowsTellRow : OpenClaim := { program := "ytgdhchknegjpfaadoor", sum := "bac7eabfe8b9a971f19997d3c19d68c74dd45a5ebb9ac02dd1e085a3480b2dda", func := "ullage/ullagelaw25.RowsTell", spec := "rowsTell", inPlace := ["internal/abi.NoEscape", "internal/bytealg.MakeNoZero"], named := ["ullage/rows.names", "internal/strconv.uint64pow10", "math/bits.deBruijn32tab", "math/bits.deBruijn64tab"], apart := false, laid := [("math/bits.deBruijn32tab", laid_math_bits_deBruijn32tab), ("math/bits.deBruijn64tab", laid_math_bits_deBruijn64tab), ("internal/strconv.uint64pow10", laid_internal_strconv_uint64pow10), ("ullage/rows.names", laid_ullage_rows_names)] }
def RowsTellSaid : Prop := rowsTellRow.holds Tryd.pinned (OpenSpec.ofChange rowsTellSpec)

/-- ITS FALSE NEIGHBOUR: 'it returns false'. Refute it at one input. -/
def rowsTellWrong : ChangeSpec := { name := "rowsTell", fn := fun _ => fun
  | [d1, d2, d3] => { results := [.lit (.bool false)], args := [d1, d2, d3] }
  | _ => none }
def RowsTellWrongFalsely : Prop := rowsTellRow.holds Tryd.pinned (OpenSpec.ofChange rowsTellWrong)

/-- 'ullagelaw25.RowsNames': WHATEVER THE INPUT: true; the input reads as it did. -/
def rowsNamesSpec : ChangeSpec := { name := "rowsNames", fn := fun _ => fun
  | [d1, d2, d3] => { results := [.lit (.bool true)], args := [d1, d2, d3] }
  | _ => none }
def rowsNamesRow : OpenClaim := { program := "ytgdhchknegjpfaadoor", sum := "bac7eabfe8b9a971f19997d3c19d68c74dd45a5ebb9ac02dd1e085a3480b2dda", func := "ullage/ullagelaw25.RowsNames", spec := "rowsNames", inPlace := ["internal/abi.NoEscape", "internal/bytealg.MakeNoZero"], named := ["ullage/rows.names", "internal/strconv.uint64pow10", "math/bits.deBruijn32tab", "math/bits.deBruijn64tab"], apart := false, laid := [("math/bits.deBruijn32tab", laid_math_bits_deBruijn32tab), ("math/bits.deBruijn64tab", laid_math_bits_deBruijn64tab), ("internal/strconv.uint64pow10", laid_internal_strconv_uint64pow10), ("ullage/rows.names", laid_ullage_rows_names)] }
def RowsNamesSaid : Prop := rowsNamesRow.holds Tryd.pinned (OpenSpec.ofChange rowsNamesSpec)

/-- ITS FALSE NEIGHBOUR: 'it returns false'. Refute it at one input. -/
def rowsNamesWrong : ChangeSpec := { name := "rowsNames", fn := fun _ => fun
  | [d1, d2, d3] => { results := [.lit (.bool false)], args := [d1, d2, d3] }
  | _ => none }
def RowsNamesWrongFalsely : Prop := rowsNamesRow.holds Tryd.pinned (OpenSpec.ofChange rowsNamesWrong)

/- THE SECOND FORM. 'bulk': how many values and letters a reading holds, each counted each time it is reached (what is shared counts as often as it is met; a slice's spare places count too). A statement '..UptoSaid' is the law's where the arguments, and the package variables that the reading takes, are together of bulk at most 1048576: NARROWER than '..Said'. Prove '..Said' where nothing that the law and all that it calls make is longer than what came in: it says more and counts as full. Else prove '..UptoSaid'. A law counts once. -/
mutual
def uptoBulk {H : Type} : DataW H → Nat
  | .lit (.string bytes) => bytes.length + 1
  | .lit _ => 1
  | .nil => 1
  | .ptr d => uptoBulk d + 1
  | .slice elems spare => uptoBulkAll elems + uptoBulkAll spare + 1
  | .agg parts => uptoBulkAll parts + 1
  | .iface _ d => uptoBulk d + 1
  | .map entries => uptoBulkEntries entries + 1
  | .held _ => 1
def uptoBulkAll {H : Type} : List (DataW H) → Nat
  | [] => 0
  | d :: r => uptoBulk d + uptoBulkAll r
def uptoBulkEntries {H : Type} : List (Lit × DataW H) → Nat
  | [] => 0
  | x :: r => uptoBulkEntry x + uptoBulkEntries r
def uptoBulkEntry {H : Type} : Lit × DataW H → Nat
  | (.string bytes, d) => bytes.length + uptoBulk d + 1
  | (_, d) => uptoBulk d + 1
 end
def uptoSmall : (H : Type) → List (DataW H) → Bool := fun _ ds => decide (uptoBulkAll ds ≤ 1048576)
def OpenSpec.upto (s : _root_.Go.ChangeSpec) : _root_.Go.OpenSpec := { _root_.Go.OpenSpec.ofChange s with cond := some uptoSmall }

/-- 'ullagelaw07.HeadNone', WHERE WHAT IT READS IS OF BULK AT MOST 1048576: true; the input reads as it did. -/
def headNoneUptoRow : OpenClaim := { program := "ytgdhchknegjpfaadoor", sum := "bac7eabfe8b9a971f19997d3c19d68c74dd45a5ebb9ac02dd1e085a3480b2dda", func := "ullage/ullagelaw07.HeadNone", spec := "headNone", named := ["ullage/float.double"], apart := false, laid := [("ullage/float.double", laid_ullage_float_double)], narrowed := true }
def HeadNoneUptoSaid : Prop := headNoneUptoRow.holds Tryd.pinned (OpenSpec.upto headNoneSpec)

/-- 'ullagelaw07.HeadFirst', WHERE WHAT IT READS IS OF BULK AT MOST 1048576: true; the input reads as it did. -/
def headFirstUptoRow : OpenClaim := { program := "ytgdhchknegjpfaadoor", sum := "bac7eabfe8b9a971f19997d3c19d68c74dd45a5ebb9ac02dd1e085a3480b2dda", func := "ullage/ullagelaw07.HeadFirst", spec := "headFirst", named := ["ullage/float.double"], apart := false, laid := [("ullage/float.double", laid_ullage_float_double)], narrowed := true }
def HeadFirstUptoSaid : Prop := headFirstUptoRow.holds Tryd.pinned (OpenSpec.upto headFirstSpec)

/-- 'ullagelaw07.HeadPuts', WHERE WHAT IT READS IS OF BULK AT MOST 1048576: true; the input reads as it did. -/
def headPutsUptoRow : OpenClaim := { program := "ytgdhchknegjpfaadoor", sum := "bac7eabfe8b9a971f19997d3c19d68c74dd45a5ebb9ac02dd1e085a3480b2dda", func := "ullage/ullagelaw07.HeadPuts", spec := "headPuts", named := ["ullage/float.double"], apart := false, laid := [("ullage/float.double", laid_ullage_float_double)], narrowed := true }
def HeadPutsUptoSaid : Prop := headPutsUptoRow.holds Tryd.pinned (OpenSpec.upto headPutsSpec)

/-- 'ullagelaw05.HexPuts', WHERE WHAT IT READS IS OF BULK AT MOST 1048576: true; the input reads as it did. -/
def hexPutsUptoRow : OpenClaim := { program := "ytgdhchknegjpfaadoor", sum := "bac7eabfe8b9a971f19997d3c19d68c74dd45a5ebb9ac02dd1e085a3480b2dda", func := "ullage/ullagelaw05.HexPuts", spec := "hexPuts", inPlace := ["internal/abi.NoEscape", "internal/bytealg.IndexByteString"], named := ["internal/strconv.uint64pow10", "math/bits.deBruijn32tab", "math/bits.deBruijn64tab"], apart := false, laid := [("math/bits.deBruijn32tab", laid_math_bits_deBruijn32tab), ("math/bits.deBruijn64tab", laid_math_bits_deBruijn64tab), ("internal/strconv.uint64pow10", laid_internal_strconv_uint64pow10)], narrowed := true }
def HexPutsUptoSaid : Prop := hexPutsUptoRow.holds Tryd.pinned (OpenSpec.upto hexPutsSpec)

/-- 'ullagelaw05.HexTakes', WHERE WHAT IT READS IS OF BULK AT MOST 1048576: true; the input reads as it did. -/
def hexTakesUptoRow : OpenClaim := { program := "ytgdhchknegjpfaadoor", sum := "bac7eabfe8b9a971f19997d3c19d68c74dd45a5ebb9ac02dd1e085a3480b2dda", func := "ullage/ullagelaw05.HexTakes", spec := "hexTakes", inPlace := ["internal/abi.NoEscape", "internal/bytealg.IndexByteString"], named := ["internal/strconv.uint64pow10", "math/bits.deBruijn32tab", "math/bits.deBruijn64tab"], apart := false, laid := [("math/bits.deBruijn32tab", laid_math_bits_deBruijn32tab), ("math/bits.deBruijn64tab", laid_math_bits_deBruijn64tab), ("internal/strconv.uint64pow10", laid_internal_strconv_uint64pow10)], narrowed := true }
def HexTakesUptoSaid : Prop := hexTakesUptoRow.holds Tryd.pinned (OpenSpec.upto hexTakesSpec)

/-- 'ullagelaw25.RowsTell', WHERE WHAT IT READS IS OF BULK AT MOST 1048576: true; the input reads as it did. -/
def rowsTellUptoRow : OpenClaim := { program := "ytgdhchknegjpfaadoor", sum := "bac7eabfe8b9a971f19997d3c19d68c74dd45a5ebb9ac02dd1e085a3480b2dda", func := "ullage/ullagelaw25.RowsTell", spec := "rowsTell", inPlace := ["internal/abi.NoEscape", "internal/bytealg.MakeNoZero"], named := ["ullage/rows.names", "internal/strconv.uint64pow10", "math/bits.deBruijn32tab", "math/bits.deBruijn64tab"], apart := false, laid := [("math/bits.deBruijn32tab", laid_math_bits_deBruijn32tab), ("math/bits.deBruijn64tab", laid_math_bits_deBruijn64tab), ("internal/strconv.uint64pow10", laid_internal_strconv_uint64pow10), ("ullage/rows.names", laid_ullage_rows_names)], narrowed := true }
def RowsTellUptoSaid : Prop := rowsTellUptoRow.holds Tryd.pinned (OpenSpec.upto rowsTellSpec)

/-- 'ullagelaw25.RowsNames', WHERE WHAT IT READS IS OF BULK AT MOST 1048576: true; the input reads as it did. -/
def rowsNamesUptoRow : OpenClaim := { program := "ytgdhchknegjpfaadoor", sum := "bac7eabfe8b9a971f19997d3c19d68c74dd45a5ebb9ac02dd1e085a3480b2dda", func := "ullage/ullagelaw25.RowsNames", spec := "rowsNames", inPlace := ["internal/abi.NoEscape", "internal/bytealg.MakeNoZero"], named := ["ullage/rows.names", "internal/strconv.uint64pow10", "math/bits.deBruijn32tab", "math/bits.deBruijn64tab"], apart := false, laid := [("math/bits.deBruijn32tab", laid_math_bits_deBruijn32tab), ("math/bits.deBruijn64tab", laid_math_bits_deBruijn64tab), ("internal/strconv.uint64pow10", laid_internal_strconv_uint64pow10), ("ullage/rows.names", laid_ullage_rows_names)], narrowed := true }
def RowsNamesUptoSaid : Prop := rowsNamesUptoRow.holds Tryd.pinned (OpenSpec.upto rowsNamesSpec)

end Rows
end Go.Proofs.YtgdhchknegjpfaaDoor
