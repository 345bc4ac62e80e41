/-
  NARROWER THAN 'FOR EVERY INPUT', by the rows' own cells (each row's printed sentence says how): ItemTells: loops, laid · ItemSame: loops, laid · SchemaChecks: loops, laid · SchemaLeads: loops, laid · MemBounds: loops, laid · DenoteBounds: loops, laid · DenoteNumbers: laid · DenoteMatches: loops, laid · FaultOthers: laid · FaultTells: laid · CandSets: laid.
  DERIVED. THE GIVEN ROWS OF THIS SEAT. 11 by the template 'for every input the law returns true; each argument reads behind the call as it read before'; 0 by the template 'total and deterministic' (their statements: YtkmgiodhaaajjaaDoorTotals.lean).
  GIVEN WITH THE SEED: the statements are not yours to turn. If you find one false, say at which input.
  Laid BY PROGRAM, IN A SANDBOX (cutbox-rows.mjs): the forced cells as the released guide's own fill.sh prints them over the translation 5b97f8c07ac5f949… (all of the seat's roots in one cut). By AI agents, Wed Nov 11 2026. No macro, syntax, notation, axiom, sorry.
-/
import Derived.Test.YtkmgiodhaaajjaaDoorChecked
import GoSem.Claim
import GoSem.ClaimJoined
import GoSem.ClaimMapViews
import Derived.JoinedTies
import Derived.KernelRfl
namespace Go.Proofs.YtkmgiodhaaajjaaDoor
/- THE CELL 'sum', in the pinned program and in every row, IS THE sha256 OF THE DUMP (.gsa) THAT YtkmgiodhaaajjaaDoorProg.lean LOADS. Nothing in Lean hashes anything: it is a label: what it is worth is what the hold of that sum in a sandbox is worth. -/
noncomputable def Tryd.pinned : Pinned := { name := "ytkmgiodhaaajjaadoor", sum := "5b97f8c07ac5f949cbfce73a71afefa7c41e310e67514a9eba43fc6767ef9f79", checked := Tryd.checked }
namespace Rows
def none {H : Type} : Left H := { results := [], args := [] }

/- WHAT THE LISTED PACKAGE-LEVEL VARIABLES READ AS WHEN THE CALL BEGINS. Each datum BY PROGRAM (the guide's laid-datum.mjs) off the statement by which the dump's own 'gosem.cut.vars' lays the variable. In a bare row this is a premise. The card (YtkmgiodhaaajjaaDoorCards.lean) ties it to the program's text. -/
def laid_ullage_float_double {H : Type} : DataW H := .agg [.lit (.int .i64 11), .lit (.int .i64 52)]
def laid_math_bits_deBruijn32tab {H : Type} : DataW H := .agg [.lit (.int .u8 0), .lit (.int .u8 1), .lit (.int .u8 28), .lit (.int .u8 2), .lit (.int .u8 29), .lit (.int .u8 14), .lit (.int .u8 24), .lit (.int .u8 3), .lit (.int .u8 30), .lit (.int .u8 22), .lit (.int .u8 20), .lit (.int .u8 15), .lit (.int .u8 25), .lit (.int .u8 17), .lit (.int .u8 4), .lit (.int .u8 8), .lit (.int .u8 31), .lit (.int .u8 27), .lit (.int .u8 13), .lit (.int .u8 23), .lit (.int .u8 21), .lit (.int .u8 19), .lit (.int .u8 16), .lit (.int .u8 7), .lit (.int .u8 26), .lit (.int .u8 12), .lit (.int .u8 18), .lit (.int .u8 6), .lit (.int .u8 11), .lit (.int .u8 5), .lit (.int .u8 10), .lit (.int .u8 9)]
def laid_math_bits_deBruijn64tab {H : Type} : DataW H := .agg [.lit (.int .u8 0), .lit (.int .u8 1), .lit (.int .u8 56), .lit (.int .u8 2), .lit (.int .u8 57), .lit (.int .u8 49), .lit (.int .u8 28), .lit (.int .u8 3), .lit (.int .u8 61), .lit (.int .u8 58), .lit (.int .u8 42), .lit (.int .u8 50), .lit (.int .u8 38), .lit (.int .u8 29), .lit (.int .u8 17), .lit (.int .u8 4), .lit (.int .u8 62), .lit (.int .u8 47), .lit (.int .u8 59), .lit (.int .u8 36), .lit (.int .u8 45), .lit (.int .u8 43), .lit (.int .u8 51), .lit (.int .u8 22), .lit (.int .u8 53), .lit (.int .u8 39), .lit (.int .u8 33), .lit (.int .u8 30), .lit (.int .u8 24), .lit (.int .u8 18), .lit (.int .u8 12), .lit (.int .u8 5), .lit (.int .u8 63), .lit (.int .u8 55), .lit (.int .u8 48), .lit (.int .u8 27), .lit (.int .u8 60), .lit (.int .u8 41), .lit (.int .u8 37), .lit (.int .u8 16), .lit (.int .u8 46), .lit (.int .u8 35), .lit (.int .u8 44), .lit (.int .u8 21), .lit (.int .u8 52), .lit (.int .u8 32), .lit (.int .u8 23), .lit (.int .u8 11), .lit (.int .u8 54), .lit (.int .u8 26), .lit (.int .u8 40), .lit (.int .u8 15), .lit (.int .u8 34), .lit (.int .u8 20), .lit (.int .u8 31), .lit (.int .u8 10), .lit (.int .u8 25), .lit (.int .u8 14), .lit (.int .u8 19), .lit (.int .u8 9), .lit (.int .u8 13), .lit (.int .u8 8), .lit (.int .u8 7), .lit (.int .u8 6)]
def laid_internal_strconv_uint64pow10 {H : Type} : DataW H := .agg [.lit (.int .u64 1), .lit (.int .u64 10), .lit (.int .u64 100), .lit (.int .u64 1000), .lit (.int .u64 10000), .lit (.int .u64 100000), .lit (.int .u64 1000000), .lit (.int .u64 10000000), .lit (.int .u64 100000000), .lit (.int .u64 1000000000), .lit (.int .u64 10000000000), .lit (.int .u64 100000000000), .lit (.int .u64 1000000000000), .lit (.int .u64 10000000000000), .lit (.int .u64 100000000000000), .lit (.int .u64 1000000000000000), .lit (.int .u64 10000000000000000), .lit (.int .u64 100000000000000000), .lit (.int .u64 1000000000000000000), .lit (.int .u64 10000000000000000000)]
def laid_errors_errorType {H : Type} : DataW H := .iface "internal/reflectlite.rtype" (.agg [.ptr (.lit (.string [101, 114, 114, 111, 114]))])

/-- 'ullagelaw08.ItemTells': WHATEVER THE INPUT: true; the input reads as it did. -/
def itemTellsSpec : ChangeSpec := { name := "itemTells", fn := fun _ => fun
  | [d1, d2] => { results := [.lit (.bool true)], args := [d1, d2] }
  | _ => none }
def itemTellsRow : OpenClaim := { program := "ytkmgiodhaaajjaadoor", sum := "5b97f8c07ac5f949cbfce73a71afefa7c41e310e67514a9eba43fc6767ef9f79", func := "ullage/ullagelaw08.ItemTells", spec := "itemTells", unfollowed := true, recurses := true, named := ["ullage/float.double"], loops := true, apart := false, laid := [("ullage/float.double", laid_ullage_float_double)] }
def ItemTellsSaid : Prop := itemTellsRow.holds Tryd.pinned (OpenSpec.ofChange itemTellsSpec)

/-- ITS FALSE NEIGHBOUR: 'it returns false'. Refute it at one input. -/
def itemTellsWrong : ChangeSpec := { name := "itemTells", fn := fun _ => fun
  | [d1, d2] => { results := [.lit (.bool false)], args := [d1, d2] }
  | _ => none }
def ItemTellsWrongFalsely : Prop := itemTellsRow.holds Tryd.pinned (OpenSpec.ofChange itemTellsWrong)

/-- 'ullagelaw08.ItemSame': WHATEVER THE INPUT: true; the input reads as it did. -/
def itemSameSpec : ChangeSpec := { name := "itemSame", fn := fun _ => fun
  | [d1, d2] => { results := [.lit (.bool true)], args := [d1, d2] }
  | _ => none }
def itemSameRow : OpenClaim := { program := "ytkmgiodhaaajjaadoor", sum := "5b97f8c07ac5f949cbfce73a71afefa7c41e310e67514a9eba43fc6767ef9f79", func := "ullage/ullagelaw08.ItemSame", spec := "itemSame", unfollowed := true, recurses := true, named := ["ullage/float.double"], loops := true, apart := false, laid := [("ullage/float.double", laid_ullage_float_double)] }
def ItemSameSaid : Prop := itemSameRow.holds Tryd.pinned (OpenSpec.ofChange itemSameSpec)

/-- ITS FALSE NEIGHBOUR: 'it returns false'. Refute it at one input. -/
def itemSameWrong : ChangeSpec := { name := "itemSame", fn := fun _ => fun
  | [d1, d2] => { results := [.lit (.bool false)], args := [d1, d2] }
  | _ => none }
def ItemSameWrongFalsely : Prop := itemSameRow.holds Tryd.pinned (OpenSpec.ofChange itemSameWrong)

/-- 'ullagelaw16.SchemaChecks': WHATEVER THE INPUT: true; the input reads as it did. -/
def schemaChecksSpec : ChangeSpec := { name := "schemaChecks", fn := fun _ => fun
  | [d1, d2] => { results := [.lit (.bool true)], args := [d1, d2] }
  | _ => none }
def schemaChecksRow : OpenClaim := { program := "ytkmgiodhaaajjaadoor", sum := "5b97f8c07ac5f949cbfce73a71afefa7c41e310e67514a9eba43fc6767ef9f79", func := "ullage/ullagelaw16.SchemaChecks", spec := "schemaChecks", unfollowed := true, recurses := true, named := ["ullage/float.double"], loops := true, apart := false, laid := [("ullage/float.double", laid_ullage_float_double)] }
def SchemaChecksSaid : Prop := schemaChecksRow.holds Tryd.pinned (OpenSpec.ofChange schemaChecksSpec)

/-- ITS FALSE NEIGHBOUR: 'it returns false'. Refute it at one input. -/
def schemaChecksWrong : ChangeSpec := { name := "schemaChecks", fn := fun _ => fun
  | [d1, d2] => { results := [.lit (.bool false)], args := [d1, d2] }
  | _ => none }
def SchemaChecksWrongFalsely : Prop := schemaChecksRow.holds Tryd.pinned (OpenSpec.ofChange schemaChecksWrong)

/-- 'ullagelaw16.SchemaLeads': WHATEVER THE INPUT: true; the input reads as it did. -/
def schemaLeadsSpec : ChangeSpec := { name := "schemaLeads", fn := fun _ => fun
  | [d1, d2] => { results := [.lit (.bool true)], args := [d1, d2] }
  | _ => none }
def schemaLeadsRow : OpenClaim := { program := "ytkmgiodhaaajjaadoor", sum := "5b97f8c07ac5f949cbfce73a71afefa7c41e310e67514a9eba43fc6767ef9f79", func := "ullage/ullagelaw16.SchemaLeads", spec := "schemaLeads", unfollowed := true, recurses := true, named := ["ullage/float.double"], loops := true, apart := false, laid := [("ullage/float.double", laid_ullage_float_double)] }
def SchemaLeadsSaid : Prop := schemaLeadsRow.holds Tryd.pinned (OpenSpec.ofChange schemaLeadsSpec)

/-- ITS FALSE NEIGHBOUR: 'it returns false'. Refute it at one input. -/
def schemaLeadsWrong : ChangeSpec := { name := "schemaLeads", fn := fun _ => fun
  | [d1, d2] => { results := [.lit (.bool false)], args := [d1, d2] }
  | _ => none }
def SchemaLeadsWrongFalsely : Prop := schemaLeadsRow.holds Tryd.pinned (OpenSpec.ofChange schemaLeadsWrong)

/-- 'ullagelaw23.MemBounds': WHATEVER THE INPUT: true; the input reads as it did. -/
def memBoundsSpec : ChangeSpec := { name := "memBounds", fn := fun _ => fun
  | [d1, d2, d3, d4] => { results := [.lit (.bool true)], args := [d1, d2, d3, d4] }
  | _ => none }
def memBoundsRow : OpenClaim := { program := "ytkmgiodhaaajjaadoor", sum := "5b97f8c07ac5f949cbfce73a71afefa7c41e310e67514a9eba43fc6767ef9f79", func := "ullage/ullagelaw23.MemBounds", spec := "memBounds", unfollowed := true, recurses := true, named := ["ullage/float.double"], loops := true, apart := false, laid := [("ullage/float.double", laid_ullage_float_double)] }
def MemBoundsSaid : Prop := memBoundsRow.holds Tryd.pinned (OpenSpec.ofChange memBoundsSpec)

/-- ITS FALSE NEIGHBOUR: 'it returns false'. Refute it at one input. -/
def memBoundsWrong : ChangeSpec := { name := "memBounds", fn := fun _ => fun
  | [d1, d2, d3, d4] => { results := [.lit (.bool false)], args := [d1, d2, d3, d4] }
  | _ => none }
def MemBoundsWrongFalsely : Prop := memBoundsRow.holds Tryd.pinned (OpenSpec.ofChange memBoundsWrong)

/-- 'ullagelaw18.DenoteBounds': WHATEVER THE INPUT: true; the input reads as it did. -/
def denoteBoundsSpec : ChangeSpec := { name := "denoteBounds", fn := fun _ => fun
  | [d1, d2, d3, d4, d5] => { results := [.lit (.bool true)], args := [d1, d2, d3, d4, d5] }
  | _ => none }
def denoteBoundsRow : OpenClaim := { program := "ytkmgiodhaaajjaadoor", sum := "5b97f8c07ac5f949cbfce73a71afefa7c41e310e67514a9eba43fc6767ef9f79", func := "ullage/ullagelaw18.DenoteBounds", spec := "denoteBounds", unfollowed := true, recurses := true, named := ["ullage/float.double"], loops := true, apart := false, laid := [("ullage/float.double", laid_ullage_float_double)] }
def DenoteBoundsSaid : Prop := denoteBoundsRow.holds Tryd.pinned (OpenSpec.ofChange denoteBoundsSpec)

/-- ITS FALSE NEIGHBOUR: 'it returns false'. Refute it at one input. -/
def denoteBoundsWrong : ChangeSpec := { name := "denoteBounds", fn := fun _ => fun
  | [d1, d2, d3, d4, d5] => { results := [.lit (.bool false)], args := [d1, d2, d3, d4, d5] }
  | _ => none }
def DenoteBoundsWrongFalsely : Prop := denoteBoundsRow.holds Tryd.pinned (OpenSpec.ofChange denoteBoundsWrong)

/-- 'ullagelaw18.DenoteNumbers': WHATEVER THE INPUT: true; the input reads as it did. -/
def denoteNumbersSpec : ChangeSpec := { name := "denoteNumbers", fn := fun _ => fun
  | [d1, d2, d3] => { results := [.lit (.bool true)], args := [d1, d2, d3] }
  | _ => none }
def denoteNumbersRow : OpenClaim := { program := "ytkmgiodhaaajjaadoor", sum := "5b97f8c07ac5f949cbfce73a71afefa7c41e310e67514a9eba43fc6767ef9f79", func := "ullage/ullagelaw18.DenoteNumbers", spec := "denoteNumbers", unfollowed := true, recurses := true, named := ["ullage/float.double"], apart := false, laid := [("ullage/float.double", laid_ullage_float_double)] }
def DenoteNumbersSaid : Prop := denoteNumbersRow.holds Tryd.pinned (OpenSpec.ofChange denoteNumbersSpec)

/-- ITS FALSE NEIGHBOUR: 'it returns false'. Refute it at one input. -/
def denoteNumbersWrong : ChangeSpec := { name := "denoteNumbers", fn := fun _ => fun
  | [d1, d2, d3] => { results := [.lit (.bool false)], args := [d1, d2, d3] }
  | _ => none }
def DenoteNumbersWrongFalsely : Prop := denoteNumbersRow.holds Tryd.pinned (OpenSpec.ofChange denoteNumbersWrong)

/-- 'ullagelaw18.DenoteMatches': WHATEVER THE INPUT: true; the input reads as it did. -/
def denoteMatchesSpec : ChangeSpec := { name := "denoteMatches", fn := fun _ => fun
  | [d1, d2, d3] => { results := [.lit (.bool true)], args := [d1, d2, d3] }
  | _ => none }
def denoteMatchesRow : OpenClaim := { program := "ytkmgiodhaaajjaadoor", sum := "5b97f8c07ac5f949cbfce73a71afefa7c41e310e67514a9eba43fc6767ef9f79", func := "ullage/ullagelaw18.DenoteMatches", spec := "denoteMatches", unfollowed := true, recurses := true, named := ["ullage/float.double"], loops := true, apart := false, laid := [("ullage/float.double", laid_ullage_float_double)] }
def DenoteMatchesSaid : Prop := denoteMatchesRow.holds Tryd.pinned (OpenSpec.ofChange denoteMatchesSpec)

/-- ITS FALSE NEIGHBOUR: 'it returns false'. Refute it at one input. -/
def denoteMatchesWrong : ChangeSpec := { name := "denoteMatches", fn := fun _ => fun
  | [d1, d2, d3] => { results := [.lit (.bool false)], args := [d1, d2, d3] }
  | _ => none }
def DenoteMatchesWrongFalsely : Prop := denoteMatchesRow.holds Tryd.pinned (OpenSpec.ofChange denoteMatchesWrong)

/-- 'ullagelaw12.FaultOthers': WHATEVER THE INPUT: true; the input reads as it did. -/
def faultOthersSpec : ChangeSpec := { name := "faultOthers", fn := fun _ => fun
  | [d] => { results := [.lit (.bool true)], args := [d] }
  | _ => none }
def faultOthersRow : OpenClaim := { program := "ytkmgiodhaaajjaadoor", sum := "5b97f8c07ac5f949cbfce73a71afefa7c41e310e67514a9eba43fc6767ef9f79", func := "ullage/ullagelaw12.FaultOthers", spec := "faultOthers", inPlace := ["internal/reflectlite.ValueOf", "(internal/reflectlite.Value).Type", "(internal/reflectlite.Value).IsNil", "internal/reflectlite.TypeOf", "(internal/reflectlite.Value).Elem", "(internal/reflectlite.Value).Set"], unfollowed := true, recurses := true, named := ["errors.errorType", "internal/strconv.uint64pow10", "math/bits.deBruijn32tab", "math/bits.deBruijn64tab"], apart := false, laid := [("math/bits.deBruijn32tab", laid_math_bits_deBruijn32tab), ("math/bits.deBruijn64tab", laid_math_bits_deBruijn64tab), ("internal/strconv.uint64pow10", laid_internal_strconv_uint64pow10), ("errors.errorType", laid_errors_errorType)] }
def FaultOthersSaid : Prop := faultOthersRow.holds Tryd.pinned (OpenSpec.ofChange faultOthersSpec)

/-- ITS FALSE NEIGHBOUR: 'it returns false'. Refute it at one input. -/
def faultOthersWrong : ChangeSpec := { name := "faultOthers", fn := fun _ => fun
  | [d] => { results := [.lit (.bool false)], args := [d] }
  | _ => none }
def FaultOthersWrongFalsely : Prop := faultOthersRow.holds Tryd.pinned (OpenSpec.ofChange faultOthersWrong)

/-- 'ullagelaw12.FaultTells': WHATEVER THE INPUT: true; the input reads as it did. -/
def faultTellsSpec : ChangeSpec := { name := "faultTells", fn := fun _ => fun
  | [d1, d2, d3] => { results := [.lit (.bool true)], args := [d1, d2, d3] }
  | _ => none }
def faultTellsRow : OpenClaim := { program := "ytkmgiodhaaajjaadoor", sum := "5b97f8c07ac5f949cbfce73a71afefa7c41e310e67514a9eba43fc6767ef9f79", func := "ullage/ullagelaw12.FaultTells", spec := "faultTells", inPlace := ["internal/reflectlite.ValueOf", "(internal/reflectlite.Value).Type", "(internal/reflectlite.Value).IsNil", "internal/reflectlite.TypeOf", "(internal/reflectlite.Value).Elem", "(internal/reflectlite.Value).Set"], unfollowed := true, recurses := true, named := ["errors.errorType", "internal/strconv.uint64pow10", "math/bits.deBruijn32tab", "math/bits.deBruijn64tab"], apart := false, laid := [("math/bits.deBruijn32tab", laid_math_bits_deBruijn32tab), ("math/bits.deBruijn64tab", laid_math_bits_deBruijn64tab), ("internal/strconv.uint64pow10", laid_internal_strconv_uint64pow10), ("errors.errorType", laid_errors_errorType)] }
def FaultTellsSaid : Prop := faultTellsRow.holds Tryd.pinned (OpenSpec.ofChange faultTellsSpec)

/-- ITS FALSE NEIGHBOUR: 'it returns false'. Refute it at one input. -/
def faultTellsWrong : ChangeSpec := { name := "faultTells", fn := fun _ => fun
  | [d1, d2, d3] => { results := [.lit (.bool false)], args := [d1, d2, d3] }
  | _ => none }
def FaultTellsWrongFalsely : Prop := faultTellsRow.holds Tryd.pinned (OpenSpec.ofChange faultTellsWrong)

/-- 'ullagelaw19.CandSets': WHATEVER THE INPUT: true; the input reads as it did. -/
def candSetsSpec : ChangeSpec := { name := "candSets", fn := fun _ => fun
  | [d1, d2, d3, d4] => { results := [.lit (.bool true)], args := [d1, d2, d3, d4] }
  | _ => none }
def candSetsRow : OpenClaim := { program := "ytkmgiodhaaajjaadoor", sum := "5b97f8c07ac5f949cbfce73a71afefa7c41e310e67514a9eba43fc6767ef9f79", func := "ullage/ullagelaw19.CandSets", spec := "candSets", unfollowed := true, recurses := true, named := ["ullage/float.double", "math/bits.deBruijn64tab"], apart := false, laid := [("math/bits.deBruijn64tab", laid_math_bits_deBruijn64tab), ("ullage/float.double", laid_ullage_float_double)] }
def CandSetsSaid : Prop := candSetsRow.holds Tryd.pinned (OpenSpec.ofChange candSetsSpec)

/-- ITS FALSE NEIGHBOUR: 'it returns false'. Refute it at one input. -/
def candSetsWrong : ChangeSpec := { name := "candSets", fn := fun _ => fun
  | [d1, d2, d3, d4] => { results := [.lit (.bool false)], args := [d1, d2, d3, d4] }
  | _ => none }
def CandSetsWrongFalsely : Prop := candSetsRow.holds Tryd.pinned (OpenSpec.ofChange candSetsWrong)

/- THE SECOND FORM. 'bulk': how many values and letters a reading holds, each counted each time it is reached (what is shared counts as often as it is met; a slice's spare places count too). A statement '..UptoSaid' is the law's where the arguments, and the package variables that the reading takes, are together of bulk at most 1048576: NARROWER than '..Said'. Prove '..Said' where nothing that the law and all that it calls make is longer than what came in: it says more and counts as full. Else prove '..UptoSaid'. A law counts once. -/
mutual
def uptoBulk {H : Type} : DataW H → Nat
  | .lit (.string bytes) => bytes.length + 1
  | .lit _ => 1
  | .nil => 1
  | .ptr d => uptoBulk d + 1
  | .slice elems spare => uptoBulkAll elems + uptoBulkAll spare + 1
  | .agg parts => uptoBulkAll parts + 1
  | .iface _ d => uptoBulk d + 1
  | .map entries => uptoBulkEntries entries + 1
  | .held _ => 1
def uptoBulkAll {H : Type} : List (DataW H) → Nat
  | [] => 0
  | d :: r => uptoBulk d + uptoBulkAll r
def uptoBulkEntries {H : Type} : List (Lit × DataW H) → Nat
  | [] => 0
  | x :: r => uptoBulkEntry x + uptoBulkEntries r
def uptoBulkEntry {H : Type} : Lit × DataW H → Nat
  | (.string bytes, d) => bytes.length + uptoBulk d + 1
  | (_, d) => uptoBulk d + 1
 end
def uptoSmall : (H : Type) → List (DataW H) → Bool := fun _ ds => decide (uptoBulkAll ds ≤ 1048576)
def OpenSpec.upto (s : _root_.Go.ChangeSpec) : _root_.Go.OpenSpec := { _root_.Go.OpenSpec.ofChange s with cond := some uptoSmall }

/-- 'ullagelaw08.ItemTells', WHERE WHAT IT READS IS OF BULK AT MOST 1048576: true; the input reads as it did. -/
def itemTellsUptoRow : OpenClaim := { program := "ytkmgiodhaaajjaadoor", sum := "5b97f8c07ac5f949cbfce73a71afefa7c41e310e67514a9eba43fc6767ef9f79", func := "ullage/ullagelaw08.ItemTells", spec := "itemTells", unfollowed := true, recurses := true, named := ["ullage/float.double"], loops := true, apart := false, laid := [("ullage/float.double", laid_ullage_float_double)], narrowed := true }
def ItemTellsUptoSaid : Prop := itemTellsUptoRow.holds Tryd.pinned (OpenSpec.upto itemTellsSpec)

/-- 'ullagelaw08.ItemSame', WHERE WHAT IT READS IS OF BULK AT MOST 1048576: true; the input reads as it did. -/
def itemSameUptoRow : OpenClaim := { program := "ytkmgiodhaaajjaadoor", sum := "5b97f8c07ac5f949cbfce73a71afefa7c41e310e67514a9eba43fc6767ef9f79", func := "ullage/ullagelaw08.ItemSame", spec := "itemSame", unfollowed := true, recurses := true, named := ["ullage/float.double"], loops := true, apart := false, laid := [("ullage/float.double", laid_ullage_float_double)], narrowed := true }
def ItemSameUptoSaid : Prop := itemSameUptoRow.holds Tryd.pinned (OpenSpec.upto itemSameSpec)

/-- 'ullagelaw16.SchemaChecks', WHERE WHAT IT READS IS OF BULK AT MOST 1048576: true; the input reads as it did. -/
def schemaChecksUptoRow : OpenClaim := { program := "ytkmgiodhaaajjaadoor", sum := "5b97f8c07ac5f949cbfce73a71afefa7c41e310e67514a9eba43fc6767ef9f79", func := "ullage/ullagelaw16.SchemaChecks", spec := "schemaChecks", unfollowed := true, recurses := true, named := ["ullage/float.double"], loops := true, apart := false, laid := [("ullage/float.double", laid_ullage_float_double)], narrowed := true }
def SchemaChecksUptoSaid : Prop := schemaChecksUptoRow.holds Tryd.pinned (OpenSpec.upto schemaChecksSpec)

/-- 'ullagelaw16.SchemaLeads', WHERE WHAT IT READS IS OF BULK AT MOST 1048576: true; the input reads as it did. -/
def schemaLeadsUptoRow : OpenClaim := { program := "ytkmgiodhaaajjaadoor", sum := "5b97f8c07ac5f949cbfce73a71afefa7c41e310e67514a9eba43fc6767ef9f79", func := "ullage/ullagelaw16.SchemaLeads", spec := "schemaLeads", unfollowed := true, recurses := true, named := ["ullage/float.double"], loops := true, apart := false, laid := [("ullage/float.double", laid_ullage_float_double)], narrowed := true }
def SchemaLeadsUptoSaid : Prop := schemaLeadsUptoRow.holds Tryd.pinned (OpenSpec.upto schemaLeadsSpec)

/-- 'ullagelaw23.MemBounds', WHERE WHAT IT READS IS OF BULK AT MOST 1048576: true; the input reads as it did. -/
def memBoundsUptoRow : OpenClaim := { program := "ytkmgiodhaaajjaadoor", sum := "5b97f8c07ac5f949cbfce73a71afefa7c41e310e67514a9eba43fc6767ef9f79", func := "ullage/ullagelaw23.MemBounds", spec := "memBounds", unfollowed := true, recurses := true, named := ["ullage/float.double"], loops := true, apart := false, laid := [("ullage/float.double", laid_ullage_float_double)], narrowed := true }
def MemBoundsUptoSaid : Prop := memBoundsUptoRow.holds Tryd.pinned (OpenSpec.upto memBoundsSpec)

/-- 'ullagelaw18.DenoteBounds', WHERE WHAT IT READS IS OF BULK AT MOST 1048576: true; the input reads as it did. -/
def denoteBoundsUptoRow : OpenClaim := { program := "ytkmgiodhaaajjaadoor", sum := "5b97f8c07ac5f949cbfce73a71afefa7c41e310e67514a9eba43fc6767ef9f79", func := "ullage/ullagelaw18.DenoteBounds", spec := "denoteBounds", unfollowed := true, recurses := true, named := ["ullage/float.double"], loops := true, apart := false, laid := [("ullage/float.double", laid_ullage_float_double)], narrowed := true }
def DenoteBoundsUptoSaid : Prop := denoteBoundsUptoRow.holds Tryd.pinned (OpenSpec.upto denoteBoundsSpec)

/-- 'ullagelaw18.DenoteNumbers', WHERE WHAT IT READS IS OF BULK AT MOST 1048576: true; the input reads as it did. -/
def denoteNumbersUptoRow : OpenClaim := { program := "ytkmgiodhaaajjaadoor", sum := "5b97f8c07ac5f949cbfce73a71afefa7c41e310e67514a9eba43fc6767ef9f79", func := "ullage/ullagelaw18.DenoteNumbers", spec := "denoteNumbers", unfollowed := true, recurses := true, named := ["ullage/float.double"], apart := false, laid := [("ullage/float.double", laid_ullage_float_double)], narrowed := true }
def DenoteNumbersUptoSaid : Prop := denoteNumbersUptoRow.holds Tryd.pinned (OpenSpec.upto denoteNumbersSpec)

/-- 'ullagelaw18.DenoteMatches', WHERE WHAT IT READS IS OF BULK AT MOST 1048576: true; the input reads as it did. -/
def denoteMatchesUptoRow : OpenClaim := { program := "ytkmgiodhaaajjaadoor", sum := "5b97f8c07ac5f949cbfce73a71afefa7c41e310e67514a9eba43fc6767ef9f79", func := "ullage/ullagelaw18.DenoteMatches", spec := "denoteMatches", unfollowed := true, recurses := true, named := ["ullage/float.double"], loops := true, apart := false, laid := [("ullage/float.double", laid_ullage_float_double)], narrowed := true }
def DenoteMatchesUptoSaid : Prop := denoteMatchesUptoRow.holds Tryd.pinned (OpenSpec.upto denoteMatchesSpec)

/-- 'ullagelaw12.FaultOthers', WHERE WHAT IT READS IS OF BULK AT MOST 1048576: true; the input reads as it did. -/
def faultOthersUptoRow : OpenClaim := { program := "ytkmgiodhaaajjaadoor", sum := "5b97f8c07ac5f949cbfce73a71afefa7c41e310e67514a9eba43fc6767ef9f79", func := "ullage/ullagelaw12.FaultOthers", spec := "faultOthers", inPlace := ["internal/reflectlite.ValueOf", "(internal/reflectlite.Value).Type", "(internal/reflectlite.Value).IsNil", "internal/reflectlite.TypeOf", "(internal/reflectlite.Value).Elem", "(internal/reflectlite.Value).Set"], unfollowed := true, recurses := true, named := ["errors.errorType", "internal/strconv.uint64pow10", "math/bits.deBruijn32tab", "math/bits.deBruijn64tab"], apart := false, laid := [("math/bits.deBruijn32tab", laid_math_bits_deBruijn32tab), ("math/bits.deBruijn64tab", laid_math_bits_deBruijn64tab), ("internal/strconv.uint64pow10", laid_internal_strconv_uint64pow10), ("errors.errorType", laid_errors_errorType)], narrowed := true }
def FaultOthersUptoSaid : Prop := faultOthersUptoRow.holds Tryd.pinned (OpenSpec.upto faultOthersSpec)

/-- 'ullagelaw12.FaultTells', WHERE WHAT IT READS IS OF BULK AT MOST 1048576: true; the input reads as it did. -/
def faultTellsUptoRow : OpenClaim := { program := "ytkmgiodhaaajjaadoor", sum := "5b97f8c07ac5f949cbfce73a71afefa7c41e310e67514a9eba43fc6767ef9f79", func := "ullage/ullagelaw12.FaultTells", spec := "faultTells", inPlace := ["internal/reflectlite.ValueOf", "(internal/reflectlite.Value).Type", "(internal/reflectlite.Value).IsNil", "internal/reflectlite.TypeOf", "(internal/reflectlite.Value).Elem", "(internal/reflectlite.Value).Set"], unfollowed := true, recurses := true, named := ["errors.errorType", "internal/strconv.uint64pow10", "math/bits.deBruijn32tab", "math/bits.deBruijn64tab"], apart := false, laid := [("math/bits.deBruijn32tab", laid_math_bits_deBruijn32tab), ("math/bits.deBruijn64tab", laid_math_bits_deBruijn64tab), ("internal/strconv.uint64pow10", laid_internal_strconv_uint64pow10), ("errors.errorType", laid_errors_errorType)], narrowed := true }
def FaultTellsUptoSaid : Prop := faultTellsUptoRow.holds Tryd.pinned (OpenSpec.upto faultTellsSpec)

/-- 'ullagelaw19.CandSets', WHERE WHAT IT READS IS OF BULK AT MOST 1048576: true; the input reads as it did. -/
def candSetsUptoRow : OpenClaim := { program := "ytkmgiodhaaajjaadoor", sum := "5b97f8c07ac5f949cbfce73a71afefa7c41e310e67514a9eba43fc6767ef9f79", func := "ullage/ullagelaw19.CandSets", spec := "candSets", unfollowed := true, recurses := true, named := ["ullage/float.double", "math/bits.deBruijn64tab"], apart := false, laid := [("math/bits.deBruijn64tab", laid_math_bits_deBruijn64tab), ("ullage/float.double", laid_ullage_float_double)], narrowed := true }
def CandSetsUptoSaid : Prop := candSetsUptoRow.holds Tryd.pinned (OpenSpec.upto candSetsSpec)

end Rows
end Go.Proofs.YtkmgiodhaaajjaaDoor
