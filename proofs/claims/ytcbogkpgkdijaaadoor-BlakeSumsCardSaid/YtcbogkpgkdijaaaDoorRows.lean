/-
  NARROWER THAN 'FOR EVERY INPUT', by the rows' own cells (each row's printed sentence says how): FloatShortest: laid · FloatWidens: laid · ShaSums: laid · ShaChunks: laid · BlakeSums: laid · BlakeChunks: laid.
  DERIVED. THE GIVEN ROWS OF THIS SEAT. 6 by the template 'for every input the law returns true; each argument reads behind the call as it read before'; 0 by the template 'total and deterministic' (their statements: YtcbogkpgkdijaaaDoorTotals.lean).
  GIVEN WITH THE SEED: the statements are not yours to turn. If you find one false, say at which input.
  Laid BY PROGRAM, IN A SANDBOX (cutbox-rows.mjs): the forced cells as the released guide's own fill.sh prints them over the translation e48fc0693b7924c0… (all of the seat's roots in one cut). By AI agents, Wed Nov 11 2026. No macro, syntax, notation, axiom, sorry.
-/
import Derived.Test.YtcbogkpgkdijaaaDoorChecked
import GoSem.Claim
import GoSem.ClaimJoined
import GoSem.ClaimMapViews
import Derived.JoinedTies
import Derived.KernelRfl
namespace Go.Proofs.YtcbogkpgkdijaaaDoor
/- THE CELL 'sum', in the pinned program and in every row, IS THE sha256 OF THE DUMP (.gsa) THAT YtcbogkpgkdijaaaDoorProg.lean LOADS. Nothing in Lean hashes anything: it is a label: what it is worth is what the hold of that sum in a sandbox is worth. -/
noncomputable def Tryd.pinned : Pinned := { name := "ytcbogkpgkdijaaadoor", sum := "e48fc0693b7924c0b36f28b15709128983a4c995c8e2ba8f09d9c779d4af4764", checked := Tryd.checked }
namespace Rows
def none {H : Type} : Left H := { results := [], args := [] }

/- WHAT THE LISTED PACKAGE-LEVEL VARIABLES READ AS WHEN THE CALL BEGINS. Each datum BY PROGRAM (the guide's laid-datum.mjs) off the statement by which the dump's own 'gosem.cut.vars' lays the variable. In a bare row this is a premise. The card (YtcbogkpgkdijaaaDoorCards.lean) ties it to the program's text. -/
def laid_ullage_float_double {H : Type} : DataW H := .agg [.lit (.int .i64 11), .lit (.int .i64 52)]
def laid_ullage_sha_first {H : Type} : DataW H := .agg [.lit (.int .u32 1779033703), .lit (.int .u32 3144134277), .lit (.int .u32 1013904242), .lit (.int .u32 2773480762), .lit (.int .u32 1359893119), .lit (.int .u32 2600822924), .lit (.int .u32 528734635), .lit (.int .u32 1541459225)]
def laid_ullage_sha_k {H : Type} : DataW H := .agg [.lit (.int .u32 1116352408), .lit (.int .u32 1899447441), .lit (.int .u32 3049323471), .lit (.int .u32 3921009573), .lit (.int .u32 961987163), .lit (.int .u32 1508970993), .lit (.int .u32 2453635748), .lit (.int .u32 2870763221), .lit (.int .u32 3624381080), .lit (.int .u32 310598401), .lit (.int .u32 607225278), .lit (.int .u32 1426881987), .lit (.int .u32 1925078388), .lit (.int .u32 2162078206), .lit (.int .u32 2614888103), .lit (.int .u32 3248222580), .lit (.int .u32 3835390401), .lit (.int .u32 4022224774), .lit (.int .u32 264347078), .lit (.int .u32 604807628), .lit (.int .u32 770255983), .lit (.int .u32 1249150122), .lit (.int .u32 1555081692), .lit (.int .u32 1996064986), .lit (.int .u32 2554220882), .lit (.int .u32 2821834349), .lit (.int .u32 2952996808), .lit (.int .u32 3210313671), .lit (.int .u32 3336571891), .lit (.int .u32 3584528711), .lit (.int .u32 113926993), .lit (.int .u32 338241895), .lit (.int .u32 666307205), .lit (.int .u32 773529912), .lit (.int .u32 1294757372), .lit (.int .u32 1396182291), .lit (.int .u32 1695183700), .lit (.int .u32 1986661051), .lit (.int .u32 2177026350), .lit (.int .u32 2456956037), .lit (.int .u32 2730485921), .lit (.int .u32 2820302411), .lit (.int .u32 3259730800), .lit (.int .u32 3345764771), .lit (.int .u32 3516065817), .lit (.int .u32 3600352804), .lit (.int .u32 4094571909), .lit (.int .u32 275423344), .lit (.int .u32 430227734), .lit (.int .u32 506948616), .lit (.int .u32 659060556), .lit (.int .u32 883997877), .lit (.int .u32 958139571), .lit (.int .u32 1322822218), .lit (.int .u32 1537002063), .lit (.int .u32 1747873779), .lit (.int .u32 1955562222), .lit (.int .u32 2024104815), .lit (.int .u32 2227730452), .lit (.int .u32 2361852424), .lit (.int .u32 2428436474), .lit (.int .u32 2756734187), .lit (.int .u32 3204031479), .lit (.int .u32 3329325298)]
def laid_ullage_blake_iv {H : Type} : DataW H := .agg [.lit (.int .u64 7640891576956012808), .lit (.int .u64 13503953896175478587), .lit (.int .u64 4354685564936845355), .lit (.int .u64 11912009170470909681), .lit (.int .u64 5840696475078001361), .lit (.int .u64 11170449401992604703), .lit (.int .u64 2270897969802886507), .lit (.int .u64 6620516959819538809)]
def laid_ullage_blake_table {H : Type} : DataW H := .agg [.agg [.lit (.int .i64 0), .lit (.int .i64 1), .lit (.int .i64 2), .lit (.int .i64 3), .lit (.int .i64 4), .lit (.int .i64 5), .lit (.int .i64 6), .lit (.int .i64 7), .lit (.int .i64 8), .lit (.int .i64 9), .lit (.int .i64 10), .lit (.int .i64 11), .lit (.int .i64 12), .lit (.int .i64 13), .lit (.int .i64 14), .lit (.int .i64 15)], .agg [.lit (.int .i64 14), .lit (.int .i64 10), .lit (.int .i64 4), .lit (.int .i64 8), .lit (.int .i64 9), .lit (.int .i64 15), .lit (.int .i64 13), .lit (.int .i64 6), .lit (.int .i64 1), .lit (.int .i64 12), .lit (.int .i64 0), .lit (.int .i64 2), .lit (.int .i64 11), .lit (.int .i64 7), .lit (.int .i64 5), .lit (.int .i64 3)], .agg [.lit (.int .i64 11), .lit (.int .i64 8), .lit (.int .i64 12), .lit (.int .i64 0), .lit (.int .i64 5), .lit (.int .i64 2), .lit (.int .i64 15), .lit (.int .i64 13), .lit (.int .i64 10), .lit (.int .i64 14), .lit (.int .i64 3), .lit (.int .i64 6), .lit (.int .i64 7), .lit (.int .i64 1), .lit (.int .i64 9), .lit (.int .i64 4)], .agg [.lit (.int .i64 7), .lit (.int .i64 9), .lit (.int .i64 3), .lit (.int .i64 1), .lit (.int .i64 13), .lit (.int .i64 12), .lit (.int .i64 11), .lit (.int .i64 14), .lit (.int .i64 2), .lit (.int .i64 6), .lit (.int .i64 5), .lit (.int .i64 10), .lit (.int .i64 4), .lit (.int .i64 0), .lit (.int .i64 15), .lit (.int .i64 8)], .agg [.lit (.int .i64 9), .lit (.int .i64 0), .lit (.int .i64 5), .lit (.int .i64 7), .lit (.int .i64 2), .lit (.int .i64 4), .lit (.int .i64 10), .lit (.int .i64 15), .lit (.int .i64 14), .lit (.int .i64 1), .lit (.int .i64 11), .lit (.int .i64 12), .lit (.int .i64 6), .lit (.int .i64 8), .lit (.int .i64 3), .lit (.int .i64 13)], .agg [.lit (.int .i64 2), .lit (.int .i64 12), .lit (.int .i64 6), .lit (.int .i64 10), .lit (.int .i64 0), .lit (.int .i64 11), .lit (.int .i64 8), .lit (.int .i64 3), .lit (.int .i64 4), .lit (.int .i64 13), .lit (.int .i64 7), .lit (.int .i64 5), .lit (.int .i64 15), .lit (.int .i64 14), .lit (.int .i64 1), .lit (.int .i64 9)], .agg [.lit (.int .i64 12), .lit (.int .i64 5), .lit (.int .i64 1), .lit (.int .i64 15), .lit (.int .i64 14), .lit (.int .i64 13), .lit (.int .i64 4), .lit (.int .i64 10), .lit (.int .i64 0), .lit (.int .i64 7), .lit (.int .i64 6), .lit (.int .i64 3), .lit (.int .i64 9), .lit (.int .i64 2), .lit (.int .i64 8), .lit (.int .i64 11)], .agg [.lit (.int .i64 13), .lit (.int .i64 11), .lit (.int .i64 7), .lit (.int .i64 14), .lit (.int .i64 12), .lit (.int .i64 1), .lit (.int .i64 3), .lit (.int .i64 9), .lit (.int .i64 5), .lit (.int .i64 0), .lit (.int .i64 15), .lit (.int .i64 4), .lit (.int .i64 8), .lit (.int .i64 6), .lit (.int .i64 2), .lit (.int .i64 10)], .agg [.lit (.int .i64 6), .lit (.int .i64 15), .lit (.int .i64 14), .lit (.int .i64 9), .lit (.int .i64 11), .lit (.int .i64 3), .lit (.int .i64 0), .lit (.int .i64 8), .lit (.int .i64 12), .lit (.int .i64 2), .lit (.int .i64 13), .lit (.int .i64 7), .lit (.int .i64 1), .lit (.int .i64 4), .lit (.int .i64 10), .lit (.int .i64 5)], .agg [.lit (.int .i64 10), .lit (.int .i64 2), .lit (.int .i64 8), .lit (.int .i64 4), .lit (.int .i64 7), .lit (.int .i64 6), .lit (.int .i64 1), .lit (.int .i64 5), .lit (.int .i64 15), .lit (.int .i64 11), .lit (.int .i64 9), .lit (.int .i64 14), .lit (.int .i64 3), .lit (.int .i64 12), .lit (.int .i64 13), .lit (.int .i64 0)]]

/-- 'ullagelaw06.FloatShortest': WHATEVER THE INPUT: true; the input reads as it did. -/
def floatShortestSpec : ChangeSpec := { name := "floatShortest", fn := fun _ => fun
  | [d] => { results := [.lit (.bool true)], args := [d] }
  | _ => none }
def floatShortestRow : OpenClaim := { program := "ytcbogkpgkdijaaadoor", sum := "e48fc0693b7924c0b36f28b15709128983a4c995c8e2ba8f09d9c779d4af4764", func := "ullage/ullagelaw06.FloatShortest", spec := "floatShortest", named := ["ullage/float.double"], apart := false, laid := [("ullage/float.double", laid_ullage_float_double)] }
def FloatShortestSaid : Prop := floatShortestRow.holds Tryd.pinned (OpenSpec.ofChange floatShortestSpec)

/-- ITS FALSE NEIGHBOUR: 'it returns false'. Refute it at one input. -/
def floatShortestWrong : ChangeSpec := { name := "floatShortest", fn := fun _ => fun
  | [d] => { results := [.lit (.bool false)], args := [d] }
  | _ => none }
def FloatShortestWrongFalsely : Prop := floatShortestRow.holds Tryd.pinned (OpenSpec.ofChange floatShortestWrong)

/-- 'ullagelaw06.FloatWidens': WHATEVER THE INPUT: true; the input reads as it did. -/
def floatWidensSpec : ChangeSpec := { name := "floatWidens", fn := fun _ => fun
  | [d1, d2] => { results := [.lit (.bool true)], args := [d1, d2] }
  | _ => none }
def floatWidensRow : OpenClaim := { program := "ytcbogkpgkdijaaadoor", sum := "e48fc0693b7924c0b36f28b15709128983a4c995c8e2ba8f09d9c779d4af4764", func := "ullage/ullagelaw06.FloatWidens", spec := "floatWidens", named := ["ullage/float.double"], apart := false, laid := [("ullage/float.double", laid_ullage_float_double)] }
def FloatWidensSaid : Prop := floatWidensRow.holds Tryd.pinned (OpenSpec.ofChange floatWidensSpec)

/-- ITS FALSE NEIGHBOUR: 'it returns false'. Refute it at one input. -/
def floatWidensWrong : ChangeSpec := { name := "floatWidens", fn := fun _ => fun
  | [d1, d2] => { results := [.lit (.bool false)], args := [d1, d2] }
  | _ => none }
def FloatWidensWrongFalsely : Prop := floatWidensRow.holds Tryd.pinned (OpenSpec.ofChange floatWidensWrong)

/-- 'ullagelaw02.ShaSums': WHATEVER THE INPUT: true; the input reads as it did. -/
def shaSumsSpec : ChangeSpec := { name := "shaSums", fn := fun _ => fun
  | [d] => { results := [.lit (.bool true)], args := [d] }
  | _ => none }
def shaSumsRow : OpenClaim := { program := "ytcbogkpgkdijaaadoor", sum := "e48fc0693b7924c0b36f28b15709128983a4c995c8e2ba8f09d9c779d4af4764", func := "ullage/ullagelaw02.ShaSums", spec := "shaSums", named := ["ullage/sha.first", "ullage/sha.k"], apart := false, laid := [("ullage/sha.first", laid_ullage_sha_first), ("ullage/sha.k", laid_ullage_sha_k)] }
def ShaSumsSaid : Prop := shaSumsRow.holds Tryd.pinned (OpenSpec.ofChange shaSumsSpec)

/-- ITS FALSE NEIGHBOUR: 'it returns false'. Refute it at one input. -/
def shaSumsWrong : ChangeSpec := { name := "shaSums", fn := fun _ => fun
  | [d] => { results := [.lit (.bool false)], args := [d] }
  | _ => none }
def ShaSumsWrongFalsely : Prop := shaSumsRow.holds Tryd.pinned (OpenSpec.ofChange shaSumsWrong)

/-- 'ullagelaw02.ShaChunks': WHATEVER THE INPUT: true; the input reads as it did. -/
def shaChunksSpec : ChangeSpec := { name := "shaChunks", fn := fun _ => fun
  | [d] => { results := [.lit (.bool true)], args := [d] }
  | _ => none }
def shaChunksRow : OpenClaim := { program := "ytcbogkpgkdijaaadoor", sum := "e48fc0693b7924c0b36f28b15709128983a4c995c8e2ba8f09d9c779d4af4764", func := "ullage/ullagelaw02.ShaChunks", spec := "shaChunks", named := ["ullage/sha.first", "ullage/sha.k"], apart := false, laid := [("ullage/sha.first", laid_ullage_sha_first), ("ullage/sha.k", laid_ullage_sha_k)] }
def ShaChunksSaid : Prop := shaChunksRow.holds Tryd.pinned (OpenSpec.ofChange shaChunksSpec)

/-- ITS FALSE NEIGHBOUR: 'it returns false'. Refute it at one input. -/
def shaChunksWrong : ChangeSpec := { name := "shaChunks", fn := fun _ => fun
  | [d] => { results := [.lit (.bool false)], args := [d] }
  | _ => none }
def ShaChunksWrongFalsely : Prop := shaChunksRow.holds Tryd.pinned (OpenSpec.ofChange shaChunksWrong)

/-- 'ullagelaw03.BlakeSums': WHATEVER THE INPUT: true; the input reads as it did. -/
def blakeSumsSpec : ChangeSpec := { name := "blakeSums", fn := fun _ => fun
  | [d] => { results := [.lit (.bool true)], args := [d] }
  | _ => none }
def blakeSumsRow : OpenClaim := { program := "ytcbogkpgkdijaaadoor", sum := "e48fc0693b7924c0b36f28b15709128983a4c995c8e2ba8f09d9c779d4af4764", func := "ullage/ullagelaw03.BlakeSums", spec := "blakeSums", named := ["ullage/blake.iv", "ullage/blake.table"], apart := false, laid := [("ullage/blake.iv", laid_ullage_blake_iv), ("ullage/blake.table", laid_ullage_blake_table)] }
def BlakeSumsSaid : Prop := blakeSumsRow.holds Tryd.pinned (OpenSpec.ofChange blakeSumsSpec)

/-- ITS FALSE NEIGHBOUR: 'it returns false'. Refute it at one input. -/
def blakeSumsWrong : ChangeSpec := { name := "blakeSums", fn := fun _ => fun
  | [d] => { results := [.lit (.bool false)], args := [d] }
  | _ => none }
def BlakeSumsWrongFalsely : Prop := blakeSumsRow.holds Tryd.pinned (OpenSpec.ofChange blakeSumsWrong)

/-- 'ullagelaw03.BlakeChunks': WHATEVER THE INPUT: true; the input reads as it did. -/
def blakeChunksSpec : ChangeSpec := { name := "blakeChunks", fn := fun _ => fun
  | [d] => { results := [.lit (.bool true)], args := [d] }
  | _ => none }
def blakeChunksRow : OpenClaim := { program := "ytcbogkpgkdijaaadoor", sum := "e48fc0693b7924c0b36f28b15709128983a4c995c8e2ba8f09d9c779d4af4764", func := "ullage/ullagelaw03.BlakeChunks", spec := "blakeChunks", named := ["ullage/blake.iv", "ullage/blake.table"], apart := false, laid := [("ullage/blake.iv", laid_ullage_blake_iv), ("ullage/blake.table", laid_ullage_blake_table)] }
def BlakeChunksSaid : Prop := blakeChunksRow.holds Tryd.pinned (OpenSpec.ofChange blakeChunksSpec)

/-- ITS FALSE NEIGHBOUR: 'it returns false'. Refute it at one input. -/
def blakeChunksWrong : ChangeSpec := { name := "blakeChunks", fn := fun _ => fun
  | [d] => { results := [.lit (.bool false)], args := [d] }
  | _ => none }
def BlakeChunksWrongFalsely : Prop := blakeChunksRow.holds Tryd.pinned (OpenSpec.ofChange blakeChunksWrong)

/- THE SECOND FORM. 'bulk': how many values and letters a reading holds, each counted each time it is reached (what is shared counts as often as it is met; a slice's spare places count too). A statement '..UptoSaid' is the law's where the arguments, and the package variables that the reading takes, are together of bulk at most 1048576: NARROWER than '..Said'. Prove '..Said' where nothing that the law and all that it calls make is longer than what came in: it says more and counts as full. Else prove '..UptoSaid'. A law counts once. -/
mutual
def uptoBulk {H : Type} : DataW H → Nat
  | .lit (.string bytes) => bytes.length + 1
  | .lit _ => 1
  | .nil => 1
  | .ptr d => uptoBulk d + 1
  | .slice elems spare => uptoBulkAll elems + uptoBulkAll spare + 1
  | .agg parts => uptoBulkAll parts + 1
  | .iface _ d => uptoBulk d + 1
  | .map entries => uptoBulkEntries entries + 1
  | .held _ => 1
def uptoBulkAll {H : Type} : List (DataW H) → Nat
  | [] => 0
  | d :: r => uptoBulk d + uptoBulkAll r
def uptoBulkEntries {H : Type} : List (Lit × DataW H) → Nat
  | [] => 0
  | x :: r => uptoBulkEntry x + uptoBulkEntries r
def uptoBulkEntry {H : Type} : Lit × DataW H → Nat
  | (.string bytes, d) => bytes.length + uptoBulk d + 1
  | (_, d) => uptoBulk d + 1
 end
def uptoSmall : (H : Type) → List (DataW H) → Bool := fun _ ds => decide (uptoBulkAll ds ≤ 1048576)
def OpenSpec.upto (s : _root_.Go.ChangeSpec) : _root_.Go.OpenSpec := { _root_.Go.OpenSpec.ofChange s with cond := some uptoSmall }

/-- 'ullagelaw06.FloatShortest', WHERE WHAT IT READS IS OF BULK AT MOST 1048576: true; the input reads as it did. -/
def floatShortestUptoRow : OpenClaim := { program := "ytcbogkpgkdijaaadoor", sum := "e48fc0693b7924c0b36f28b15709128983a4c995c8e2ba8f09d9c779d4af4764", func := "ullage/ullagelaw06.FloatShortest", spec := "floatShortest", named := ["ullage/float.double"], apart := false, laid := [("ullage/float.double", laid_ullage_float_double)], narrowed := true }
def FloatShortestUptoSaid : Prop := floatShortestUptoRow.holds Tryd.pinned (OpenSpec.upto floatShortestSpec)

/-- 'ullagelaw06.FloatWidens', WHERE WHAT IT READS IS OF BULK AT MOST 1048576: true; the input reads as it did. -/
def floatWidensUptoRow : OpenClaim := { program := "ytcbogkpgkdijaaadoor", sum := "e48fc0693b7924c0b36f28b15709128983a4c995c8e2ba8f09d9c779d4af4764", func := "ullage/ullagelaw06.FloatWidens", spec := "floatWidens", named := ["ullage/float.double"], apart := false, laid := [("ullage/float.double", laid_ullage_float_double)], narrowed := true }
def FloatWidensUptoSaid : Prop := floatWidensUptoRow.holds Tryd.pinned (OpenSpec.upto floatWidensSpec)

/-- 'ullagelaw02.ShaSums', WHERE WHAT IT READS IS OF BULK AT MOST 1048576: true; the input reads as it did. -/
def shaSumsUptoRow : OpenClaim := { program := "ytcbogkpgkdijaaadoor", sum := "e48fc0693b7924c0b36f28b15709128983a4c995c8e2ba8f09d9c779d4af4764", func := "ullage/ullagelaw02.ShaSums", spec := "shaSums", named := ["ullage/sha.first", "ullage/sha.k"], apart := false, laid := [("ullage/sha.first", laid_ullage_sha_first), ("ullage/sha.k", laid_ullage_sha_k)], narrowed := true }
def ShaSumsUptoSaid : Prop := shaSumsUptoRow.holds Tryd.pinned (OpenSpec.upto shaSumsSpec)

/-- 'ullagelaw02.ShaChunks', WHERE WHAT IT READS IS OF BULK AT MOST 1048576: true; the input reads as it did. -/
def shaChunksUptoRow : OpenClaim := { program := "ytcbogkpgkdijaaadoor", sum := "e48fc0693b7924c0b36f28b15709128983a4c995c8e2ba8f09d9c779d4af4764", func := "ullage/ullagelaw02.ShaChunks", spec := "shaChunks", named := ["ullage/sha.first", "ullage/sha.k"], apart := false, laid := [("ullage/sha.first", laid_ullage_sha_first), ("ullage/sha.k", laid_ullage_sha_k)], narrowed := true }
def ShaChunksUptoSaid : Prop := shaChunksUptoRow.holds Tryd.pinned (OpenSpec.upto shaChunksSpec)

/-- 'ullagelaw03.BlakeSums', WHERE WHAT IT READS IS OF BULK AT MOST 1048576: true; the input reads as it did. -/
def blakeSumsUptoRow : OpenClaim := { program := "ytcbogkpgkdijaaadoor", sum := "e48fc0693b7924c0b36f28b15709128983a4c995c8e2ba8f09d9c779d4af4764", func := "ullage/ullagelaw03.BlakeSums", spec := "blakeSums", named := ["ullage/blake.iv", "ullage/blake.table"], apart := false, laid := [("ullage/blake.iv", laid_ullage_blake_iv), ("ullage/blake.table", laid_ullage_blake_table)], narrowed := true }
def BlakeSumsUptoSaid : Prop := blakeSumsUptoRow.holds Tryd.pinned (OpenSpec.upto blakeSumsSpec)

/-- 'ullagelaw03.BlakeChunks', WHERE WHAT IT READS IS OF BULK AT MOST 1048576: true; the input reads as it did. -/
def blakeChunksUptoRow : OpenClaim := { program := "ytcbogkpgkdijaaadoor", sum := "e48fc0693b7924c0b36f28b15709128983a4c995c8e2ba8f09d9c779d4af4764", func := "ullage/ullagelaw03.BlakeChunks", spec := "blakeChunks", named := ["ullage/blake.iv", "ullage/blake.table"], apart := false, laid := [("ullage/blake.iv", laid_ullage_blake_iv), ("ullage/blake.table", laid_ullage_blake_table)], narrowed := true }
def BlakeChunksUptoSaid : Prop := blakeChunksUptoRow.holds Tryd.pinned (OpenSpec.upto blakeChunksSpec)

end Rows
end Go.Proofs.YtcbogkpgkdijaaaDoor
