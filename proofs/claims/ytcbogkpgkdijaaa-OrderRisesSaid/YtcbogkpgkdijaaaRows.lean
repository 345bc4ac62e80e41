/-
  No cell of these rows narrows 'for every input' (looked for: loops, veiled, ifaces, maps, wideKeys, modest, calm, conditions, laid).
  DERIVED. THE GIVEN ROWS OF THIS SEAT. 6 by the template 'for every input the law returns true; each argument reads behind the call as it read before'; 0 by the template 'total and deterministic' (their statements: YtcbogkpgkdijaaaTotals.lean).
  GIVEN WITH THE SEED: the statements are not yours to turn. If you find one false, say at which input.
  Laid BY PROGRAM, IN A SANDBOX (cutbox-rows.mjs): the forced cells as the released guide's own fill.sh prints them over the translation a32d63008fb34940… (all of the seat's roots in one cut). By AI agents, Wed Nov 11 2026. No macro, syntax, notation, axiom, sorry.
-/
import Derived.Test.YtcbogkpgkdijaaaChecked
import GoSem.Claim
import GoSem.ClaimJoined
import GoSem.ClaimMapViews
import Derived.JoinedTies
import Derived.KernelRfl
namespace Go.Proofs.Ytcbogkpgkdijaaa
/- THE CELL 'sum', in the pinned program and in every row, IS THE sha256 OF THE DUMP (.gsa) THAT YtcbogkpgkdijaaaProg.lean LOADS. Nothing in Lean hashes anything: it is a label: what it is worth is what the hold of that sum in a sandbox is worth. -/
noncomputable def Try.pinned : Pinned := { name := "ytcbogkpgkdijaaa", sum := "a32d63008fb349404a5be7fb931b3c74d894c9a28d8e13700e9a4485b0495d14", checked := Try.checked }
namespace Rows
def none {H : Type} : Left H := { results := [], args := [] }

/-- 'ullagelaw01.BitsTurn': WHATEVER THE INPUT: true; the input reads as it did. -/
def bitsTurnSpec : ChangeSpec := { name := "bitsTurn", fn := fun _ => fun
  | [d1, d2, d3] => { results := [.lit (.bool true)], args := [d1, d2, d3] }
  | _ => none }
def bitsTurnRow : OpenClaim := { program := "ytcbogkpgkdijaaa", sum := "a32d63008fb349404a5be7fb931b3c74d894c9a28d8e13700e9a4485b0495d14", func := "ullage/ullagelaw01.BitsTurn", spec := "bitsTurn", apart := false }
def BitsTurnSaid : Prop := bitsTurnRow.holds Try.pinned (OpenSpec.ofChange bitsTurnSpec)

/-- ITS FALSE NEIGHBOUR: 'it returns false'. Refute it at one input. -/
def bitsTurnWrong : ChangeSpec := { name := "bitsTurn", fn := fun _ => fun
  | [d1, d2, d3] => { results := [.lit (.bool false)], args := [d1, d2, d3] }
  | _ => none }
def BitsTurnWrongFalsely : Prop := bitsTurnRow.holds Try.pinned (OpenSpec.ofChange bitsTurnWrong)

/-- 'ullagelaw01.BitsLay': WHATEVER THE INPUT: true; the input reads as it did. -/
def bitsLaySpec : ChangeSpec := { name := "bitsLay", fn := fun _ => fun
  | [d1, d2, d3] => { results := [.lit (.bool true)], args := [d1, d2, d3] }
  | _ => none }
def bitsLayRow : OpenClaim := { program := "ytcbogkpgkdijaaa", sum := "a32d63008fb349404a5be7fb931b3c74d894c9a28d8e13700e9a4485b0495d14", func := "ullage/ullagelaw01.BitsLay", spec := "bitsLay", apart := false }
def BitsLaySaid : Prop := bitsLayRow.holds Try.pinned (OpenSpec.ofChange bitsLaySpec)

/-- ITS FALSE NEIGHBOUR: 'it returns false'. Refute it at one input. -/
def bitsLayWrong : ChangeSpec := { name := "bitsLay", fn := fun _ => fun
  | [d1, d2, d3] => { results := [.lit (.bool false)], args := [d1, d2, d3] }
  | _ => none }
def BitsLayWrongFalsely : Prop := bitsLayRow.holds Try.pinned (OpenSpec.ofChange bitsLayWrong)

/-- 'ullagelaw10.OrderPlays': WHATEVER THE INPUT: true; the input reads as it did. -/
def orderPlaysSpec : ChangeSpec := { name := "orderPlays", fn := fun _ => fun
  | [d1, d2] => { results := [.lit (.bool true)], args := [d1, d2] }
  | _ => none }
def orderPlaysRow : OpenClaim := { program := "ytcbogkpgkdijaaa", sum := "a32d63008fb349404a5be7fb931b3c74d894c9a28d8e13700e9a4485b0495d14", func := "ullage/ullagelaw10.OrderPlays", spec := "orderPlays", inPlace := ["internal/bytealg.Compare"], apart := false }
def OrderPlaysSaid : Prop := orderPlaysRow.holds Try.pinned (OpenSpec.ofChange orderPlaysSpec)

/-- ITS FALSE NEIGHBOUR: 'it returns false'. Refute it at one input. -/
def orderPlaysWrong : ChangeSpec := { name := "orderPlays", fn := fun _ => fun
  | [d1, d2] => { results := [.lit (.bool false)], args := [d1, d2] }
  | _ => none }
def OrderPlaysWrongFalsely : Prop := orderPlaysRow.holds Try.pinned (OpenSpec.ofChange orderPlaysWrong)

/-- 'ullagelaw10.OrderRises': WHATEVER THE INPUT: true; the input reads as it did. -/
def orderRisesSpec : ChangeSpec := { name := "orderRises", fn := fun _ => fun
  | [d] => { results := [.lit (.bool true)], args := [d] }
  | _ => none }
def orderRisesRow : OpenClaim := { program := "ytcbogkpgkdijaaa", sum := "a32d63008fb349404a5be7fb931b3c74d894c9a28d8e13700e9a4485b0495d14", func := "ullage/ullagelaw10.OrderRises", spec := "orderRises", inPlace := ["internal/bytealg.Compare"], apart := false }
def OrderRisesSaid : Prop := orderRisesRow.holds Try.pinned (OpenSpec.ofChange orderRisesSpec)

/-- ITS FALSE NEIGHBOUR: 'it returns false'. Refute it at one input. -/
def orderRisesWrong : ChangeSpec := { name := "orderRises", fn := fun _ => fun
  | [d] => { results := [.lit (.bool false)], args := [d] }
  | _ => none }
def OrderRisesWrongFalsely : Prop := orderRisesRow.holds Try.pinned (OpenSpec.ofChange orderRisesWrong)

/-- 'ullagelaw04.UtfTells': WHATEVER THE INPUT: true; the input reads as it did. -/
def utfTellsSpec : ChangeSpec := { name := "utfTells", fn := fun _ => fun
  | [d] => { results := [.lit (.bool true)], args := [d] }
  | _ => none }
def utfTellsRow : OpenClaim := { program := "ytcbogkpgkdijaaa", sum := "a32d63008fb349404a5be7fb931b3c74d894c9a28d8e13700e9a4485b0495d14", func := "ullage/ullagelaw04.UtfTells", spec := "utfTells", apart := false }
def UtfTellsSaid : Prop := utfTellsRow.holds Try.pinned (OpenSpec.ofChange utfTellsSpec)

/-- ITS FALSE NEIGHBOUR: 'it returns false'. Refute it at one input. -/
def utfTellsWrong : ChangeSpec := { name := "utfTells", fn := fun _ => fun
  | [d] => { results := [.lit (.bool false)], args := [d] }
  | _ => none }
def UtfTellsWrongFalsely : Prop := utfTellsRow.holds Try.pinned (OpenSpec.ofChange utfTellsWrong)

/-- 'ullagelaw04.UtfJoins': WHATEVER THE INPUT: true; the input reads as it did. -/
def utfJoinsSpec : ChangeSpec := { name := "utfJoins", fn := fun _ => fun
  | [d1, d2] => { results := [.lit (.bool true)], args := [d1, d2] }
  | _ => none }
def utfJoinsRow : OpenClaim := { program := "ytcbogkpgkdijaaa", sum := "a32d63008fb349404a5be7fb931b3c74d894c9a28d8e13700e9a4485b0495d14", func := "ullage/ullagelaw04.UtfJoins", spec := "utfJoins", apart := false }
def UtfJoinsSaid : Prop := utfJoinsRow.holds Try.pinned (OpenSpec.ofChange utfJoinsSpec)

/-- ITS FALSE NEIGHBOUR: 'it returns false'. Refute it at one input. -/
def utfJoinsWrong : ChangeSpec := { name := "utfJoins", fn := fun _ => fun
  | [d1, d2] => { results := [.lit (.bool false)], args := [d1, d2] }
  | _ => none }
def UtfJoinsWrongFalsely : Prop := utfJoinsRow.holds Try.pinned (OpenSpec.ofChange utfJoinsWrong)

/- THE SECOND FORM. 'bulk': how many values and letters a reading holds, each counted each time it is reached (what is shared counts as often as it is met; a slice's spare places count too). A statement '..UptoSaid' is the law's where the arguments, and the package variables that the reading takes, are together of bulk at most 1048576: NARROWER than '..Said'. Prove '..Said' where nothing that the law and all that it calls make is longer than what came in: it says more and counts as full. Else prove '..UptoSaid'. A law counts once. -/
mutual
def uptoBulk {H : Type} : DataW H → Nat
  | .lit (.string bytes) => bytes.length + 1
  | .lit _ => 1
  | .nil => 1
  | .ptr d => uptoBulk d + 1
  | .slice elems spare => uptoBulkAll elems + uptoBulkAll spare + 1
  | .agg parts => uptoBulkAll parts + 1
  | .iface _ d => uptoBulk d + 1
  | .map entries => uptoBulkEntries entries + 1
  | .held _ => 1
def uptoBulkAll {H : Type} : List (DataW H) → Nat
  | [] => 0
  | d :: r => uptoBulk d + uptoBulkAll r
def uptoBulkEntries {H : Type} : List (Lit × DataW H) → Nat
  | [] => 0
  | x :: r => uptoBulkEntry x + uptoBulkEntries r
def uptoBulkEntry {H : Type} : Lit × DataW H → Nat
  | (.string bytes, d) => bytes.length + uptoBulk d + 1
  | (_, d) => uptoBulk d + 1
 end
def uptoSmall : (H : Type) → List (DataW H) → Bool := fun _ ds => decide (uptoBulkAll ds ≤ 1048576)
def OpenSpec.upto (s : _root_.Go.ChangeSpec) : _root_.Go.OpenSpec := { _root_.Go.OpenSpec.ofChange s with cond := some uptoSmall }

/-- 'ullagelaw01.BitsTurn', WHERE WHAT IT READS IS OF BULK AT MOST 1048576: true; the input reads as it did. -/
def bitsTurnUptoRow : OpenClaim := { program := "ytcbogkpgkdijaaa", sum := "a32d63008fb349404a5be7fb931b3c74d894c9a28d8e13700e9a4485b0495d14", func := "ullage/ullagelaw01.BitsTurn", spec := "bitsTurn", apart := false, narrowed := true }
def BitsTurnUptoSaid : Prop := bitsTurnUptoRow.holds Try.pinned (OpenSpec.upto bitsTurnSpec)

/-- 'ullagelaw01.BitsLay', WHERE WHAT IT READS IS OF BULK AT MOST 1048576: true; the input reads as it did. -/
def bitsLayUptoRow : OpenClaim := { program := "ytcbogkpgkdijaaa", sum := "a32d63008fb349404a5be7fb931b3c74d894c9a28d8e13700e9a4485b0495d14", func := "ullage/ullagelaw01.BitsLay", spec := "bitsLay", apart := false, narrowed := true }
def BitsLayUptoSaid : Prop := bitsLayUptoRow.holds Try.pinned (OpenSpec.upto bitsLaySpec)

/-- 'ullagelaw10.OrderPlays', WHERE WHAT IT READS IS OF BULK AT MOST 1048576: true; the input reads as it did. -/
def orderPlaysUptoRow : OpenClaim := { program := "ytcbogkpgkdijaaa", sum := "a32d63008fb349404a5be7fb931b3c74d894c9a28d8e13700e9a4485b0495d14", func := "ullage/ullagelaw10.OrderPlays", spec := "orderPlays", inPlace := ["internal/bytealg.Compare"], apart := false, narrowed := true }
def OrderPlaysUptoSaid : Prop := orderPlaysUptoRow.holds Try.pinned (OpenSpec.upto orderPlaysSpec)

/-- 'ullagelaw10.OrderRises', WHERE WHAT IT READS IS OF BULK AT MOST 1048576: true; the input reads as it did. -/
def orderRisesUptoRow : OpenClaim := { program := "ytcbogkpgkdijaaa", sum := "a32d63008fb349404a5be7fb931b3c74d894c9a28d8e13700e9a4485b0495d14", func := "ullage/ullagelaw10.OrderRises", spec := "orderRises", inPlace := ["internal/bytealg.Compare"], apart := false, narrowed := true }
def OrderRisesUptoSaid : Prop := orderRisesUptoRow.holds Try.pinned (OpenSpec.upto orderRisesSpec)

/-- 'ullagelaw04.UtfTells', WHERE WHAT IT READS IS OF BULK AT MOST 1048576: true; the input reads as it did. -/
def utfTellsUptoRow : OpenClaim := { program := "ytcbogkpgkdijaaa", sum := "a32d63008fb349404a5be7fb931b3c74d894c9a28d8e13700e9a4485b0495d14", func := "ullage/ullagelaw04.UtfTells", spec := "utfTells", apart := false, narrowed := true }
def UtfTellsUptoSaid : Prop := utfTellsUptoRow.holds Try.pinned (OpenSpec.upto utfTellsSpec)

/-- 'ullagelaw04.UtfJoins', WHERE WHAT IT READS IS OF BULK AT MOST 1048576: true; the input reads as it did. -/
def utfJoinsUptoRow : OpenClaim := { program := "ytcbogkpgkdijaaa", sum := "a32d63008fb349404a5be7fb931b3c74d894c9a28d8e13700e9a4485b0495d14", func := "ullage/ullagelaw04.UtfJoins", spec := "utfJoins", apart := false, narrowed := true }
def UtfJoinsUptoSaid : Prop := utfJoinsUptoRow.holds Try.pinned (OpenSpec.upto utfJoinsSpec)

end Rows
end Go.Proofs.Ytcbogkpgkdijaaa
