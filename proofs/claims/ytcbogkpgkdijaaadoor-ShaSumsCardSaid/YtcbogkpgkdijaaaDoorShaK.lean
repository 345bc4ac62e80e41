/- Layer sha, plainly: the document's search for the numbers of the rounds. -/
import Derived.Test.YtcbogkpgkdijaaaDoorPShaSumsx2
set_option linter.unusedVariables false
namespace Go.Proofs.YtcbogkpgkdijaaaDoor.ShaK
open Go.Proofs.YtcbogkpgkdijaaaDoor.PShaSums
/-- The search for a root: the bits that are left, what was found; none where the document's within would not end. -/
def kl (p : Int) : Nat → Int → Option Int
  | 0, a => some (a % 4294967296)
  | n + 1, a => match ullageref02_within.f 92 (IntKind.u64.wrap (a + IntKind.u64.wrap (2 ^ n))) p with
    | some true => kl p n (IntKind.u64.wrap (a + IntKind.u64.wrap (2 ^ n)))
    | some false => kl p n a
    | none => none
end Go.Proofs.YtcbogkpgkdijaaaDoor.ShaK
