/- Layer sha, plainly: the numbers of the rounds, part 2 of 4. -/
import Derived.Test.YtcbogkpgkdijaaaDoorShaK
namespace Go.Proofs.YtcbogkpgkdijaaaDoor.ShaK
theorem k16 : kl 59 35 0 = some 3835390401 := by decide +kernel
theorem k17 : kl 61 35 0 = some 4022224774 := by decide +kernel
theorem k18 : kl 67 35 0 = some 264347078 := by decide +kernel
theorem k19 : kl 71 35 0 = some 604807628 := by decide +kernel
theorem k20 : kl 73 35 0 = some 770255983 := by decide +kernel
theorem k21 : kl 79 35 0 = some 1249150122 := by decide +kernel
theorem k22 : kl 83 35 0 = some 1555081692 := by decide +kernel
theorem k23 : kl 89 35 0 = some 1996064986 := by decide +kernel
theorem k24 : kl 97 35 0 = some 2554220882 := by decide +kernel
theorem k25 : kl 101 35 0 = some 2821834349 := by decide +kernel
theorem k26 : kl 103 35 0 = some 2952996808 := by decide +kernel
theorem k27 : kl 107 35 0 = some 3210313671 := by decide +kernel
theorem k28 : kl 109 35 0 = some 3336571891 := by decide +kernel
theorem k29 : kl 113 35 0 = some 3584528711 := by decide +kernel
theorem k30 : kl 127 35 0 = some 113926993 := by decide +kernel
theorem k31 : kl 131 35 0 = some 338241895 := by decide +kernel
end Go.Proofs.YtcbogkpgkdijaaaDoor.ShaK
