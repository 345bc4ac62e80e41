/- Layer sha, plainly: the numbers of the rounds, part 3 of 4. -/
import Derived.Test.YtcbogkpgkdijaaaDoorShaK
namespace Go.Proofs.YtcbogkpgkdijaaaDoor.ShaK
theorem k32 : kl 137 35 0 = some 666307205 := by decide +kernel
theorem k33 : kl 139 35 0 = some 773529912 := by decide +kernel
theorem k34 : kl 149 35 0 = some 1294757372 := by decide +kernel
theorem k35 : kl 151 35 0 = some 1396182291 := by decide +kernel
theorem k36 : kl 157 35 0 = some 1695183700 := by decide +kernel
theorem k37 : kl 163 35 0 = some 1986661051 := by decide +kernel
theorem k38 : kl 167 35 0 = some 2177026350 := by decide +kernel
theorem k39 : kl 173 35 0 = some 2456956037 := by decide +kernel
theorem k40 : kl 179 35 0 = some 2730485921 := by decide +kernel
theorem k41 : kl 181 35 0 = some 2820302411 := by decide +kernel
theorem k42 : kl 191 35 0 = some 3259730800 := by decide +kernel
theorem k43 : kl 193 35 0 = some 3345764771 := by decide +kernel
theorem k44 : kl 197 35 0 = some 3516065817 := by decide +kernel
theorem k45 : kl 199 35 0 = some 3600352804 := by decide +kernel
theorem k46 : kl 211 35 0 = some 4094571909 := by decide +kernel
theorem k47 : kl 223 35 0 = some 275423344 := by decide +kernel
end Go.Proofs.YtcbogkpgkdijaaaDoor.ShaK
