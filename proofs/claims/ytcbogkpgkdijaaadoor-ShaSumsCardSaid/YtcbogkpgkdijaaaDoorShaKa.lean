/- Layer sha, plainly: the numbers of the rounds, part 1 of 4. -/
import Derived.Test.YtcbogkpgkdijaaaDoorShaK
namespace Go.Proofs.YtcbogkpgkdijaaaDoor.ShaK
theorem k0 : kl 2 35 0 = some 1116352408 := by decide +kernel
theorem k1 : kl 3 35 0 = some 1899447441 := by decide +kernel
theorem k2 : kl 5 35 0 = some 3049323471 := by decide +kernel
theorem k3 : kl 7 35 0 = some 3921009573 := by decide +kernel
theorem k4 : kl 11 35 0 = some 961987163 := by decide +kernel
theorem k5 : kl 13 35 0 = some 1508970993 := by decide +kernel
theorem k6 : kl 17 35 0 = some 2453635748 := by decide +kernel
theorem k7 : kl 19 35 0 = some 2870763221 := by decide +kernel
theorem k8 : kl 23 35 0 = some 3624381080 := by decide +kernel
theorem k9 : kl 29 35 0 = some 310598401 := by decide +kernel
theorem k10 : kl 31 35 0 = some 607225278 := by decide +kernel
theorem k11 : kl 37 35 0 = some 1426881987 := by decide +kernel
theorem k12 : kl 41 35 0 = some 1925078388 := by decide +kernel
theorem k13 : kl 43 35 0 = some 2162078206 := by decide +kernel
theorem k14 : kl 47 35 0 = some 2614888103 := by decide +kernel
theorem k15 : kl 53 35 0 = some 3248222580 := by decide +kernel
end Go.Proofs.YtcbogkpgkdijaaaDoor.ShaK
