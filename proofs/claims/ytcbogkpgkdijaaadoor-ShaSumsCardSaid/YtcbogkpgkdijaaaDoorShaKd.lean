/- Layer sha, plainly: the numbers of the rounds, part 4 of 4. -/
import Derived.Test.YtcbogkpgkdijaaaDoorShaK
namespace Go.Proofs.YtcbogkpgkdijaaaDoor.ShaK
theorem k48 : kl 227 35 0 = some 430227734 := by decide +kernel
theorem k49 : kl 229 35 0 = some 506948616 := by decide +kernel
theorem k50 : kl 233 35 0 = some 659060556 := by decide +kernel
theorem k51 : kl 239 35 0 = some 883997877 := by decide +kernel
theorem k52 : kl 241 35 0 = some 958139571 := by decide +kernel
theorem k53 : kl 251 35 0 = some 1322822218 := by decide +kernel
theorem k54 : kl 257 35 0 = some 1537002063 := by decide +kernel
theorem k55 : kl 263 35 0 = some 1747873779 := by decide +kernel
theorem k56 : kl 269 35 0 = some 1955562222 := by decide +kernel
theorem k57 : kl 271 35 0 = some 2024104815 := by decide +kernel
theorem k58 : kl 277 35 0 = some 2227730452 := by decide +kernel
theorem k59 : kl 281 35 0 = some 2361852424 := by decide +kernel
theorem k60 : kl 283 35 0 = some 2428436474 := by decide +kernel
theorem k61 : kl 293 35 0 = some 2756734187 := by decide +kernel
theorem k62 : kl 307 35 0 = some 3204031479 := by decide +kernel
theorem k63 : kl 311 35 0 = some 3329325298 := by decide +kernel
end Go.Proofs.YtcbogkpgkdijaaaDoor.ShaK
