/- Layer sha, plainly: what the digest computes. No program is named here. -/
import Derived.Test.YtcbogkpgkdijaaaDoorBitsB
set_option linter.unusedVariables false
set_option linter.unusedSimpArgs false
namespace Go.Proofs.YtcbogkpgkdijaaaDoor.ShaP
open Go.RowKit Go.Proofs.YtcbogkpgkdijaaaDoor.Mem Go.Proofs.YtcbogkpgkdijaaaDoor.Num Go.Proofs.YtcbogkpgkdijaaaDoor.BitsA Go.Proofs.YtcbogkpgkdijaaaDoor.BitsB

def X (a b : Int) : Int := Go.bits .xor .u32 a b
def A (a b : Int) : Int := Go.bits .and .u32 a b
def W (a : Int) : Int := IntKind.u32.wrap a
def N (a : Int) : Int := Go.bits .xor .u32 (if IntKind.u32.signed = true then -1 else IntKind.u32.max) a
/-- A number at a place. -/
def at_ (xs : List Int) (i : Nat) : Int := xs.getD i 0
def smallA (x : Int) : Int := X (X (ror 32 x 7) (ror 32 x 18)) (x / 8)
def smallB (y : Int) : Int := X (X (ror 32 y 17) (ror 32 y 19)) (y / 1024)
def word (xs w : List Int) (t : Nat) : Int :=
  if t < 16 then val (firstS (xs.drop (4 * t)) 4) % 4294967296
  else W (W (W (smallB (at_ w (t - 2)) + at_ w (t - 7)) + smallA (at_ w (t - 15))) + at_ w (t - 16))
/-- The words of a block, the first t of them. -/
def sched (xs : List Int) : Nat → List Int
  | 0 => List.replicate 64 0
  | t + 1 => (sched xs t).set t (word xs (sched xs t) t)
def turn (x : Int) (a b c : Int) : Int := X (X (ror 32 x a) (ror 32 x b)) (ror 32 x c)
def K : List Int := [1116352408, 1899447441, 3049323471, 3921009573, 961987163, 1508970993, 2453635748, 2870763221, 3624381080, 310598401, 607225278, 1426881987, 1925078388, 2162078206, 2614888103, 3248222580, 3835390401, 4022224774, 264347078, 604807628, 770255983, 1249150122, 1555081692, 1996064986, 2554220882, 2821834349, 2952996808, 3210313671, 3336571891, 3584528711, 113926993, 338241895, 666307205, 773529912, 1294757372, 1396182291, 1695183700, 1986661051, 2177026350, 2456956037, 2730485921, 2820302411, 3259730800, 3345764771, 3516065817, 3600352804, 4094571909, 275423344, 430227734, 506948616, 659060556, 883997877, 958139571, 1322822218, 1537002063, 1747873779, 1955562222, 2024104815, 2227730452, 2361852424, 2428436474, 2756734187, 3204031479, 3329325298]
def first8 : List Int := [1779033703, 3144134277, 1013904242, 2773480762, 1359893119, 2600822924, 528734635, 1541459225]
def t1 (w s : List Int) (t : Nat) : Int := ((at_ s 7 + turn (at_ s 4) 6 11 25 + X (A (at_ s 4) (at_ s 5)) (A (N (at_ s 4)) (at_ s 6)) + at_ K t) % 4294967296 + at_ w t) % 4294967296
def t2 (s : List Int) : Int := turn (at_ s 0) 2 13 22 + X (X (A (at_ s 0) (at_ s 1)) (A (at_ s 0) (at_ s 2))) (A (at_ s 1) (at_ s 2))
def round (w s : List Int) (t : Nat) : List Int :=
  [(t1 w s t + t2 s) % 4294967296, at_ s 0, at_ s 1, at_ s 2, (at_ s 3 + t1 w s t) % 4294967296, at_ s 4, at_ s 5, at_ s 6]
def rounds (w s : List Int) : Nat → List Int
  | 0 => s
  | t + 1 => round w (rounds w s t) t
/-- The sums of both, the first n of them. -/
def added (s v : List Int) : Nat → List Int
  | 0 => s
  | n + 1 => (added s v n).set n (W (at_ (added s v n) n + at_ v n))
def compress (s xs : List Int) : List Int := added s (rounds (sched xs 64) s 64) 8

/-- All are numbers of 32 bits. -/
def U (xs : List Int) : Prop := ∀ c ∈ xs, 0 ≤ c ∧ c < 4294967296
theorem U.at_ {xs : List Int} (h : U xs) (i : Nat) : 0 ≤ at_ xs i ∧ at_ xs i < 4294967296 := by
  unfold ShaP.at_
  rcases Nat.lt_or_ge i xs.length with hi | hi
  · rw [List.getD_eq_getElem?_getD, List.getElem?_eq_getElem hi]
    exact h _ (List.getElem_mem hi)
  · rw [List.getD_eq_getElem?_getD, List.getElem?_eq_none hi]; decide
theorem W_lt (a : Int) : 0 ≤ W a ∧ W a < 4294967296 := by unfold W; rw [wrap_u32]; omega
theorem U.set {xs : List Int} (h : U xs) (i : Nat) (v : Int) (hv : 0 ≤ v ∧ v < 4294967296) : U (xs.set i v) := by
  intro c hc
  rcases List.mem_or_eq_of_mem_set hc with h1 | rfl
  · exact h c h1
  · exact hv
theorem sched_length (xs : List Int) (t : Nat) : (sched xs t).length = 64 := by
  induction t with
  | zero => simp [sched]
  | succ t ih => simp [sched, ih]
theorem word_lt (xs w : List Int) (t : Nat) : 0 ≤ word xs w t ∧ word xs w t < 4294967296 := by
  unfold word
  by_cases h : t < 16
  · rw [if_pos h]; omega
  · rw [if_neg h]; exact W_lt _
theorem sched_U (xs : List Int) (t : Nat) : U (sched xs t) := by
  induction t with
  | zero => intro c hc; rw [List.eq_of_mem_replicate hc]; decide
  | succ t ih => exact ih.set _ _ (word_lt _ _ _)
theorem round_U {w s : List Int} (hs : U s) (t : Nat) : U (round w s t) := by
  intro c hc
  simp only [round, List.mem_cons, List.not_mem_nil, or_false] at hc
  rcases hc with rfl | rfl | rfl | rfl | rfl | rfl | rfl | rfl
  · omega
  · exact hs.at_ _
  · exact hs.at_ _
  · exact hs.at_ _
  · omega
  · exact hs.at_ _
  · exact hs.at_ _
  · exact hs.at_ _
theorem rounds_U {w s : List Int} (hs : U s) (t : Nat) : U (rounds w s t) := by
  induction t with
  | zero => exact hs
  | succ t ih => exact round_U ih t
theorem rounds_length {w s : List Int} (hs : s.length = 8) (t : Nat) : (rounds w s t).length = 8 := by
  cases t with
  | zero => exact hs
  | succ t => rfl
theorem added_length {s v : List Int} (n : Nat) : (added s v n).length = s.length := by
  induction n with
  | zero => rfl
  | succ n ih => simp [added, ih]
theorem added_U {s v : List Int} (hs : U s) (n : Nat) : U (added s v n) := by
  induction n with
  | zero => exact hs
  | succ n ih => exact ih.set _ _ (W_lt _)
theorem compress_length {s xs : List Int} (hs : s.length = 8) : (compress s xs).length = 8 := by unfold compress; rw [added_length, hs]
theorem compress_U {s xs : List Int} (hs : U s) : U (compress s xs) := added_U hs 8
theorem first8_U : U first8 := by unfold U first8; decide
theorem ror_lt (x n : Int) (h0 : 0 ≤ x) (hx : x < 4294967296) : 0 ≤ ror 32 x n ∧ ror 32 x n < 4294967296 := by
  have := rot_lt 32 ((-n) % ((32 : Nat) : Int)).toNat x.toNat (by omega) (by omega)
  unfold ror
  omega
end Go.Proofs.YtcbogkpgkdijaaaDoor.ShaP
