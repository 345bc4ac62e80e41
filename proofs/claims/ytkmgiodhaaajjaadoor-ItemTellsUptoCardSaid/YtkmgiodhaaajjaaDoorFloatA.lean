/- Walks of layer float: the forms. -/
import Derived.Test.YtkmgiodhaaajjaaDoorProg
import Derived.Test.YtkmgiodhaaajjaaDoorMem
import Derived.Test.YtkmgiodhaaajjaaDoorNum
import Derived.Test.YtkmgiodhaaajjaaDoorFloatR
import Derived.Deep.QuietTactic
import Derived.BigQuiet
import Derived.RegionTactic
import Derived.Deep.RegionHeld3
import Derived.Deep.OwnRows
import Derived.Laws.ResultCell
import Derived.OwnWalk
set_option linter.unusedVariables false
set_option linter.unusedSimpArgs false
namespace Go.Proofs.YtkmgiodhaaajjaaDoor.FloatA
open Go.RowKit Go.Proofs.YtkmgiodhaaajjaaDoor.Mem Go.Proofs.YtkmgiodhaaajjaaDoor.Num Go.Proofs.YtkmgiodhaaajjaaDoor.FloatP

/-- A form as a value. -/
abbrev fm (eb fb : Nat) : Value := .agg #[.int .i64 eb, .int .i64 fb]

theorem top11_calls (w : World) : Calls Tryd.prog 127 #[.agg #[.int .i64 11, .int .i64 52]] w (fun e w' => e = .returned (.int .u64 2047) ∧ Fr (fun _ => False) w w') := by
  go_enter Tryd.func127, Tryd.ntmps127
  go_wp2_with fail
  go_ret
  exact ⟨rfl, (Fr.refl _ _).alloc _⟩
theorem top8_calls (w : World) : Calls Tryd.prog 127 #[.agg #[.int .i64 8, .int .i64 23]] w (fun e w' => e = .returned (.int .u64 255) ∧ Fr (fun _ => False) w w') := by
  go_enter Tryd.func127, Tryd.ntmps127
  go_wp2_with fail
  go_ret
  exact ⟨rfl, (Fr.refl _ _).alloc _⟩
theorem top5_calls (w : World) : Calls Tryd.prog 127 #[.agg #[.int .i64 5, .int .i64 10]] w (fun e w' => e = .returned (.int .u64 31) ∧ Fr (fun _ => False) w w') := by
  go_enter Tryd.func127, Tryd.ntmps127
  go_wp2_with fail
  go_ret
  exact ⟨rfl, (Fr.refl _ _).alloc _⟩

theorem load_two (w : World) (a b : Int) : Sem.run Tryd.prog (loadCells { block := w.heap.size, off := 0 } 2) (w.alloc (.cells #[.int .i64 a, .int .i64 b] 170)) = .ok #[.int .i64 a, .int .i64 b] (w.alloc (.cells #[.int .i64 a, .int .i64 b] 170)) :=
  run_loadCells_list _ _ [.int .i64 a, .int .i64 b] (fun j v h => by
    have hb := Blk.cell (Blk.new w 170 #[.int .i64 a, .int .i64 b]) j
    rw [add_plain]
    simp only [Nat.zero_add]
    rw [hb]
    simpa using h)
theorem ret_iii {k1 k2 k3 : IntKind} {a b c a' b' c' : Int} (h1 : a = a') (h2 : b = b') (h3 : c = c') :
    Ending.returned (.tuple #[.int k1 a, .int k2 b, .int k3 c]) = Ending.returned (.tuple #[.int k1 a', .int k2 b', .int k3 c']) := by subst h1 h2 h3; rfl
theorem mask_nat (i : Nat) (xi : Int) (x : Nat) (m : Int) (hi : i ≤ 64) (hx : x < 2 ^ 64) (hxi : xi = x) (hm : m = 2 ^ i - 1) : Go.bits .and .u64 xi m = ((x % 2 ^ i : Nat) : Int) := by
  subst hm hxi
  rw [and_mask i hi x (by omega) (by exact_mod_cast hx)]
  simp
theorem split11_calls (w : World) (x : Nat) (hx : x < 2 ^ 64) (s e m : Nat) (hs : x / 2 ^ 63 = s) (he : x / 2 ^ 52 % 2 ^ 11 = e) (hm : x % 2 ^ 52 = m) : Calls Tryd.prog 126 #[.agg #[.int .i64 11, .int .i64 52], .int .u64 x] w
    (fun e' w' => e' = .returned (.tuple #[.int .u64 s, .int .u64 e, .int .u64 m]) ∧ Fr (fun _ => False) w w') := by
  subst hs he hm
  go_enter Tryd.func126, Tryd.ntmps126
  go_wp2_with fail
  go_quiet (fail)
  go_wp2_with fail
  go_ret3
  exact ⟨ret_iii (by omega) (mask_nat 11 _ (x / 2 ^ 52) _ (by decide) (by omega) (by omega) (by decide)) (mask_nat 52 _ x _ (by decide) hx rfl (by decide)), ((Fr.refl _ _).alloc _).drewN _⟩
theorem split8_calls (w : World) (x : Nat) (hx : x < 2 ^ 64) (s e m : Nat) (hs : x / 2 ^ 31 = s) (he : x / 2 ^ 23 % 2 ^ 8 = e) (hm : x % 2 ^ 23 = m) : Calls Tryd.prog 126 #[.agg #[.int .i64 8, .int .i64 23], .int .u64 x] w
    (fun e' w' => e' = .returned (.tuple #[.int .u64 s, .int .u64 e, .int .u64 m]) ∧ Fr (fun _ => False) w w') := by
  subst hs he hm
  go_enter Tryd.func126, Tryd.ntmps126
  go_wp2_with fail
  go_quiet (fail)
  go_wp2_with fail
  go_ret3
  exact ⟨ret_iii (by omega) (mask_nat 8 _ (x / 2 ^ 23) _ (by decide) (by omega) (by omega) (by decide)) (mask_nat 23 _ x _ (by decide) hx rfl (by decide)), ((Fr.refl _ _).alloc _).drewN _⟩
theorem split5_calls (w : World) (x : Nat) (hx : x < 2 ^ 64) (s e m : Nat) (hs : x / 2 ^ 15 = s) (he : x / 2 ^ 10 % 2 ^ 5 = e) (hm : x % 2 ^ 10 = m) : Calls Tryd.prog 126 #[.agg #[.int .i64 5, .int .i64 10], .int .u64 x] w
    (fun e' w' => e' = .returned (.tuple #[.int .u64 s, .int .u64 e, .int .u64 m]) ∧ Fr (fun _ => False) w w') := by
  subst hs he hm
  go_enter Tryd.func126, Tryd.ntmps126
  go_wp2_with fail
  go_quiet (fail)
  go_wp2_with fail
  go_ret3
  exact ⟨ret_iii (by omega) (mask_nat 5 _ (x / 2 ^ 10) _ (by decide) (by omega) (by omega) (by decide)) (mask_nat 10 _ x _ (by decide) hx rfl (by decide)), ((Fr.refl _ _).alloc _).drewN _⟩
end Go.Proofs.YtkmgiodhaaajjaaDoor.FloatA
