/- strconv.Itoa at this program, and its table. -/
import Derived.Test.YtkmgiodhaaajjaaDoorDec
import Derived.Test.YtkmgiodhaaajjaaDoorShelf
import Derived.Lib.LaidTab
set_option linter.unusedVariables false
set_option linter.unusedSimpArgs false
namespace Go.Proofs.YtkmgiodhaaajjaaDoor.Itoa
open Go.RowKit Go.Proofs.YtkmgiodhaaajjaaDoor.Mem Go.Proofs.YtkmgiodhaaajjaaDoor.Txt

theorem gP : Tryd.prog.globalNamed "internal/strconv.uint64pow10" = some 3 := by kernel_rfl
theorem gPt : (Tryd.prog.globals[3]?).map (·.type) = some 211 := by kernel_rfl
/-- The table of the powers of ten, as the program lays it. -/
def Tab (w : World) : Prop := Lib.TabIs Tryd.prog w "internal/strconv.uint64pow10" .u64 Lib.pow10Tab
theorem Tab.blk {w : World} (h : Tab w) : ∃ cs t fz, w.heap[3]? = some (.cells cs t fz) := by
  unfold Tab Lib.TabIs World.var? at h
  rw [gP] at h
  simp only [Option.bind_some] at h
  split at h
  · rename_i cs t fz hb
    exact ⟨cs, t, fz, hb⟩
  · cases h
theorem Tab.lt {w : World} (h : Tab w) : 3 < w.heap.size := by
  obtain ⟨cs, t, fz, hb⟩ := h.blk
  exact (Array.getElem?_eq_some_iff.1 hb).1
theorem Tab.fr {S : Nat → Prop} {w w' : World} (h : Tab w) (hf : Fr S w w') (hS : ¬ S 3) : Tab w' := by
  have e := hf.block _ h.lt hS
  unfold Tab Lib.TabIs World.var? at h ⊢
  rw [gP] at h ⊢
  simp only [Option.bind_some] at h ⊢
  rw [e]
  exact h
theorem Tab.fr0 {w w' : World} (h : Tab w) (hf : Fr (fun _ => False) w w') : Tab w' := h.fr hf (fun h => h)
theorem Fr.grow (S : Nat → Prop) (w : World) (os : Array Obj) : Fr S w (Go.Sort.grow w os) :=
  ⟨rfl, rfl, rfl, by simp [Go.Sort.grow], fun k hk _ => by simp [Go.Sort.grow, Array.getElem?_append, hk]⟩
theorem itoa_calls (n : Int) (w : World) (h0 : -9223372036854775808 ≤ n) (h1 : n ≤ 9223372036854775807) (h : Tab w) :
    Calls Tryd.prog 86 #[.int .i64 n] w fun e w' => e = .returned (.string (txt (Lib.itoa n))) ∧ Fr (fun _ => False) w w' := by
  refine (Tryd.strconv_Itoa n h0 h1 w h).mono ?_
  rintro e w' ⟨rfl, k, os, rfl⟩
  exact ⟨rfl, ((Fr.refl _ w).drewN k).trans (Fr.grow _ _ os)⟩
end Go.Proofs.YtkmgiodhaaajjaaDoor.Itoa
