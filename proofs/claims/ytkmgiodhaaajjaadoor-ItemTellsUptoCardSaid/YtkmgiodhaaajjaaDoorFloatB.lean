/- Walks of layer float: NaN, narrower forms. -/
import Derived.Test.YtkmgiodhaaajjaaDoorFloatA
import Derived.IntWalk
set_option linter.unusedVariables false
set_option linter.unusedSimpArgs false
namespace Go.Proofs.YtkmgiodhaaajjaaDoor.FloatB
open Go.IntWalk Go.RowKit Go.Proofs.YtkmgiodhaaajjaaDoor.Mem Go.Proofs.YtkmgiodhaaajjaaDoor.Num Go.Proofs.YtkmgiodhaaajjaaDoor.FloatP Go.Proofs.YtkmgiodhaaajjaaDoor.FloatA

/-- The variable double. -/
structure Dbl (w : World) : Prop where
  c0 : w.cell? ⟨2, 0, none⟩ = some (.int .i64 11)
  c1 : w.cell? ⟨2, 1, none⟩ = some (.int .i64 52)
  lt : 2 < w.heap.size
theorem Dbl.fr {S : Nat → Prop} {w w' : World} (h : Dbl w) (hf : Fr S w w') (h0 : ¬ S 2) : Dbl w' :=
  ⟨(hf.cell (p := ⟨2, 0, none⟩) h.lt h0).trans h.c0, (hf.cell (p := ⟨2, 1, none⟩) h.lt h0).trans h.c1, Nat.lt_of_lt_of_le h.lt hf.size⟩
theorem Dbl.fr0 {w w' : World} (h : Dbl w) (hf : Fr (fun _ => False) w w') : Dbl w' := h.fr hf id

theorem blk2 {w : World} {g : Nat} {t : TypeId} {a b : Value} (h : Blk w g t #[a, b]) : w.cell? ⟨g, 0, none⟩ = some a ∧ w.cell? ⟨g, 1, none⟩ = some b := ⟨(h.cell 0).trans (by simp), (h.cell 1).trans (by simp)⟩

theorem nan_calls (w : World) (x : Nat) (hx : x < 2 ^ 64) (hd : Dbl w) : Calls Tryd.prog 95 #[.int .u64 x] w
    (fun e w' => e = .returned (.bool (nanB x)) ∧ Fr (fun _ => False) w w') := by
  have c0 := hd.c0
  have c1 := hd.c1
  have HD := hid hd
  have HX := hid hx
  obtain ⟨b, hb⟩ : ∃ b, nanB x = b := ⟨_, rfl⟩
  rw [hb]
  unfold nanB at hb
  obtain ⟨e, he⟩ : ∃ e, x / 2 ^ 52 % 2 ^ 11 = e := ⟨_, rfl⟩
  obtain ⟨m, hm⟩ : ∃ m, x % 2 ^ 52 = m := ⟨_, rfl⟩
  rw [he, hm] at hb
  have HE := hid he
  have HM := hid hm
  have HB := hid hb
  clear hd hx he hm hb
  go_enter Tryd.func95, Tryd.ntmps95
  go_wp2_with fail
  refine (split11_calls _ x HX.out _ e m rfl HE.out HM.out).mono ?_
  rintro e w1 ⟨rfl, hf1⟩
  have HF1 := hid hf1
  have HD1 := hid (HD.out.fr0 hf1)
  have c0' := HD1.out.c0
  have c1' := HD1.out.c1
  clear c0 c1 hf1
  go_wp2_with fail
  refine (top11_calls _).mono ?_
  rintro e w2 ⟨rfl, hf2⟩
  have HF2 := hid hf2
  clear hf2
  go_wp2_with fail
  · go_ret
    refine ⟨ret_bool ?_, (HF1.out.then_ HF2.out (fun _ _ h => h))⟩
    rw [← HB.out]
    rename_i h
    have h' : e = 2047 := by omega
    by_cases hm0 : m = 0 <;> simp [h', hm0]
  · rename_i h
    go_ret
    refine ⟨ret_bool ?_, (HF1.out.then_ HF2.out (fun _ _ h => h))⟩
    rw [← HB.out]
    simp
    omega
end Go.Proofs.YtkmgiodhaaajjaaDoor.FloatB
