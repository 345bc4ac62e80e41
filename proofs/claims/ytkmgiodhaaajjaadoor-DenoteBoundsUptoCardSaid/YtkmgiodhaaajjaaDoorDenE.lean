/- Layer denote: one of the nodes of a choice. -/
import Derived.Test.YtkmgiodhaaajjaaDoorDenA
set_option linter.unusedVariables false
set_option linter.unusedSimpArgs false
namespace Go.Proofs.YtkmgiodhaaajjaaDoor.DenE
open Go.IntWalk Go.RowKit Go.Proofs.YtkmgiodhaaajjaaDoor.Mem Go.Proofs.YtkmgiodhaaajjaaDoor.App Go.Proofs.YtkmgiodhaaajjaaDoor.ItemP Go.Proofs.YtkmgiodhaaajjaaDoor.ItemM Go.Proofs.YtkmgiodhaaajjaaDoor.ItemB Go.Proofs.YtkmgiodhaaajjaaDoor.SchP Go.Proofs.YtkmgiodhaaajjaaDoor.SchM Go.Proofs.YtkmgiodhaaajjaaDoor.SchD Go.Proofs.YtkmgiodhaaajjaaDoor.DenP

set_option maxRecDepth 20000 in
set_option maxHeartbeats 2000000 in
theorem four_calls (w0 w : World) (hf : Fr (fun _ => False) w0 w) (A : Option Addr) (M c gs gx : Nat) (x0 x1 x2 x3 : Value) (k : Int) (b : Bool) (hs : w0.cell? ⟨gs, 0, none⟩ = some (.slice A M c)) (hx0 : w0.cell? ⟨gx, 0, none⟩ = some x0) (hx1 : w0.cell? ⟨gx, 1, none⟩ = some x1) (hx2 : w0.cell? ⟨gx, 2, none⟩ = some x2) (hx3 : w0.cell? ⟨gx, 3, none⟩ = some x3)
    (hma : ∀ w', Fr (fun _ => False) w0 w' → Calls Tryd.prog 83 #[.agg #[.slice A M c], .int .i64 k, .agg #[x0, x1, x2, x3]] w' fun e w'' => e = .returned (.bool b) ∧ Fr (fun _ => False) w' w'') :
    Calls Tryd.prog 115 #[.int .i64 k, .pointer (some ⟨gs, 0, none⟩), .pointer (some ⟨gx, 0, none⟩)] w fun e w' => e = .returned (.bool b) ∧ Fr (fun _ => False) w w' := by
  have d0 := cell_fr hs hf
  have d1 := cell_fr hx0 hf
  have d2 := cell_fr hx1 hf
  have d3 := cell_fr hx2 hf
  have d4 := cell_fr hx3 hf
  have HC := hid (hma w hf)
  clear hs hx0 hx1 hx2 hx3 hma hf
  go_enter Tryd.func115, Tryd.ntmps115
  go_wp2_with fail
  refine HC.out.mono ?_
  rintro e w2 ⟨rfl, hf⟩
  have HF := hid hf
  clear hf
  go_wp2_with fail
  go_ret
  exact ⟨rfl, HF.out⟩

set_option maxRecDepth 20000 in
set_option maxHeartbeats 2000000 in
theorem idx4_calls (w0 : World) (Al : Option Addr) (n cl : Nat) (xs : List Int) (A : Option Addr) (M c gs gx : Nat) (x0 x1 x2 x3 : Value) (G : Int → Bool) (hn : xs.length = n) (hc : n ≤ cl) (hl : n ≤ 140737488355328) (hxs : RdI .i64 w0 Al xs)
    (hs : w0.cell? ⟨gs, 0, none⟩ = some (.slice A M c)) (hx0 : w0.cell? ⟨gx, 0, none⟩ = some x0) (hx1 : w0.cell? ⟨gx, 1, none⟩ = some x1) (hx2 : w0.cell? ⟨gx, 2, none⟩ = some x2) (hx3 : w0.cell? ⟨gx, 3, none⟩ = some x3)
    (hma : ∀ w', Fr (fun _ => False) w0 w' → ∀ k ∈ xs, Calls Tryd.prog 83 #[.agg #[.slice A M c], .int .i64 k, .agg #[x0, x1, x2, x3]] w' fun e w'' => e = .returned (.bool (G k)) ∧ Fr (fun _ => False) w' w'') :
    Calls Tryd.prog 131 #[.slice Al n cl, .func (.func 115) #[] #[.pointer (some ⟨gs, 0, none⟩), .pointer (some ⟨gx, 0, none⟩)]] w0 fun e w' => Idx (xs.any G) e ∧ Fr (fun _ => False) w0 w' := by
  have HN := hid hn
  have HX := hid hxs
  have HC := hid (fun w' (hf : Fr (fun _ => False) w0 w') k (hk : k ∈ xs) => four_calls w0 w' hf A M c gs gx x0 x1 x2 x3 k (G k) hs hx0 hx1 hx2 hx3 (fun w'' hf' => hma w'' hf' k hk))
  clear hn hxs hs hx0 hx1 hx2 hx3 hma
  go_enter Tryd.func131, Tryd.ntmps131
  go_wp2_with fail
  go_loopw [8] (fun v wr => ∃ j : Nat, j ≤ n ∧ v = .int .i64 j ∧ Hid (∀ q, q < j → G (xs.getD q 0) = false) ∧ Hid (Fr (fun _ => False) w0 wr)) (fun v _ => n - (intOf v).toNat)
  case atStart => exact ⟨0, Nat.zero_le _, rfl, hid (fun q hq => by omega), hid (Fr.refl _ _)⟩
  case round =>
    obtain ⟨j, hj, rfl, HA, HF⟩ := hrel
    by_cases hlt : j < n
    · obtain ⟨ax, rfl, _, cx⟩ := (HX.out.fr0 HF.out) j (by rw [HN.out]; exact hlt)
      obtain ⟨x, hx⟩ : ∃ x, xs.getD j 0 = x := ⟨_, rfl⟩
      have HXM := hid (show x ∈ xs by rw [← hx]; exact getD_mem (by rw [HN.out]; exact hlt))
      rw [hx] at cx
      have HXE := hid hx
      have hj0 : (0 : Int) ≤ (j : Int) := by omega
      have hjm : (j : Int) < (n : Int) := by omega
      have hjc : (j : Int) < (cl : Int) := by omega
      clear hx
      go_wp2_with fail
      refine (HC.out wr HF.out x HXM.out).mono ?_
      rintro e w2 ⟨rfl, hf⟩
      have HF2 := hid (HF.out.then_ hf (fun _ _ h => h))
      clear hf
      obtain ⟨b, hb⟩ : ∃ b, G x = b := ⟨_, rfl⟩
      have HB := hid hb
      rw [hb]
      clear hb
      cases b with
      | true =>
        go_wp2_with fail
        go_ret
        refine ⟨⟨j, rfl, ?_⟩, HF2.out⟩
        rw [decide_eq_true (by omega)]
        symm
        rw [List.any_eq_true]
        exact ⟨x, HXM.out, HB.out⟩
      | false =>
        go_wp2_with fail
        go_roundw
        case rel => exact ⟨j + 1, by omega, by go_num, hid (fun q hq => by
          by_cases h : q < j
          · exact HA.out q h
          · obtain rfl : q = j := by omega
            rw [HXE.out]; exact HB.out), HF2⟩
        case measure => simp [intOf]; omega
    · obtain rfl : j = n := by omega
      go_wp2_with fail
      go_ret
      refine ⟨⟨-1, rfl, ?_⟩, HF.out⟩
      rw [decide_eq_false (by omega)]
      symm
      rw [List.any_eq_false]
      intro x hx
      obtain ⟨q, hq, rfl⟩ := List.getElem_of_mem hx
      have := HA.out q (by rw [← HN.out]; exact hq)
      simp [List.getD_eq_getElem?_getD, List.getElem?_eq_getElem hq] at this
      simp [this]

set_option maxRecDepth 20000 in
set_option maxHeartbeats 2000000 in
theorem cont4_calls (w0 : World) (Al : Option Addr) (n cl : Nat) (xs : List Int) (A : Option Addr) (M c gs gx : Nat) (x0 x1 x2 x3 : Value) (G : Int → Bool) (hn : xs.length = n) (hc : n ≤ cl) (hl : n ≤ 140737488355328) (hxs : RdI .i64 w0 Al xs)
    (hs : w0.cell? ⟨gs, 0, none⟩ = some (.slice A M c)) (hx0 : w0.cell? ⟨gx, 0, none⟩ = some x0) (hx1 : w0.cell? ⟨gx, 1, none⟩ = some x1) (hx2 : w0.cell? ⟨gx, 2, none⟩ = some x2) (hx3 : w0.cell? ⟨gx, 3, none⟩ = some x3)
    (hma : ∀ w', Fr (fun _ => False) w0 w' → ∀ k ∈ xs, Calls Tryd.prog 83 #[.agg #[.slice A M c], .int .i64 k, .agg #[x0, x1, x2, x3]] w' fun e w'' => e = .returned (.bool (G k)) ∧ Fr (fun _ => False) w' w'') :
    Calls Tryd.prog 103 #[.slice Al n cl, .func (.func 115) #[] #[.pointer (some ⟨gs, 0, none⟩), .pointer (some ⟨gx, 0, none⟩)]] w0 fun e w' => e = .returned (.bool (xs.any G)) ∧ Fr (fun _ => False) w0 w' := by
  have HC := hid (idx4_calls w0 Al n cl xs A M c gs gx x0 x1 x2 x3 G hn hc hl hxs hs hx0 hx1 hx2 hx3 hma)
  obtain ⟨b, hb⟩ : ∃ b, xs.any G = b := ⟨_, rfl⟩
  rw [hb] at HC ⊢
  clear hn hxs hb hs hx0 hx1 hx2 hx3 hma
  go_enter Tryd.func103, Tryd.ntmps103
  go_wp2_with fail
  refine HC.out.mono ?_
  rintro e w2 ⟨⟨r, rfl, hr⟩, hf⟩
  have HR := hid hr
  have HF := hid hf
  clear hr hf
  go_wp2_with fail
  go_ret
  exact ⟨ret_bool HR.out, HF.out⟩
end Go.Proofs.YtkmgiodhaaajjaaDoor.DenE
