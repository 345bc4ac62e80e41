/- Layer item: the law ItemTells: a region of the round. -/
import Derived.Test.YtkmgiodhaaajjaaDoorItemS
import Derived.Test.YtkmgiodhaaajjaaDoorItemW
import Derived.Test.YtkmgiodhaaajjaaDoorItemY
import Derived.Test.YtkmgiodhaaajjaaDoorRegIn
import Derived.Test.YtkmgiodhaaajjaaDoorItemTf
import Derived.Deep.RegionHeld3
set_option linter.unusedVariables false
set_option linter.unusedSimpArgs false
namespace Go.Proofs.YtkmgiodhaaajjaaDoor.ItemTg
open Go Go.Shelf Go.IntWalk Go.RowKit Go.Proofs.YtkmgiodhaaajjaaDoor.Mem Go.Proofs.YtkmgiodhaaajjaaDoor.App Go.Proofs.YtkmgiodhaaajjaaDoor.Own Go.Proofs.YtkmgiodhaaajjaaDoor.Range Go.Proofs.YtkmgiodhaaajjaaDoor.FloatB Go.Proofs.YtkmgiodhaaajjaaDoor.ItemP Go.Proofs.YtkmgiodhaaajjaaDoor.ItemM Go.Proofs.YtkmgiodhaaajjaaDoor.ItemA Go.Proofs.YtkmgiodhaaajjaaDoor.ItemB Go.Proofs.YtkmgiodhaaajjaaDoor.ItemE Go.Proofs.YtkmgiodhaaajjaaDoor.ItemR Go.Proofs.YtkmgiodhaaajjaaDoor.ItemS Go.Proofs.YtkmgiodhaaajjaaDoor.ItemT Go.Proofs.YtkmgiodhaaajjaaDoor.ItemU Go.Proofs.YtkmgiodhaaajjaaDoor.ItemW Go.Proofs.YtkmgiodhaaajjaaDoor.ItemY Go.Proofs.YtkmgiodhaaajjaaDoor.RegIn Go.Proofs.YtkmgiodhaaajjaaDoor.ItemTf
attribute [local go_sem] Oper.semAt_some


set_option maxRecDepth 1000000 in
set_option maxHeartbeats 16000000 in
theorem reg_b (T : Nat → Value) (x52 : Value) (w : World) (b5 Bt b8 b9 By p N r c1 c2 n l : Nat) (dy : Int) (dj : Int) (A1 : Option Addr) (a2 : Addr) (W : World) (e9 : W.cell? ⟨b9, 0, none⟩ = some (.int .i64 p)) (l5 : W.cell? ⟨b5, 0, none⟩ = some (.slice A1 N c1)) (l6 : W.cell? ⟨b5 + 1, 0, none⟩ = some (.slice (some a2) N c2)) (hdj : W.cell? (a2.add p) = some (.int .i64 dj)) (h2 : (N : Nat) ≤ c2) (hlt : p < N) (hne : (dy != dj) = true) (Q : Exit → Act → World → Prop) (hQ : ∀ W', Fr (fun _ => False) W W' → Q .normal ⟨#[T 0, T 1, .pointer (some ⟨w.heap.size, 0, none⟩), .pointer (some ⟨w.heap.size + 1, 0, none⟩), .pointer (some ⟨w.heap.size + 1 + 1, 0, none⟩), .pointer (some ⟨b5, 0, none⟩), .pointer (some ⟨b5 + 1, 0, none⟩), .func (.func 70) #[] #[.pointer (some ⟨Bt, 0, none⟩)], .pointer (some ⟨b8, 0, none⟩), .pointer (some ⟨b9, 0, none⟩), .int .i64 dy, .pointer (some ⟨By, 0, none⟩), T 12, T 13, T 14, T 15, T 16, T 17, T 18, T 19, T 20, T 21, T 22, T 23, T 24, T 25, T 26, T 27, T 28, T 29, T 30, T 31, T 32, T 33, T 34, T 35, T 36, T 37, T 38, T 39, T 40, T 41, T 42, T 43, T 44, T 45, .int .i64 (r : Int), .bool true, T 48, T 49, .func (.func 70) #[] #[.pointer (some ⟨Bt, 0, none⟩)], .int .i64 dy, x52, .int .i64 (p : Int), .slice A1 N c1, .int .i64 (N : Int), .bool false, .bool false, .int .i64 dy, .slice (some a2) N c2, .int .i64 (p : Int), .pointer (some (a2.add p)), .int .i64 dj, .bool true, .bool true, .bool true, undef, undef, undef, undef, undef, undef, undef, .bool true, T 74, T 75, T 76, T 77, T 78, T 79, T 80, T 81, T 82, T 83, T 84, T 85, T 86, T 87, T 88, T 89, T 90, T 91, T 92], []⟩ W') :
    reg16.wpIn (Fence.wide.inRound l) n Tryd.prog Q ⟨#[T 0, T 1, .pointer (some ⟨w.heap.size, 0, none⟩), .pointer (some ⟨w.heap.size + 1, 0, none⟩), .pointer (some ⟨w.heap.size + 1 + 1, 0, none⟩), .pointer (some ⟨b5, 0, none⟩), .pointer (some ⟨b5 + 1, 0, none⟩), .func (.func 70) #[] #[.pointer (some ⟨Bt, 0, none⟩)], .pointer (some ⟨b8, 0, none⟩), .pointer (some ⟨b9, 0, none⟩), .int .i64 dy, .pointer (some ⟨By, 0, none⟩), T 12, T 13, T 14, T 15, T 16, T 17, T 18, T 19, T 20, T 21, T 22, T 23, T 24, T 25, T 26, T 27, T 28, T 29, T 30, T 31, T 32, T 33, T 34, T 35, T 36, T 37, T 38, T 39, T 40, T 41, T 42, T 43, T 44, T 45, .int .i64 (r : Int), .bool true, T 48, T 49, .func (.func 70) #[] #[.pointer (some ⟨Bt, 0, none⟩)], .int .i64 dy, x52, T 53, T 54, T 55, T 56, T 57, T 58, T 59, T 60, T 61, T 62, T 63, T 64, T 65, T 66, T 67, T 68, T 69, T 70, T 71, T 72, T 73, T 74, T 75, T 76, T 77, T 78, T 79, T 80, T 81, T 82, T 83, T 84, T 85, T 86, T 87, T 88, T 89, T 90, T 91, T 92], []⟩ W := by
  conv => arg 4; whnf
  have dj0 : W.cell? (a2.add p) = some (.int .i64 dj) := hdj
  have hp0 : (0 : Int) ≤ (p : Int) := by omega
  have hpN : (p : Int) < (N : Int) := by omega
  have hnl : ¬ N ≤ p := by omega
  have hpc : (p : Int) < (c2 : Int) := by omega
  obtain ⟨base, hbase⟩ : ∃ base : Array Value, base = #[T 0, T 1, .pointer (some ⟨w.heap.size, 0, none⟩), .pointer (some ⟨w.heap.size + 1, 0, none⟩), .pointer (some ⟨w.heap.size + 1 + 1, 0, none⟩), .pointer (some ⟨b5, 0, none⟩), .pointer (some ⟨b5 + 1, 0, none⟩), .func (.func 70) #[] #[.pointer (some ⟨Bt, 0, none⟩)], .pointer (some ⟨b8, 0, none⟩), .pointer (some ⟨b9, 0, none⟩), .int .i64 dy, .pointer (some ⟨By, 0, none⟩), T 12, T 13, T 14, T 15, T 16, T 17, T 18, T 19, T 20, T 21, T 22, T 23, T 24, T 25, T 26, T 27, T 28, T 29, T 30, T 31, T 32, T 33, T 34, T 35, T 36, T 37, T 38, T 39, T 40, T 41, T 42, T 43, T 44, T 45, .int .i64 (r : Int), .bool true, T 48, T 49, .func (.func 70) #[] #[.pointer (some ⟨Bt, 0, none⟩)], .int .i64 dy, x52, T 53, T 54, T 55, T 56, T 57, T 58, T 59, T 60, T 61, T 62, T 63, T 64, T 65, T 66, T 67, T 68, T 69, T 70, T 71, T 72, T 73, T 74, T 75, T 76, T 77, T 78, T 79, T 80, T 81, T 82, T 83, T 84, T 85, T 86, T 87, T 88, T 89, T 90, T 91, T 92] := ⟨_, rfl⟩
  obtain ⟨V, hV⟩ : ∃ V : Nat → Value, V = fun i => (#[.int .i64 (p : Int), .slice A1 N c1, .int .i64 (N : Int), .bool false, .bool false, .int .i64 dy, .slice (some a2) N c2, .int .i64 (p : Int), .pointer (some (a2.add p)), .int .i64 dj, .bool true, .bool true, .bool true, undef, undef, undef, undef, undef, undef, undef, .bool true] : Array Value).getD i undef := ⟨_, rfl⟩
  have hbs : base.size = 93 := by rw [hbase]; rfl
  refine wpIn_region_any (by kernel_rfl) ?_
  refine any_inv (fun l a w' => Up base 53 21 V l a ∧ Fr (fun _ => False) W w') ?_ ?_ ?_ _ _ _ _ (by decide) ⟨Up.start rfl hbase.symm, (Fr.refl _ W).drew⟩
  · exact fun l a w' h => h.1.size
  · rintro L a wc i ⟨hU, hWc⟩ hr
    obtain ⟨hi, _, haft⟩ := ready_of hr
    have hi21 : i < 21 := hi
    have hwide : ∀ f, (Fence.wide.inRound l).fn f := fun _ => trivial
    obtain ⟨T', hT'⟩ : ∃ T' : Nat → Value, ∀ s, a.tmps.getD s undef = T' s := ⟨_, fun _ => rfl⟩
    have hlit := litA a (hU.sz.trans hbs) hU.df T' hT'
    have hold : ∀ s, ¬ (53 ≤ s ∧ s < 53 + 21) → T' s = base.getD s undef := fun s hs => (hT' s).symm.trans (hU.oldD s hs)
    have hnew : ∀ j, j < 21 → L.getD j false = true → T' (53 + j) = V j := fun j hj h => (hT' _).symm.trans (hU.newD hj h)
    have hcs : i = 0 ∨ i = 1 ∨ i = 2 ∨ i = 3 ∨ i = 4 ∨ i = 5 ∨ i = 6 ∨ i = 7 ∨ i = 8 ∨ i = 9 ∨ i = 10 ∨ i = 11 ∨ i = 12 ∨ i = 13 ∨ i = 14 ∨ i = 15 ∨ i = 16 ∨ i = 17 ∨ i = 18 ∨ i = 19 ∨ i = 20 := by omega
    rcases hcs with rfl | rfl | rfl | rfl | rfl | rfl | rfl | rfl | rfl | rfl | rfl | rfl | rfl | rfl | rfl | rfl | rfl | rfl | rfl | rfl | rfl
    · skip
      have k9 : T' 9 = _ := (hold 9 (by omega)).trans (by rw [hbase]; first | done | rfl)
      rw [k9] at hlit
      have e9' := cell_fr e9 hWc
      exact op_yield rfl rfl hwide (by rw [hlit]; first | (go_simp; done) | (go_simp; rfl)) ⟨hU.put (i := 0) (by omega) (by rw [hbs]; decide) (by rw [hV]; rfl), hWc⟩
    · skip
      have k5 : T' 5 = _ := (hold 5 (by omega)).trans (by rw [hbase]; first | done | rfl)
      rw [k5] at hlit
      have l5' := cell_fr l5 hWc
      exact op_yield rfl rfl hwide (by rw [hlit]; first | (go_simp; done) | (go_simp; rfl)) ⟨hU.put (i := 1) (by omega) (by rw [hbs]; decide) (by rw [hV]; rfl), hWc⟩
    · have hA : L.getD 1 false = true := by simpa [Region.binds] using haft
      have ad1 := hA
      have k54 : T' 54 = .slice A1 N c1 := (hnew 1 (by omega) ad1).trans (by rw [hV]; first | done | rfl)
      rw [k54] at hlit
      exact op_yield rfl rfl hwide (by rw [hlit]; first | (go_simp; done) | (go_simp; rfl)) ⟨hU.put (i := 2) (by omega) (by rw [hbs]; decide) (by rw [hV]; rfl), hWc⟩
    · have hA : L.getD 0 false = true ∧ L.getD 2 false = true := by simpa [Region.binds] using haft
      obtain ⟨ad0, ad2⟩ := hA
      have k53 : T' 53 = .int .i64 (p : Int) := (hnew 0 (by omega) ad0).trans (by rw [hV]; first | done | rfl)
      have k55 : T' 55 = .int .i64 (N : Int) := (hnew 2 (by omega) ad2).trans (by rw [hV]; first | done | rfl)
      rw [k53, k55] at hlit
      exact op_yield rfl rfl hwide (by rw [hlit]; first | (go_simp; done) | (go_simp; rfl)) ⟨hU.put (i := 3) (by omega) (by rw [hbs]; decide) (by rw [hV]; rfl), hWc⟩
    · have hA : L.getD 3 false = true := by simpa [Region.binds] using haft
      have ad3 := hA
      have k56 : T' 56 = .bool false := (hnew 3 (by omega) ad3).trans (by rw [hV]; first | done | rfl)
      rw [k56] at hlit
      exact op_yield rfl rfl hwide (by rw [hlit]; first | (go_simp; done) | (go_simp; rfl)) ⟨hU.put (i := 4) (by omega) (by rw [hbs]; decide) (by rw [hV]; rfl), hWc⟩
    · have hA : L.getD 4 false = true := by simpa [Region.binds] using haft
      have ad4 := hA
      have k10 : T' 10 = _ := (hold 10 (by omega)).trans (by rw [hbase]; first | done | rfl)
      have k57 : T' 57 = .bool false := (hnew 4 (by omega) ad4).trans (by rw [hV]; first | done | rfl)
      rw [k10, k57] at hlit
      exact op_yield rfl (by rw [hlit]; rfl) hwide (by rw [hlit]; first | (go_simp; done) | (go_simp; rfl)) ⟨hU.put (i := 5) (by omega) (by rw [hbs]; decide) (by rw [hV]; rfl), hWc⟩
    · have hA : L.getD 4 false = true := by simpa [Region.binds] using haft
      have ad4 := hA
      have k6 : T' 6 = _ := (hold 6 (by omega)).trans (by rw [hbase]; first | done | rfl)
      have k57 : T' 57 = .bool false := (hnew 4 (by omega) ad4).trans (by rw [hV]; first | done | rfl)
      rw [k6, k57] at hlit
      have l6' := cell_fr l6 hWc
      exact op_yield rfl (by rw [hlit]; rfl) hwide (by rw [hlit]; first | (go_simp; done) | (go_simp; rfl)) ⟨hU.put (i := 6) (by omega) (by rw [hbs]; decide) (by rw [hV]; rfl), hWc⟩
    · have hA : L.getD 4 false = true := by simpa [Region.binds] using haft
      have ad4 := hA
      have k9 : T' 9 = _ := (hold 9 (by omega)).trans (by rw [hbase]; first | done | rfl)
      have k57 : T' 57 = .bool false := (hnew 4 (by omega) ad4).trans (by rw [hV]; first | done | rfl)
      rw [k9, k57] at hlit
      have e9' := cell_fr e9 hWc
      exact op_yield rfl (by rw [hlit]; rfl) hwide (by rw [hlit]; first | (go_simp; done) | (go_simp; rfl)) ⟨hU.put (i := 7) (by omega) (by rw [hbs]; decide) (by rw [hV]; rfl), hWc⟩
    · have hA : L.getD 6 false = true ∧ L.getD 7 false = true ∧ L.getD 4 false = true := by simpa [Region.binds] using haft
      obtain ⟨ad6, ad7, ad4⟩ := hA
      have k57 : T' 57 = .bool false := (hnew 4 (by omega) ad4).trans (by rw [hV]; first | done | rfl)
      have k59 : T' 59 = .slice (some a2) N c2 := (hnew 6 (by omega) ad6).trans (by rw [hV]; first | done | rfl)
      have k60 : T' 60 = .int .i64 (p : Int) := (hnew 7 (by omega) ad7).trans (by rw [hV]; first | done | rfl)
      rw [k57, k59, k60] at hlit
      exact op_yield rfl (by rw [hlit]; rfl) hwide (by rw [hlit]; first | (go_simp; done) | (go_simp; rfl)) ⟨hU.put (i := 8) (by omega) (by rw [hbs]; decide) (by rw [hV]; rfl), hWc⟩
    · have hA : L.getD 8 false = true ∧ L.getD 4 false = true := by simpa [Region.binds] using haft
      obtain ⟨ad8, ad4⟩ := hA
      have k57 : T' 57 = .bool false := (hnew 4 (by omega) ad4).trans (by rw [hV]; first | done | rfl)
      have k61 : T' 61 = .pointer (some (a2.add p)) := (hnew 8 (by omega) ad8).trans (by rw [hV]; first | done | rfl)
      rw [k57, k61] at hlit
      have dj' := cell_fr dj0 hWc
      exact op_yield rfl (by rw [hlit]; rfl) hwide (by rw [hlit]; first | (go_simp; done) | (go_simp; rfl)) ⟨hU.put (i := 9) (by omega) (by rw [hbs]; decide) (by rw [hV]; rfl), hWc⟩
    · have hA : L.getD 5 false = true ∧ L.getD 9 false = true ∧ L.getD 4 false = true := by simpa [Region.binds] using haft
      obtain ⟨ad5, ad9, ad4⟩ := hA
      have k57 : T' 57 = .bool false := (hnew 4 (by omega) ad4).trans (by rw [hV]; first | done | rfl)
      have k58 : T' 58 = .int .i64 dy := (hnew 5 (by omega) ad5).trans (by rw [hV]; first | done | rfl)
      have k62 : T' 62 = .int .i64 dj := (hnew 9 (by omega) ad9).trans (by rw [hV]; first | done | rfl)
      rw [k57, k58, k62] at hlit
      exact op_yield rfl (by rw [hlit]; rfl) hwide (by rw [hlit]; first | (go_simp; done) | (go_simp; rfl)) ⟨hU.put (i := 10) (by omega) (by rw [hbs]; decide) (by rw [hV]; rfl), hWc⟩
    · have hA : L.getD 4 false = true ∧ L.getD 10 false = true := by simpa [Region.binds] using haft
      obtain ⟨ad4, ad10⟩ := hA
      have k57 : T' 57 = .bool false := (hnew 4 (by omega) ad4).trans (by rw [hV]; first | done | rfl)
      have k63 : T' 63 = .bool true := (hnew 10 (by omega) ad10).trans (by rw [hV]; first | done | rfl)
      rw [k57, k63] at hlit
      exact op_yield rfl rfl hwide (by rw [hlit]; first | (go_simp; done) | (go_simp; rfl)) ⟨hU.put (i := 11) (by omega) (by rw [hbs]; decide) (by rw [hV]; rfl), hWc⟩
    · have hA : L.getD 11 false = true ∧ L.getD 4 false = true := by simpa [Region.binds] using haft
      obtain ⟨ad11, ad4⟩ := hA
      have k64 : T' 64 = .bool true := (hnew 11 (by omega) ad11).trans (by rw [hV]; first | done | rfl)
      rw [k64] at hlit
      exact op_yield rfl rfl hwide (by rw [hlit]; first | (go_simp; done) | (go_simp; rfl)) ⟨hU.put (i := 12) (by omega) (by rw [hbs]; decide) (by rw [hV]; rfl), hWc⟩
    · have hA : L.getD 12 false = true := by simpa [Region.binds] using haft
      have ad12 := hA
      have k11 : T' 11 = _ := (hold 11 (by omega)).trans (by rw [hbase]; first | done | rfl)
      have k65 : T' 65 = .bool true := (hnew 12 (by omega) ad12).trans (by rw [hV]; first | done | rfl)
      rw [k11, k65] at hlit
      exact op_skip rfl (by rw [hlit]; rfl) hwide ⟨hU.put (i := 13) (by omega) (by rw [hbs]; decide) (by rw [hV]; rfl), hWc⟩
    · have hA : L.getD 12 false = true := by simpa [Region.binds] using haft
      have ad12 := hA
      have k5 : T' 5 = _ := (hold 5 (by omega)).trans (by rw [hbase]; first | done | rfl)
      have k65 : T' 65 = .bool true := (hnew 12 (by omega) ad12).trans (by rw [hV]; first | done | rfl)
      rw [k5, k65] at hlit
      exact op_skip rfl (by rw [hlit]; rfl) hwide ⟨hU.put (i := 14) (by omega) (by rw [hbs]; decide) (by rw [hV]; rfl), hWc⟩
    · have hA : L.getD 12 false = true := by simpa [Region.binds] using haft
      have ad12 := hA
      have k9 : T' 9 = _ := (hold 9 (by omega)).trans (by rw [hbase]; first | done | rfl)
      have k65 : T' 65 = .bool true := (hnew 12 (by omega) ad12).trans (by rw [hV]; first | done | rfl)
      rw [k9, k65] at hlit
      exact op_skip rfl (by rw [hlit]; rfl) hwide ⟨hU.put (i := 15) (by omega) (by rw [hbs]; decide) (by rw [hV]; rfl), hWc⟩
    · have hA : L.getD 14 false = true ∧ L.getD 15 false = true ∧ L.getD 12 false = true := by simpa [Region.binds] using haft
      obtain ⟨ad14, ad15, ad12⟩ := hA
      have k65 : T' 65 = .bool true := (hnew 12 (by omega) ad12).trans (by rw [hV]; first | done | rfl)
      have k67 : T' 67 = undef := (hnew 14 (by omega) ad14).trans (by rw [hV]; first | done | rfl)
      have k68 : T' 68 = undef := (hnew 15 (by omega) ad15).trans (by rw [hV]; first | done | rfl)
      rw [k65, k67, k68] at hlit
      exact op_skip rfl (by rw [hlit]; rfl) hwide ⟨hU.put (i := 16) (by omega) (by rw [hbs]; decide) (by rw [hV]; rfl), hWc⟩
    · have hA : L.getD 16 false = true ∧ L.getD 12 false = true := by simpa [Region.binds] using haft
      obtain ⟨ad16, ad12⟩ := hA
      have k65 : T' 65 = .bool true := (hnew 12 (by omega) ad12).trans (by rw [hV]; first | done | rfl)
      have k69 : T' 69 = undef := (hnew 16 (by omega) ad16).trans (by rw [hV]; first | done | rfl)
      rw [k65, k69] at hlit
      exact op_skip rfl (by rw [hlit]; rfl) hwide ⟨hU.put (i := 17) (by omega) (by rw [hbs]; decide) (by rw [hV]; rfl), hWc⟩
    · have hA : L.getD 13 false = true ∧ L.getD 17 false = true ∧ L.getD 12 false = true := by simpa [Region.binds] using haft
      obtain ⟨ad13, ad17, ad12⟩ := hA
      have k65 : T' 65 = .bool true := (hnew 12 (by omega) ad12).trans (by rw [hV]; first | done | rfl)
      have k66 : T' 66 = undef := (hnew 13 (by omega) ad13).trans (by rw [hV]; first | done | rfl)
      have k70 : T' 70 = undef := (hnew 17 (by omega) ad17).trans (by rw [hV]; first | done | rfl)
      rw [k65, k66, k70] at hlit
      exact op_skip rfl (by rw [hlit]; rfl) hwide ⟨hU.put (i := 18) (by omega) (by rw [hbs]; decide) (by rw [hV]; rfl), hWc⟩
    · have hA : L.getD 18 false = true ∧ L.getD 12 false = true := by simpa [Region.binds] using haft
      obtain ⟨ad18, ad12⟩ := hA
      have k65 : T' 65 = .bool true := (hnew 12 (by omega) ad12).trans (by rw [hV]; first | done | rfl)
      have k71 : T' 71 = undef := (hnew 18 (by omega) ad18).trans (by rw [hV]; first | done | rfl)
      rw [k65, k71] at hlit
      exact op_skip rfl (by rw [hlit]; rfl) hwide ⟨hU.put (i := 19) (by omega) (by rw [hbs]; decide) (by rw [hV]; rfl), hWc⟩
    · have hA : L.getD 12 false = true ∧ L.getD 19 false = true := by simpa [Region.binds] using haft
      obtain ⟨ad12, ad19⟩ := hA
      have k65 : T' 65 = .bool true := (hnew 12 (by omega) ad12).trans (by rw [hV]; first | done | rfl)
      have k72 : T' 72 = undef := (hnew 19 (by omega) ad19).trans (by rw [hV]; first | done | rfl)
      rw [k65, k72] at hlit
      exact op_yield rfl rfl hwide (by rw [hlit]; first | (go_simp; done) | (go_simp; rfl)) ⟨hU.put (i := 20) (by omega) (by rw [hbs]; decide) (by rw [hV]; rfl), hWc⟩
  rintro L a wc ⟨hU, hWc⟩ hr
  have hall := done_all (by kernel_rfl) hr hU.size
  have hlit := litA a (hU.sz.trans hbs) hU.df (fun s => if 53 ≤ s ∧ s < 53 + 21 then V (s - 53) else base.getD s undef) (fun s => by
    by_cases hs : 53 ≤ s ∧ s < 53 + 21
    · rw [if_pos hs]
      have := hU.newD (i := s - 53) (by omega) (hall (s - 53) (show s - 53 < 21 by omega))
      rwa [show 53 + (s - 53) = s by omega] at this
    · rw [if_neg hs]; exact hU.oldD s hs)
  rw [show a = ⟨#[T 0, T 1, .pointer (some ⟨w.heap.size, 0, none⟩), .pointer (some ⟨w.heap.size + 1, 0, none⟩), .pointer (some ⟨w.heap.size + 1 + 1, 0, none⟩), .pointer (some ⟨b5, 0, none⟩), .pointer (some ⟨b5 + 1, 0, none⟩), .func (.func 70) #[] #[.pointer (some ⟨Bt, 0, none⟩)], .pointer (some ⟨b8, 0, none⟩), .pointer (some ⟨b9, 0, none⟩), .int .i64 dy, .pointer (some ⟨By, 0, none⟩), T 12, T 13, T 14, T 15, T 16, T 17, T 18, T 19, T 20, T 21, T 22, T 23, T 24, T 25, T 26, T 27, T 28, T 29, T 30, T 31, T 32, T 33, T 34, T 35, T 36, T 37, T 38, T 39, T 40, T 41, T 42, T 43, T 44, T 45, .int .i64 (r : Int), .bool true, T 48, T 49, .func (.func 70) #[] #[.pointer (some ⟨Bt, 0, none⟩)], .int .i64 dy, x52, .int .i64 (p : Int), .slice A1 N c1, .int .i64 (N : Int), .bool false, .bool false, .int .i64 dy, .slice (some a2) N c2, .int .i64 (p : Int), .pointer (some (a2.add p)), .int .i64 dj, .bool true, .bool true, .bool true, undef, undef, undef, undef, undef, undef, undef, .bool true, T 74, T 75, T 76, T 77, T 78, T 79, T 80, T 81, T 82, T 83, T 84, T 85, T 86, T 87, T 88, T 89, T 90, T 91, T 92], []⟩ from hlit.trans (by rw [hV, hbase]; rfl)]
  clear hlit hall hU hr hbs hV hbase
  exact hQ _ hWc
end Go.Proofs.YtkmgiodhaaajjaaDoor.ItemTg
