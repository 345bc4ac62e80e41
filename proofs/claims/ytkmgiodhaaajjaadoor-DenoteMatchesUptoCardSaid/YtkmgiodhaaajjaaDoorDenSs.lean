/- Layer denote, the document's answer: a node of any kind. Layer denote, the document's answer: which nodes an item matches. -/
import Derived.Test.YtkmgiodhaaajjaaDoorDenHJ
import Derived.Test.YtkmgiodhaaajjaaDoorDenKR
import Derived.Test.YtkmgiodhaaajjaaDoorDenN
import Derived.Test.YtkmgiodhaaajjaaDoorDenRec
import Derived.Deep.RegionLaw
set_option linter.unusedVariables false
set_option linter.unusedSimpArgs false
namespace Go.Proofs.YtkmgiodhaaajjaaDoor.DenSr
open Go.IntWalk Go.RowKit Go.Proofs.YtkmgiodhaaajjaaDoor.Mem Go.Proofs.YtkmgiodhaaajjaaDoor.App Go.Proofs.YtkmgiodhaaajjaaDoor.FloatB Go.Proofs.YtkmgiodhaaajjaaDoor.ItemP Go.Proofs.YtkmgiodhaaajjaaDoor.ItemM Go.Proofs.YtkmgiodhaaajjaaDoor.ItemB Go.Proofs.YtkmgiodhaaajjaaDoor.Own Go.Proofs.YtkmgiodhaaajjaaDoor.SchP Go.Proofs.YtkmgiodhaaajjaaDoor.SchM Go.Proofs.YtkmgiodhaaajjaaDoor.SchG Go.Proofs.YtkmgiodhaaajjaaDoor.SchI Go.Proofs.YtkmgiodhaaajjaaDoor.SchJ Go.Proofs.YtkmgiodhaaajjaaDoor.DenP Go.Proofs.YtkmgiodhaaajjaaDoor.DenA Go.Proofs.YtkmgiodhaaajjaaDoor.DenD Go.Proofs.YtkmgiodhaaajjaaDoor.DenF Go.Proofs.YtkmgiodhaaajjaaDoor.DenG Go.Proofs.YtkmgiodhaaajjaaDoor.DenH Go.Proofs.YtkmgiodhaaajjaaDoor.DenI Go.Proofs.YtkmgiodhaaajjaaDoor.DenJ Go.Proofs.YtkmgiodhaaajjaaDoor.DenK Go.Proofs.YtkmgiodhaaajjaaDoor.DenU Go.Proofs.YtkmgiodhaaajjaaDoor.DenX Go.Proofs.YtkmgiodhaaajjaaDoor.DenNa Go.Proofs.YtkmgiodhaaajjaaDoor.DenNb Go.Proofs.YtkmgiodhaaajjaaDoor.DenNc Go.Proofs.YtkmgiodhaaajjaaDoor.DenR Go.Proofs.YtkmgiodhaaajjaaDoor.DenRa

set_option maxRecDepth 1000000 in
set_option maxHeartbeats 16000000 in
theorem round2 (ns : List Nod) (M c h : Nat) (xk : Int) (xn : Nat) (xs : ByteArray) (xl : List It) (Ax : Option Addr) (j cx lo hi : Nat) (w : World) (ad : Addr) (A1 : Option Addr) (c1 go k0 i : Nat) (wr : World)
    (HLD : Leads ns) (HWR : ∀ i (hi : i < ns.length), ns[i].wrong i ns.length = 0) (hM : ns.length = M) (hc : M ≤ c) (hMm : M ≤ 256) (hik : i + k0 + 1 = M) (HRN : RdN w h (some ad) ns) (hh : hi ≤ w.heap.size)
    (hat : ItAt w lo hi (It.mk xk xn xs xl) [.int .i64 xk, .int .u64 xn, .string xs, .slice Ax j cx]) (hL : ItsAt w lo hi xl Ax 0) (hgx : MayBe (It.mk xk xn xs xl)) (hsz : (It.mk xk xn xs xl).size ≤ 2000000) (hxm : xl.length = j) (hxc : j ≤ cx) (hj : j ≤ 2000000) (hxss : xs.size ≤ 140737488355328) (hxn : xn < 18446744073709551616)
    (s0 : wr.cell? ⟨w.heap.size, 0, none⟩ = some (.slice (some ad) M c)) (y0 : wr.cell? ⟨w.heap.size + 1, 0, none⟩ = some (.int .i64 xk)) (y1 : wr.cell? ⟨w.heap.size + 1, 1, none⟩ = some (.int .u64 xn)) (y2 : wr.cell? ⟨w.heap.size + 1, 2, none⟩ = some (.string xs)) (y3 : wr.cell? ⟨w.heap.size + 1, 3, none⟩ = some (.slice Ax j cx))
    (go1 : w.heap.size + 1 < go) (bv : BV wr go M (fun q => if M - k0 ≤ q then isV ns q (It.mk xk xn xs xl) else false))
    (rows : ∀ w', Fr (fun b => b = go) wr w' → ∀ p, p < j → ∃ ab gk, A1 = some ab ∧ w'.cell? (ab.add p) = some (.slice (some ⟨gk, 0, none⟩) M M) ∧ ∀ q, q < M → w'.cell? ⟨gk, q, none⟩ = some (.bool (isV ns q (xl.getD p noIt))))
    (cap : ∀ ab, A1 = some ab → j ≤ c1) (abg : ∀ ab, A1 = some ab → ¬ ab.block = go) (keep : ∀ w', Fr (fun b => b = go) wr w' → Fr (fun _ => False) w w')
    (T : Nat → Value) (KK : Act → World → Prop) (Q0 : Exit → Act → World → Prop)
    (hK : ∀ t w', FrR t M c xk xn xs Ax j cx w ad A1 c1 go ((i : Int) - 1) → BV w' go M (fun q => if M - (k0 + 1) ≤ q then isV ns q (It.mk xk xn xs xl) else false) → Fr (fun b => b = go) wr w' → KK ⟨t, []⟩ w') :
    Code.wp Tryd.prog body2 (Exit.then KK Q0) ⟨#[.agg #[.slice (some ad) M c], .agg #[.int .i64 xk, .int .u64 xn, .string xs, .slice Ax j cx], .pointer (some ⟨w.heap.size, 0, none⟩), .pointer (some ⟨w.heap.size + 1, 0, none⟩), .slice none 0 0, .slice (some ⟨go, 0, none⟩) M M, .slice A1 j c1, T 7, .int .i64 (i : Int), T 9, T 10, T 11, T 12, T 13, T 14, T 15, T 16, T 17, T 18, T 19, T 20, T 21, T 22, T 23, T 24, T 25, T 26, T 27, T 28, T 29, T 30, T 31, T 32, T 33, T 34, T 35, T 36, T 37, T 38, T 39, T 40, T 41, T 42, T 43, T 44, T 45, T 46, T 47, T 48, T 49, T 50, T 51, T 52, T 53, T 54, T 55, T 56, T 57, T 58, T 59, T 60, T 61, T 62, T 63, T 64, T 65, T 66, T 67, T 68, T 69, T 70, T 71, T 72, T 73, T 74, T 75, T 76, T 77, T 78, T 79, T 80, T 81, T 82, T 83, T 84, T 85, T 86, T 87, T 88, T 89, T 90, T 91, T 92, T 93, T 94, T 95, T 96, T 97, T 98, T 99, T 100, T 101, T 102, T 103, T 104, T 105, T 106, T 107, T 108, T 109, T 110, T 111, T 112, T 113, T 114, T 115, T 116, T 117, T 118, T 119, T 120, T 121, T 122, T 123, T 124, T 125, T 126, T 127, T 128, T 129, T 130, T 131, T 132, T 133, T 134, T 135, T 136, T 137, T 138, T 139, T 140, T 141, T 142, T 143, T 144, T 145, T 146, T 147, T 148, T 149, T 150, T 151, T 152, T 153, T 154, T 155, T 156, T 157, T 158, T 159, T 160, T 161, T 162, T 163, T 164, T 165, T 166, T 167, T 168, T 169, T 170, T 171, T 172, T 173, T 174, T 175, T 176, T 177, T 178, T 179, T 180, T 181, T 182, T 183, T 184, T 185, T 186, T 187, T 188, T 189, T 190, T 191, T 192, T 193, T 194, T 195, T 196, T 197, T 198, T 199, T 200, T 201, T 202, T 203, T 204, T 205, T 206, T 207, T 208, T 209, T 210, T 211, T 212, T 213, T 214, T 215, T 216, T 217, T 218, T 219, T 220, T 221, T 222, T 223, T 224, T 225, T 226, T 227, T 228, T 229, T 230, T 231, T 232, T 233, T 234, T 235, T 236, T 237, T 238, T 239, T 240, T 241, T 242, T 243, T 244, T 245, T 246, T 247, T 248, T 249, T 250, T 251, T 252, T 253, T 254, T 255, T 256, T 257, T 258, T 259, T 260, T 261, T 262, T 263, T 264, T 265, T 266, T 267, T 268, T 269, T 270, T 271, T 272, T 273, T 274, T 275, T 276, T 277, T 278, T 279, T 280, T 281, T 282, T 283, T 284, T 285, T 286, T 287, T 288, T 289, T 290, T 291, T 292, T 293, T 294, T 295, T 296, T 297, T 298, T 299, T 300, T 301, T 302, T 303, T 304, T 305, T 306, T 307, T 308, T 309, T 310, T 311, T 312, T 313, T 314, T 315, T 316, T 317, T 318, T 319, T 320, T 321, T 322, T 323, T 324, T 325, T 326, T 327, T 328, T 329, T 330, T 331, T 332, T 333, T 334, T 335, T 336, T 337, T 338, T 339, T 340, T 341, T 342, T 343, T 344, T 345, T 346, T 347, T 348, T 349, T 350], []⟩ wr := by
  have hfw := keep wr (Fr.refl _ _)
  have him0 : i < ns.length := by omega
  have HWZ := wrong_zero (HWR i him0)
  have HEQ := isV_eq HLD i (It.mk xk xn xs xl) him0
  obtain ⟨ad', Av, cv, Al, cl, Af, cf, hA, hab, hnine, hr⟩ := (HRN.fr0 hfw).at_ i him0
  have hr0 := hr
  obtain rfl : ad = ad' := by injection hA
  obtain ⟨n, hn⟩ : ∃ n, ns[i] = n := ⟨_, rfl⟩
  rw [hn] at hnine hr HWZ HEQ
  rw [hM] at HWZ
  obtain ⟨r, hrr⟩ : ∃ r, isV ns i (It.mk xk xn xs xl) = r := ⟨_, rfl⟩
  obtain ⟨n0, n1, n2, n3, n4, n5, n6, n7, n8⟩ := hnine
  obtain ⟨k, nlo, nhi, v, l, f⟩ := n
  have HVA := hr.v
  have HK : ∀ (x3 : Int) (x4 : Nat) (x5 : ByteArray) (x6 x7 x8 : Nat), v.k = x3 → v.n = x4 → v.s = x5 → v.l.length = x6 → l.length = x7 → f.length = x8 → RK ns M c h xk xn xs xl Ax j cx lo hi w ad A1 c1 go k0 i k nlo nhi v l f Av cv Al cl Af cf x3 x4 x5 x6 x7 x8 r wr := by
    rintro _ _ _ _ _ _ rfl rfl rfl rfl rfl rfl
    exact ⟨hik, hc, hMm, hxm, hxc, hj, hxss, hxn, n0, n1, n2, n3, n4, n5, n6, n7, n8, hr, HVA, rfl, rfl, HWZ.2.1, HWZ.2.2.2.1, HWZ.2.2.2.2.1, HWZ.2.2.2.2.2, hrr, hrr ▸ HEQ, s0, y0, y1, y2, y3, go1, bv, rows, cap, abg, (fun w' hf => by
      have h1 := keep w' hf
      obtain ⟨ad2, Av2, cv2, Al2, cl2, Af2, cf2, hA2, hab2, hnine2, hr2⟩ := HRN.at_ i him0
      rw [hn] at hnine2 hr2
      obtain rfl : ad = ad2 := by injection hA2
      have e := (cell_fr hnine2.2.2.2.2.2.2.2.1 hfw).symm.trans n7
      simp only [Option.some.injEq, Value.slice.injEq] at e
      have := hr2.l.fr0 h1
      rw [e.1] at this
      exact this), hat.fr0 hfw hh, hL.fr0 hfw hh, Nat.le_trans hh hfw.size, hgx, hsz⟩
  have H := HK _ _ _ _ _ _ rfl rfl rfl rfl rfl rfl
  have hkr : k = 0 ∨ k = 1 ∨ k = 2 ∨ k = 3 ∨ k = 4 ∨ k = 5 ∨ k = 6 ∨ k = 7 ∨ k = 8 ∨ k = 9 ∨ k = 10 := by
    have := HWZ.1
    simp only at this
    omega
  clear HK HWZ HEQ n0 n1 n2 n3 n4 n5 n6 n7 n8 hr hr0 HVA
  rcases hkr with rfl | rfl | rfl | rfl | rfl | rfl | rfl | rfl | rfl | rfl | rfl
  · exact case0 _ _ _ _ _ _ _ _ _ _ _ _ _ _ _ _ _ _ _ _ _ _ _ _ _ _ _ _ _ _ _ _ _ _ _ _ _ _ _ H T KK Q0 hK
  · exact case1 _ _ _ _ _ _ _ _ _ _ _ _ _ _ _ _ _ _ _ _ _ _ _ _ _ _ _ _ _ _ _ _ _ _ _ _ _ _ _ H T KK Q0 hK
  · exact case2 _ _ _ _ _ _ _ _ _ _ _ _ _ _ _ _ _ _ _ _ _ _ _ _ _ _ _ _ _ _ _ _ _ _ _ _ _ _ _ H T KK Q0 hK
  · exact case3 _ _ _ _ _ _ _ _ _ _ _ _ _ _ _ _ _ _ _ _ _ _ _ _ _ _ _ _ _ _ _ _ _ _ _ _ _ _ _ H T KK Q0 hK
  · exact case4 _ _ _ _ _ _ _ _ _ _ _ _ _ _ _ _ _ _ _ _ _ _ _ _ _ _ _ _ _ _ _ _ _ _ _ _ _ _ _ H T KK Q0 hK
  · exact case5 _ _ _ _ _ _ _ _ _ _ _ _ _ _ _ _ _ _ _ _ _ _ _ _ _ _ _ _ _ _ _ _ _ _ _ _ _ _ _ H T KK Q0 hK
  · by_cases h2 : xk = 4
    · by_cases h3 : nlo ≤ (j : Int)
      · by_cases h4 : (j : Int) ≤ nhi
        · exact case6a _ _ _ _ _ _ _ _ _ _ _ _ _ _ _ _ _ _ _ _ _ _ _ _ _ _ _ _ _ _ _ _ _ _ _ _ _ _ _ H h2 ⟨h3, h4⟩ T KK Q0 hK
        · exact case6d _ _ _ _ _ _ _ _ _ _ _ _ _ _ _ _ _ _ _ _ _ _ _ _ _ _ _ _ _ _ _ _ _ _ _ _ _ _ _ H h2 h3 h4 T KK Q0 hK
      · exact case6c _ _ _ _ _ _ _ _ _ _ _ _ _ _ _ _ _ _ _ _ _ _ _ _ _ _ _ _ _ _ _ _ _ _ _ _ _ _ _ H h2 h3 T KK Q0 hK
    · exact case6b _ _ _ _ _ _ _ _ _ _ _ _ _ _ _ _ _ _ _ _ _ _ _ _ _ _ _ _ _ _ _ _ _ _ _ _ _ _ _ H h2 T KK Q0 hK
  · by_cases h2 : xk = 4
    · by_cases h3 : j = l.length
      · exact case7a _ _ _ _ _ _ _ _ _ _ _ _ _ _ _ _ _ _ _ _ _ _ _ _ _ _ _ _ _ _ _ _ _ _ _ _ _ _ _ H h2 h3 T KK Q0 hK
      · exact case7c _ _ _ _ _ _ _ _ _ _ _ _ _ _ _ _ _ _ _ _ _ _ _ _ _ _ _ _ _ _ _ _ _ _ _ _ _ _ _ H h2 h3 T KK Q0 hK
    · exact case7b _ _ _ _ _ _ _ _ _ _ _ _ _ _ _ _ _ _ _ _ _ _ _ _ _ _ _ _ _ _ _ _ _ _ _ _ _ _ _ H h2 T KK Q0 hK
  · by_cases h2 : xk = 5
    · exact case8a _ _ _ _ _ _ _ _ _ _ _ _ _ _ _ _ _ _ _ _ _ _ _ _ _ _ _ _ _ _ _ _ _ _ _ _ _ _ _ H h2 T KK Q0 hK
    · exact case8b _ _ _ _ _ _ _ _ _ _ _ _ _ _ _ _ _ _ _ _ _ _ _ _ _ _ _ _ _ _ _ _ _ _ _ _ _ _ _ H h2 T KK Q0 hK
  · by_cases h2 : xk = 6
    · by_cases h3 : (xn : Int) = nlo
      · exact case9a _ _ _ _ _ _ _ _ _ _ _ _ _ _ _ _ _ _ _ _ _ _ _ _ _ _ _ _ _ _ _ _ _ _ _ _ _ _ _ H h2 h3 T KK Q0 hK
      · exact case9b _ _ _ _ _ _ _ _ _ _ _ _ _ _ _ _ _ _ _ _ _ _ _ _ _ _ _ _ _ _ _ _ _ _ _ _ _ _ _ H h2 h3 T KK Q0 hK
    · exact case9c _ _ _ _ _ _ _ _ _ _ _ _ _ _ _ _ _ _ _ _ _ _ _ _ _ _ _ _ _ _ _ _ _ _ _ _ _ _ _ H h2 T KK Q0 hK
  · exact case10 _ _ _ _ _ _ _ _ _ _ _ _ _ _ _ _ _ _ _ _ _ _ _ _ _ _ _ _ _ _ _ _ _ _ _ _ _ _ _ H T KK Q0 hK
end Go.Proofs.YtkmgiodhaaajjaaDoor.DenSr

namespace Go.Proofs.YtkmgiodhaaajjaaDoor.DenS
open Go.IntWalk Go.RowKit Go.Proofs.YtkmgiodhaaajjaaDoor.Mem Go.Proofs.YtkmgiodhaaajjaaDoor.App Go.Proofs.YtkmgiodhaaajjaaDoor.FloatB Go.Proofs.YtkmgiodhaaajjaaDoor.ItemP Go.Proofs.YtkmgiodhaaajjaaDoor.ItemM Go.Proofs.YtkmgiodhaaajjaaDoor.ItemB Go.Proofs.YtkmgiodhaaajjaaDoor.Own Go.Proofs.YtkmgiodhaaajjaaDoor.SchP Go.Proofs.YtkmgiodhaaajjaaDoor.SchM Go.Proofs.YtkmgiodhaaajjaaDoor.SchG Go.Proofs.YtkmgiodhaaajjaaDoor.SchI Go.Proofs.YtkmgiodhaaajjaaDoor.SchJ Go.Proofs.YtkmgiodhaaajjaaDoor.DenP Go.Proofs.YtkmgiodhaaajjaaDoor.DenA Go.Proofs.YtkmgiodhaaajjaaDoor.DenD Go.Proofs.YtkmgiodhaaajjaaDoor.DenF Go.Proofs.YtkmgiodhaaajjaaDoor.DenG Go.Proofs.YtkmgiodhaaajjaaDoor.DenH Go.Proofs.YtkmgiodhaaajjaaDoor.DenI Go.Proofs.YtkmgiodhaaajjaaDoor.DenJ Go.Proofs.YtkmgiodhaaajjaaDoor.DenK Go.Proofs.YtkmgiodhaaajjaaDoor.DenU Go.Proofs.YtkmgiodhaaajjaaDoor.DenX Go.Proofs.YtkmgiodhaaajjaaDoor.DenNa Go.Proofs.YtkmgiodhaaajjaaDoor.DenNb Go.Proofs.YtkmgiodhaaajjaaDoor.DenNc Go.Proofs.YtkmgiodhaaajjaaDoor.DenR Go.Proofs.YtkmgiodhaaajjaaDoor.DenRa Go.Proofs.YtkmgiodhaaajjaaDoor.DenSr Go.Proofs.YtkmgiodhaaajjaaDoor.DenRk Go.Proofs.YtkmgiodhaaajjaaDoor.DenRf
set_option maxRecDepth 100000 in
set_option maxHeartbeats 16000000 in
theorem refset_calls (ns : List Nod) (HLD : Leads ns) (HWR : ∀ i (hi : i < ns.length), ns[i].wrong i ns.length = 0) (A : Option Addr) (M c h : Nat) (hM : ns.length = M) (hc : M ≤ c) (hMm : M ≤ 256) (hM1 : 1 ≤ M) (N : Nat) :
    ∀ (x : It), x.size ≤ N → N ≤ 2000000 → MayBe x → ∀ (lo hi : Nat) (cs : List Value) (w : World), hi ≤ w.heap.size → ItAt w lo hi x cs → RdN w h A ns →
      Calls Tryd.prog 51 #[.agg #[.slice A M c], .agg cs.toArray] w fun e w' => ∃ g, e = .returned (.slice (some ⟨g, 0, none⟩) M M) ∧ w.heap.size ≤ g ∧ BV w' g M (fun i => isV ns i x) ∧ Fr (fun _ => False) w w' := by
  induction N with
  | zero => intro x hx; have := size_pos x; omega
  | succ N ih =>
    intro x hx hN hgx lo hi cs w hh hat H
    have HM := hid hM
    have HIH := hid ih
    have HGX := hid hgx
    have HXS := hid hx
    have HHS := hid hh
    obtain ⟨ad, rfl⟩ : ∃ ad, A = some ad := by
      obtain ⟨ad, _, _, _, _, _, _, hA, _⟩ := H 0 (by omega)
      exact ⟨ad, hA⟩
    have HRN := hid H
    have hat' := hat
    obtain ⟨xk, xn, xs, xl⟩ := x
    obtain ⟨Ax, cx, rfl, hxc, hxk, hxn, hxss, hxl, hL⟩ := hat
    have HAT := hid hat'
    have HL := hid hL
    have HXL := hid (show xl.length ≤ 2000000 by have h1 := HXS.out; have h2 := sizes_length xl; simp only [It.size] at h1; omega)
    have HKI := hid (show ∀ k (hk : k < xl.length), MayBe (xl.getD k noIt) ∧ (xl.getD k noIt).size ≤ N from fun k hk => by
      rw [getD_it hk]
      exact ⟨HGX.out.kid k hk, by have h1 := HXS.out; have h2 := size_get xk xn xs xl k hk; omega⟩)
    obtain ⟨xm, hxm⟩ : ∃ m, xl.length = m := ⟨_, rfl⟩
    have HXM := hid hxm
    have hxlm : xm ≤ 2000000 := by have := HXL.out; omega
    rw [hxm] at hxc hxl HAT HKI ⊢
    clear ih hgx hx hh H hM hat' hL hxm
    obtain ⟨w1, hw1⟩ : ∃ w1, (w.alloc (.cells #[.slice (some ad) M c] 42)).alloc (.cells #[.int .i64 xk, .int .u64 xn, .string xs, .slice Ax xm cx] 25) = w1 := ⟨_, rfl⟩
    have HF1 := hid (two_box hw1).1
    have HS := hid (two_box hw1).2
    have HW1 := hid hw1
    clear hw1
    obtain ⟨wA, hwA⟩ : ∃ wA, w1.alloc (.cells (madeCells #[.bool false] M) 4) = wA := ⟨_, rfl⟩
    have HFA := hid (show Fr (fun _ => False) w1 wA by rw [← hwA]; exact (Fr.refl _ w1).alloc _)
    have HBA := hid (show BV wA w1.heap.size M (fun _ => false) by
      rw [← hwA]
      refine ⟨_, Blk.new w1 _ _, by simp [madeCells], fun i hi => ?_⟩
      simp [madeCells, hi, Nat.mod_one])
    have HWA := hid hwA
    clear hwA
    obtain ⟨c0, d0, d1, d2, d3⟩ := HS.out w1 (Fr.refl _ _)
    have hM0 : (0 : Int) ≤ (M : Int) := by omega
    have hmk := run_make_nc (P := Tryd.prog) 73 4 (.bool false) 1 Tryd.underlying73 infoBoo M M (Nat.le_refl _) (by omega) (by omega) w1
    simp only [show (Value.bool false).cells = #[.bool false] from rfl, HWA.out] at hmk
    obtain ⟨go, hgo⟩ : ∃ g, w1.heap.size = g := ⟨_, rfl⟩
    rw [hgo] at hmk HBA
    rw [← HW1.out] at hmk
    have HGO := hid hgo
    clear hgo
    go_enter Tryd.func51, Tryd.ntmps51
    go_wp2_with fail
    clear c0 d0 d1 d2 d3 hmk
    go_loopw [6, 7] (fun v6 v7 wr => ∃ (j : Nat) (A1 : Option Addr) (c1 : Nat) (gs : List Nat), j ≤ xm ∧ v7 = .int .i64 j ∧ v6 = .slice A1 j c1 ∧ Hid (gs.length = j) ∧ Hid (OwnG 73 1 wr wA.heap.size (.slice A1 j c1) j (rowC M gs)) ∧
      Hid (∀ k, k < j → wA.heap.size ≤ gs.getD k 0 ∧ (Value.slice A1 j c1).ownBlock ≠ some (gs.getD k 0) ∧ BV wr (gs.getD k 0) M (fun i => isV ns i (xl.getD k noIt))) ∧ Hid (Fr (fun _ => False) wA wr)) (fun _ v7 _ => xm - (intOf v7).toNat)
    case atStart => exact ⟨0, none, 0, [], Nat.zero_le _, rfl, rfl, hid rfl, hid (OwnG.nil _ _ _ _), hid (fun k hk => by omega), hid (Fr.refl _ _)⟩
    case round =>
      obtain ⟨j, A1, c1, gs, hj, rfl, rfl, HGS, HO, HRW, HF⟩ := hrel
      have HFW := hid (HFA.out.trans HF.out)
      obtain ⟨c0, d0, d1, d2, d3⟩ := HS.out wr HFW.out
      by_cases hlt : j < xm
      · obtain ⟨ad, k', n', s', l', A', c', rfl, _, hab, hx', b0, b1, b2, b3, hch⟩ := ItsAt.kid HL.out j (by rw [HXM.out]; exact hlt)
        have HFX := hid (HF1.out.trans HFW.out)
        have g0 := cell_fr b0 HFX.out
        have g1 := cell_fr b1 HFX.out
        have g2 := cell_fr b2 HFX.out
        have g3 := cell_fr b3 HFX.out
        have HCH := hid (show ItAt w lo hi (xl.getD j noIt) [.int .i64 k', .int .u64 n', .string s', .slice A' l'.length c'] by rw [getD_it (by rw [HXM.out]; exact hlt), hx']; exact hch)
        obtain ⟨q2, hq2⟩ : ∃ q, l'.length = q := ⟨_, rfl⟩
        rw [hq2] at g3 HCH
        have hj0 : (0 : Int) ≤ (j : Int) := by omega
        have hjm : (j : Int) < (xm : Int) := by omega
        have hjc : (j : Int) < (cx : Int) := by omega
        have hj2 : j + 1 ≤ 2000000 := by omega
        have HC := hid (HIH.out (xl.getD j noIt) (HKI.out j hlt).2 (by omega) (HKI.out j hlt).1 lo hi _ wr.drew (Nat.le_trans HHS.out HFX.out.size) (HCH.out.fr0 HFX.out.drew HHS.out) (HRN.out.fr0 HFX.out.drew))
        clear b0 b1 b2 b3 hch hx' hq2 hab
        go_wp2_with fail
        go_region_law
          (first
            | ((go_simp; go_at_call 51; refine HC.out.mono ?_; rintro e w4 ⟨g4, rfl, hg4, hb4, hf4⟩; have HG4 := hid hg4; have HB4 := hid hb4; have HF4 := hid (((Fr.refl (fun _ => False) wr).drew).then_ hf4 (fun _ _ h => h)); clear hg4 hb4 hf4))
            | ((refine step_appG rfl (.tmp 32) (.tmp 40) 120 rfl _ 24 Tryd.underlying120 infoBools rfl (by decide) (.slice A1 j c1) j (rowC M gs) rfl ((HO.out.fr0 HF4.out).fr0 ((Fr.refl _ _).alloc _)) _ 1 1 rfl [.slice (some ⟨g4, 0, none⟩) M M] rfl (by simp [Value.oneCell']) (RdC.blk (Blk.new w4 _ _)) (by omega) (by have h1 := HF4.out.size; have h2 := HF.out.size; simp; omega) ?_; intro v6 w6 h6; obtain ⟨A6, c6, rfl, _⟩ := h6.out.own.form)))
        all_goals
          have HST := hid (below_step (F := fun k i => isV ns i (xl.getD k noIt)) HGS.out HO.out HRW.out HF.out (by have := HG4.out; exact this) HB4.out HF4.out h6.out)
          go_wp2_with fail
          go_roundw
          case rel => exact ⟨j + 1, A6, c6, gs ++ [g4], by omega, by go_num, rfl, hid HST.out.1, hid HST.out.2.1, hid HST.out.2.2.1, hid HST.out.2.2.2⟩
          case measure => simp [intOf]; omega
      · obtain rfl : j = xm := by omega
        obtain ⟨wE, hwE⟩ : ∃ wE : World, wE = wr := ⟨_, rfl⟩
        have HFE := hid (HFA.out.trans HF.out)
        have HBE := hid (HBA.out.fr HF.out (fun h => h))
        -- what stays while the row is filled
        have HFX := hid (show ∀ w', Fr (fun b => b = go) wE w' → Fr (fun _ => False) w1 w' from fun w' hf => by
          rw [← hwE] at HFE
          exact HFE.out.then_ hf (fun i hi e => by have := HGO.out; omega))
        have HROW := hid (show ∀ w', Fr (fun b => b = go) wE w' → ∀ k, k < j → ∃ ab gk, A1 = some ab ∧ w'.cell? (ab.add k) = some (.slice (some ⟨gk, 0, none⟩) M M) ∧ ∀ i, i < M → w'.cell? ⟨gk, i, none⟩ = some (.bool (isV ns i (xl.getD k noIt))) from fun w' hf k hk => by
          rw [hwE] at hf
          obtain ⟨e1, e2, e3⟩ := HRW.out k hk
          obtain ⟨ab, hab, hb1, hb2⟩ := HO.out.rd.1 k (.slice (some ⟨gs.getD k 0, 0, none⟩) M M) (by have := HGS.out; simp [rowC, List.getD_eq_getElem?_getD, List.getElem?_eq_getElem (show k < gs.length by omega)])
          have hga := HBA.out.lt
          have hne : ¬ gs.getD k 0 = go := by omega
          refine ⟨ab, gs.getD k 0, hab, (hf.cell (by rw [block_of_add]; exact hb1) ?_).trans hb2, fun i hi => (hf.cell (p := ⟨gs.getD k 0, i, none⟩) e3.lt hne).trans (e3.cell i hi)⟩
          rw [block_of_add]
          obtain ⟨g, hg, hg2, _⟩ := (HO.out.form).choose_spec.choose_spec.2.2.2 ab (by
            have := (HO.out.form).choose_spec.choose_spec.1
            injection this with this
            rw [← this, hab])
          rw [hg]
          intro e
          have e' : g = go := e
          omega)
        have HCAP := hid (show ∀ ab, A1 = some ab → j ≤ c1 from fun ab _ => by
          obtain ⟨A', c', e1, e2, _⟩ := HO.out.form
          injection e1 with _ _ e3
          omega)
        have HABG := hid (show ∀ ab, A1 = some ab → ¬ ab.block = go from fun ab hab hbb => by
          obtain ⟨A', c', e1, e2, _, e4⟩ := HO.out.form
          injection e1 with e5
          obtain ⟨g, hg, hg2, _⟩ := e4 ab (by rw [← e5, hab])
          rw [hg] at hbb
          have := HBA.out.lt
          have hb2 : g = go := hbb
          omega)
        clear HRW HO HGS HF HBA
        go_wp2_with fail
        refine wp_loop (fun a w' => ∃ k0 : Nat, k0 ≤ M ∧ FrR a.tmps M c xk xn xs Ax j cx w ad A1 c1 go ((M : Int) - 1 - (k0 : Int)) ∧ a.defers = [] ∧ BV w' go M (fun i => if M - k0 ≤ i then isV ns i (.mk xk xn xs xl) else false) ∧ Fr (fun b => b = go) wE w') (fun a _ => (intOf (a.tmps.getD 8 undef) + 1).toNat) ?_ ?_
        · refine ⟨0, Nat.zero_le _, ⟨rfl, rfl, rfl, rfl, rfl, rfl, rfl, rfl, congrArg some (congrArg (Value.int .i64) ?_)⟩, rfl, HBE.out.congr (fun i hi => by rw [if_neg (by omega)]), by rw [hwE]; exact Fr.refl _ _⟩
          first | rfl | (rw [wrap64_in _ (by omega)]; omega) | omega
        · clear HFE HBE hwE
          rintro ⟨t, ds⟩ wr ⟨k0, hk0, hfr, rfl, hbv, hf⟩
          obtain ⟨hsz, g0, g1, g2, g3, g4, g5, g6, g8⟩ := hfr
          obtain ⟨i, hqi⟩ : ∃ i : Int, (M : Int) - 1 - (k0 : Int) = i := ⟨_, rfl⟩
          rw [hqi] at g8
          obtain ⟨T2, hT2⟩ : ∃ T2 : Nat → Value, ∀ i, t.getD i undef = T2 i := ⟨_, fun _ => rfl⟩
          have hlit := lit351T t hsz T2 hT2
          have w2 : ∀ {i : Nat} {v : Value}, t[i]? = some v → T2 i = v := fun h => (hT2 _).symm.trans (getD_of h)
          rw [w2 g0, w2 g1, w2 g2, w2 g3, w2 g4, w2 g5, w2 g6, w2 g8] at hlit
          have hact := congrArg (fun x => (⟨x, []⟩ : Act)) hlit
          simp only at hact
          rw [hact]
          have HF := hid hf
          have HB := hid hbv
          have HF1r := hid (HFX.out wr hf)
          obtain ⟨c0, d0, d1, d2, d3⟩ := HS.out wr HF1r.out
          by_cases hlt : k0 < M
          · obtain ⟨q, rfl⟩ : ∃ q : Nat, i = (q : Int) := ⟨i.toNat, by omega⟩
            refine round2 ns M c h xk xn xs xl Ax j cx lo hi w ad A1 c1 go k0 q wr HLD HWR HM.out hc hMm (by omega) HRN.out HHS.out HAT.out HL.out HGX.out (Nat.le_trans HXS.out hN) HXM.out hxc hxlm hxss hxn c0 d0 d1 d2 d3 (by have := HGO.out; have := HF1.out.size; have := HW1.out; subst this; simp at *; omega) hbv (fun w' hf' => HROW.out w' (hf.trans hf')) HCAP.out HABG.out (fun w' hf' => HF1.out.trans (HFX.out w' (hf.trans hf'))) T2 _ _ (fun t3 w' hfr3 hb3 hf3 => ?_)
            refine ⟨⟨k0 + 1, by omega, ?_, rfl, hb3, hf.trans hf3⟩, ?_⟩
            · rw [show (M : Int) - 1 - ((k0 + 1 : Nat) : Int) = (q : Int) - 1 by omega]
              exact hfr3
            · show (intOf (t3.getD 8 undef) + 1).toNat < (intOf (Value.int .i64 (q : Int)) + 1).toNat
              rw [getD_of hfr3.2.2.2.2.2.2.2.2]
              simp only [intOf]
              omega
          · obtain rfl : k0 = M := by omega
            have hineg : ¬ (0 : Int) ≤ i := by omega
            clear g0 g1 g2 g3 g4 g5 g6 g8 hT2 hlit hact w2 hsz
            go_wp2_with fail
            refine ⟨rfl, .slice (some ⟨go, 0, none⟩) k0 k0, ?_, go, rfl, by have := HGO.out; have := HF1.out.size; omega, HB.out.congr (fun q hq => by rw [if_pos (by omega)]), HF1.out.trans HF1r.out⟩
            first | kernel_rfl | go_simp
end Go.Proofs.YtkmgiodhaaajjaaDoor.DenS
