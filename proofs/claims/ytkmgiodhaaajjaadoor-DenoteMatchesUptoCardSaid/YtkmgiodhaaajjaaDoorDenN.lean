/- Layer denote, the document's answer: a node of the kind Tagged. Layer denote, the document's answer: a node of the kind Tagged. Layer denote, the document's answer: a node of the kind Tagged. -/
import Derived.Test.YtkmgiodhaaajjaaDoorDenHJ
import Derived.BigRegion
import Derived.Deep.RegionHeld3
set_option linter.unusedVariables false
set_option linter.unusedSimpArgs false
namespace Go.Proofs.YtkmgiodhaaajjaaDoor.DenNa
open Go.IntWalk Go.RowKit Go.Proofs.YtkmgiodhaaajjaaDoor.Mem Go.Proofs.YtkmgiodhaaajjaaDoor.App Go.Proofs.YtkmgiodhaaajjaaDoor.FloatB Go.Proofs.YtkmgiodhaaajjaaDoor.ItemP Go.Proofs.YtkmgiodhaaajjaaDoor.ItemM Go.Proofs.YtkmgiodhaaajjaaDoor.ItemB Go.Proofs.YtkmgiodhaaajjaaDoor.Own Go.Proofs.YtkmgiodhaaajjaaDoor.SchP Go.Proofs.YtkmgiodhaaajjaaDoor.SchM Go.Proofs.YtkmgiodhaaajjaaDoor.SchG Go.Proofs.YtkmgiodhaaajjaaDoor.SchI Go.Proofs.YtkmgiodhaaajjaaDoor.SchJ Go.Proofs.YtkmgiodhaaajjaaDoor.DenP Go.Proofs.YtkmgiodhaaajjaaDoor.DenA Go.Proofs.YtkmgiodhaaajjaaDoor.DenD Go.Proofs.YtkmgiodhaaajjaaDoor.DenF Go.Proofs.YtkmgiodhaaajjaaDoor.DenG Go.Proofs.YtkmgiodhaaajjaaDoor.DenH Go.Proofs.YtkmgiodhaaajjaaDoor.DenI Go.Proofs.YtkmgiodhaaajjaaDoor.DenJ

set_option maxRecDepth 1000000 in
set_option maxHeartbeats 16000000 in
theorem case9a (ns : List Nod) (M c h : Nat) (xk : Int) (xn : Nat) (xs : ByteArray) (xl : List It) (Ax : Option Addr) (j cx lo hi : Nat) (w : World) (ad : Addr) (A1 : Option Addr) (c1 go k0 i : Nat) (nlo nhi : Int) (v : It) (l : List Int) (f : List Fld) (Av : Option Addr) (cv : Nat) (Al : Option Addr) (cl : Nat) (Af : Option Addr) (cf : Nat) (x3 : Int) (x4 : Nat) (x5 : ByteArray) (x6 x7 x8 : Nat) (r : Bool) (wr : World) (H : RK ns M c h xk xn xs xl Ax j cx lo hi w ad A1 c1 go k0 i 9 nlo nhi v l f Av cv Al cl Af cf x3 x4 x5 x6 x7 x8 r wr) (h2 : xk = 6) (h3 : (xn : Int) = nlo) (T : Nat → Value) (KK : Act → World → Prop) (Q0 : Exit → Act → World → Prop)
    (hK : ∀ t w', FrR t M c xk xn xs Ax j cx w ad A1 c1 go ((i : Int) - 1) → BV w' go M (fun q => if M - (k0 + 1) ≤ q then isV ns q (It.mk xk xn xs xl) else false) → Fr (fun b => b = go) wr w' → KK ⟨t, []⟩ w') :
    Code.wp Tryd.prog body2 (Exit.then KK Q0) ⟨#[.agg #[.slice (some ad) M c], .agg #[.int .i64 xk, .int .u64 xn, .string xs, .slice Ax j cx], .pointer (some ⟨w.heap.size, 0, none⟩), .pointer (some ⟨w.heap.size + 1, 0, none⟩), .slice none 0 0, .slice (some ⟨go, 0, none⟩) M M, .slice A1 j c1, T 7, .int .i64 (i : Int), T 9, T 10, T 11, T 12, T 13, T 14, T 15, T 16, T 17, T 18, T 19, T 20, T 21, T 22, T 23, T 24, T 25, T 26, T 27, T 28, T 29, T 30, T 31, T 32, T 33, T 34, T 35, T 36, T 37, T 38, T 39, T 40, T 41, T 42, T 43, T 44, T 45, T 46, T 47, T 48, T 49, T 50, T 51, T 52, T 53, T 54, T 55, T 56, T 57, T 58, T 59, T 60, T 61, T 62, T 63, T 64, T 65, T 66, T 67, T 68, T 69, T 70, T 71, T 72, T 73, T 74, T 75, T 76, T 77, T 78, T 79, T 80, T 81, T 82, T 83, T 84, T 85, T 86, T 87, T 88, T 89, T 90, T 91, T 92, T 93, T 94, T 95, T 96, T 97, T 98, T 99, T 100, T 101, T 102, T 103, T 104, T 105, T 106, T 107, T 108, T 109, T 110, T 111, T 112, T 113, T 114, T 115, T 116, T 117, T 118, T 119, T 120, T 121, T 122, T 123, T 124, T 125, T 126, T 127, T 128, T 129, T 130, T 131, T 132, T 133, T 134, T 135, T 136, T 137, T 138, T 139, T 140, T 141, T 142, T 143, T 144, T 145, T 146, T 147, T 148, T 149, T 150, T 151, T 152, T 153, T 154, T 155, T 156, T 157, T 158, T 159, T 160, T 161, T 162, T 163, T 164, T 165, T 166, T 167, T 168, T 169, T 170, T 171, T 172, T 173, T 174, T 175, T 176, T 177, T 178, T 179, T 180, T 181, T 182, T 183, T 184, T 185, T 186, T 187, T 188, T 189, T 190, T 191, T 192, T 193, T 194, T 195, T 196, T 197, T 198, T 199, T 200, T 201, T 202, T 203, T 204, T 205, T 206, T 207, T 208, T 209, T 210, T 211, T 212, T 213, T 214, T 215, T 216, T 217, T 218, T 219, T 220, T 221, T 222, T 223, T 224, T 225, T 226, T 227, T 228, T 229, T 230, T 231, T 232, T 233, T 234, T 235, T 236, T 237, T 238, T 239, T 240, T 241, T 242, T 243, T 244, T 245, T 246, T 247, T 248, T 249, T 250, T 251, T 252, T 253, T 254, T 255, T 256, T 257, T 258, T 259, T 260, T 261, T 262, T 263, T 264, T 265, T 266, T 267, T 268, T 269, T 270, T 271, T 272, T 273, T 274, T 275, T 276, T 277, T 278, T 279, T 280, T 281, T 282, T 283, T 284, T 285, T 286, T 287, T 288, T 289, T 290, T 291, T 292, T 293, T 294, T 295, T 296, T 297, T 298, T 299, T 300, T 301, T 302, T 303, T 304, T 305, T 306, T 307, T 308, T 309, T 310, T 311, T 312, T 313, T 314, T 315, T 316, T 317, T 318, T 319, T 320, T 321, T 322, T 323, T 324, T 325, T 326, T 327, T 328, T 329, T 330, T 331, T 332, T 333, T 334, T 335, T 336, T 337, T 338, T 339, T 340, T 341, T 342, T 343, T 344, T 345, T 346, T 347, T 348, T 349, T 350], []⟩ wr := by
  have HK := hid hK
  have HH := hid H
  have m0 := fun o => cell_a H.n0 o
  have m1 := fun o => cell_a H.n1 o
  have m2 := fun o => cell_a H.n2 o
  have m3 := fun o => cell_a H.n3 o
  have m4 := fun o => cell_a H.n4 o
  have m5 := fun o => cell_a H.n5 o
  have m6 := fun o => cell_a H.n6 o
  have m7 := fun o => cell_a H.n7 o
  have m8 := fun o => cell_a H.n8 o
  have n0 := H.n0
  have n1 := H.n1
  have n2 := H.n2
  have n3 := H.n3
  have n4 := H.n4
  have n5 := H.n5
  have n6 := H.n6
  have n7 := H.n7
  have n8 := H.n8
  have p0 := H.s0
  have p2 := H.y2
  have q0 := fun o => cell_a H.s0 o
  have q1 := fun o => cell_a H.y0 o
  have q2 := fun o => cell_a H.y1 o
  have q3 := fun o => cell_a H.y2 o
  have q4 := fun o => cell_a H.y3 o
  have hi0 : (0 : Int) ≤ (i : Int) := by omega
  have HI64 := hid (show some (Value.int .i64 (wrap64 ((i : Int) - 1))) = some (Value.int .i64 ((i : Int) - 1)) by rw [wrap64_in _ (by have := H.ik; have := H.hM; omega)])
  have him : (i : Int) < (M : Int) := by have := H.ik; omega
  have hic : (i : Int) < (c : Int) := by have := H.ik; have := H.hc; omega
  obtain ⟨w3, hw3⟩ : ∃ w3, wr.alloc (.cells #[.int .i64 9, .int .i64 nlo, .int .i64 nhi, .int .i64 x3, .int .u64 x4, .string x5, .slice Av x6 cv, .slice Al x7 cl, .slice Af x8 cf] 54) = w3 := ⟨_, rfl⟩
  have HST := hid (show ∀ w', Fr (fun _ => False) w3 w' → _ by rw [← hw3]; exact H.step)
  obtain ⟨_, _, _, _, _, _, g1, g2, _, _, hf3⟩ := HST.out w3 (Fr.refl _ _)
  have q5 : (wr.alloc (.cells #[.int .i64 9, .int .i64 nlo, .int .i64 nhi, .int .i64 x3, .int .u64 x4, .string x5, .slice Av x6 cv, .slice Al x7 cl, .slice Af x8 cf] 54)).cell? ⟨go, i, none⟩ = some (.bool false) := by rw [hw3]; exact g1
  have q6 : (wr.alloc (.cells #[.int .i64 9, .int .i64 nlo, .int .i64 nhi, .int .i64 x3, .int .u64 x4, .string x5, .slice Av x6 cv, .slice Al x7 cl, .slice Af x8 cf] 54)).frozen? ⟨go, i, none⟩ = false := by rw [hw3]; exact g2
  have HF3 := hid hf3
  have HW3 := hid hw3
  clear hw3 H hK g1 g2 hf3
  conv => arg 2; whnf
  have HE := hid (show r = (decide (xk = 6) && decide ((xn : Int) = nlo) && isV ns (l.getD 0 0).toNat (xl.getD 0 noIt)) by rw [HH.out.eq, one9 rfl]; rfl)
  have hlo0 : 0 ≤ nlo := bounds_lo HH.out.bo (by simp)
  have hlo1 : nlo ≤ 9223372036854775807 := HH.out.nd.lor.2
  have hwl : IntKind.u64.wrap nlo = nlo := u64_in _ (by omega)
  have hl1 : l.length = 1 := ok_one HH.out.ok (Or.inr rfl)
  obtain ⟨al, q, rfl, ca, hqM, hq, hiq⟩ := getD0 hl1 HH.out.nd.l (fun p hp => HH.out.na p (by simp only [Nod.named, List.mem_append]; exact Or.inl hp))
  obtain rfl : x7 = 1 := by rw [← HH.out.l7, hl1]
  have hcl0 : (0 : Int) < (cl : Int) := by have := HH.out.nd.lc; simp only at this; omega
  have hq0 : (0 : Int) ≤ (q : Int) := by omega
  have hqm : (q : Int) < (M : Int) := by omega
  have h01 : (0 : Int) < 1 := by omega
  have hj1 : j = 1 := by rw [← HH.out.hxm]; exact HH.out.may.tag h2
  subst h2 h3 hj1
  obtain ⟨ab, gk, rfl, hab, hgk⟩ := HH.out.rows w3 (HF3.out.mono (fun _ _ h => h.elim)) 0 (by omega)
  have hc1 : (0 : Int) < (c1 : Int) := by have := HH.out.cap ab rfl; omega
  have HE2 := hid (show r = isV ns q (xl.getD 0 noIt) by rw [HE.out, hq]; simp)
  have hgl := HH.out.bv.lt
  have HABG := hid (HH.out.abg ab rfl)
  have HSS := hid (show ∀ w', Fr (fun b => b = go) w3 w' → w'.cell? ⟨w.heap.size + 1, 0, none⟩ = some (.int .i64 6) ∧ w'.cell? ⟨w.heap.size + 1, 1, none⟩ = some (.int .u64 xn) ∧ w'.cell? ⟨wr.heap.size, 1, none⟩ = some (.int .i64 (xn : Int)) ∧ w'.cell? ⟨wr.heap.size, 7, none⟩ = some (.slice (some al) 1 cl) ∧ w'.cell? al = some (.int .i64 (q : Int)) ∧ w'.cell? ab = some (.slice (some ⟨gk, 0, none⟩) M M) ∧ w'.cell? ⟨gk, q, none⟩ = some (.bool r) ∧ Fr (fun b => b = go) w3 w' from fun w' hf => by
    obtain ⟨_, z1, z2, _, _, zb, _, _, _, _, _⟩ := HST.out w3 (Fr.refl _ _)
    have hg1 := HH.out.go1
    obtain ⟨_, e1, _, _, _, _, _, e7, _⟩ := blk9 (zb.fr hf (show ¬ wr.heap.size = go by omega))
    have hfw : Fr (fun b => b = go) wr w' := (HF3.out.mono (fun _ _ h => h.elim)).trans hf
    obtain ⟨al', hal', _, ca'⟩ := HH.out.keepl w' hfw 0 (by omega)
    obtain ⟨ab', gk', hab', hr', hb'⟩ := HH.out.rows w' hfw 0 (by omega)
    injection hal' with hal'
    injection hab' with hab'
    subst hal' hab'
    rw [hq] at ca'
    have h3 := HH.out.rows w3 (HF3.out.mono (fun _ _ h => h.elim)) 0 (by omega)
    have hgg : gk' = gk := by
      have h1 : w'.cell? (ab.add 0) = w3.cell? (ab.add 0) := hf.cell (World.block_lt_of_cell? w3 _ hab) (fun hb => by
        have hne := HABG.out
        rw [block_of_add] at hb
        exact hne hb)
      rw [hr', hab] at h1
      injection h1 with h1
      injection h1 with h1
      injection h1 with h1
      injection h1
    subst hgg
    exact ⟨(hf.cell (p := ⟨_, _, none⟩) (World.block_lt_of_cell? w3 _ z1) (show ¬ w.heap.size + 1 = go by omega)).trans z1, (hf.cell (p := ⟨_, _, none⟩) (World.block_lt_of_cell? w3 _ z2) (show ¬ w.heap.size + 1 = go by omega)).trans z2, e1, e7, ca', hr', HE2.out ▸ hb' q hqM, hf⟩)
  obtain ⟨_, _, _, _, _, _, z5, z6, _, _, _⟩ := HST.out w3 (Fr.refl _ _)
  clear hgk hq hab
  go_wp2_with fail
  rw [HW3.out]
  clear m0 m1 m2 m3 m4 m5 m6 m7 m8 q0 q1 q2 q3 q4 q5 q6 n0 n1 n2 n3 n4 n5 n6 n7 n8 p0 p2
  go_region_held3 (fun w' => w'.cell? ⟨w.heap.size + 1, 0, none⟩ = some (.int .i64 6) ∧ w'.cell? ⟨w.heap.size + 1, 1, none⟩ = some (.int .u64 xn) ∧ w'.cell? ⟨wr.heap.size, 1, none⟩ = some (.int .i64 (xn : Int)) ∧ w'.cell? ⟨wr.heap.size, 7, none⟩ = some (.slice (some al) 1 cl) ∧ w'.cell? al = some (.int .i64 (q : Int)) ∧ w'.cell? ab = some (.slice (some ⟨gk, 0, none⟩) M M) ∧ w'.cell? ⟨gk, q, none⟩ = some (.bool r) ∧ Fr (fun b => b = go) w3 w')
    (first | exact HSS.out _ (Fr.refl _ _) | exact HSS.out _ (Fr.refl _ _).drew | exact HSS.out _ (Fr.setCell (S := fun b => b = go) (p := ⟨go, i, none⟩) (Fr.refl _ _).drew (.inl rfl) _) | assumption)
    (first | fail)
  go_wp2_with fail
  exact HK.out _ _ ⟨rfl, rfl, rfl, rfl, rfl, rfl, rfl, rfl, HI64.out⟩ (HST.out w3 (Fr.refl _ _)).2.2.2.2.2.2.2.2.1 (HST.out w3 (Fr.refl _ _)).2.2.2.2.2.2.2.2.2.1.drew
end Go.Proofs.YtkmgiodhaaajjaaDoor.DenNa

namespace Go.Proofs.YtkmgiodhaaajjaaDoor.DenNb
open Go.IntWalk Go.RowKit Go.Proofs.YtkmgiodhaaajjaaDoor.Mem Go.Proofs.YtkmgiodhaaajjaaDoor.App Go.Proofs.YtkmgiodhaaajjaaDoor.FloatB Go.Proofs.YtkmgiodhaaajjaaDoor.ItemP Go.Proofs.YtkmgiodhaaajjaaDoor.ItemM Go.Proofs.YtkmgiodhaaajjaaDoor.ItemB Go.Proofs.YtkmgiodhaaajjaaDoor.Own Go.Proofs.YtkmgiodhaaajjaaDoor.SchP Go.Proofs.YtkmgiodhaaajjaaDoor.SchM Go.Proofs.YtkmgiodhaaajjaaDoor.SchG Go.Proofs.YtkmgiodhaaajjaaDoor.SchI Go.Proofs.YtkmgiodhaaajjaaDoor.SchJ Go.Proofs.YtkmgiodhaaajjaaDoor.DenP Go.Proofs.YtkmgiodhaaajjaaDoor.DenA Go.Proofs.YtkmgiodhaaajjaaDoor.DenD Go.Proofs.YtkmgiodhaaajjaaDoor.DenF Go.Proofs.YtkmgiodhaaajjaaDoor.DenG Go.Proofs.YtkmgiodhaaajjaaDoor.DenH Go.Proofs.YtkmgiodhaaajjaaDoor.DenI Go.Proofs.YtkmgiodhaaajjaaDoor.DenJ

set_option maxRecDepth 1000000 in
set_option maxHeartbeats 16000000 in
theorem case9b (ns : List Nod) (M c h : Nat) (xk : Int) (xn : Nat) (xs : ByteArray) (xl : List It) (Ax : Option Addr) (j cx lo hi : Nat) (w : World) (ad : Addr) (A1 : Option Addr) (c1 go k0 i : Nat) (nlo nhi : Int) (v : It) (l : List Int) (f : List Fld) (Av : Option Addr) (cv : Nat) (Al : Option Addr) (cl : Nat) (Af : Option Addr) (cf : Nat) (x3 : Int) (x4 : Nat) (x5 : ByteArray) (x6 x7 x8 : Nat) (r : Bool) (wr : World) (H : RK ns M c h xk xn xs xl Ax j cx lo hi w ad A1 c1 go k0 i 9 nlo nhi v l f Av cv Al cl Af cf x3 x4 x5 x6 x7 x8 r wr) (h2 : xk = 6) (h3 : ¬ (xn : Int) = nlo) (T : Nat → Value) (KK : Act → World → Prop) (Q0 : Exit → Act → World → Prop)
    (hK : ∀ t w', FrR t M c xk xn xs Ax j cx w ad A1 c1 go ((i : Int) - 1) → BV w' go M (fun q => if M - (k0 + 1) ≤ q then isV ns q (It.mk xk xn xs xl) else false) → Fr (fun b => b = go) wr w' → KK ⟨t, []⟩ w') :
    Code.wp Tryd.prog body2 (Exit.then KK Q0) ⟨#[.agg #[.slice (some ad) M c], .agg #[.int .i64 xk, .int .u64 xn, .string xs, .slice Ax j cx], .pointer (some ⟨w.heap.size, 0, none⟩), .pointer (some ⟨w.heap.size + 1, 0, none⟩), .slice none 0 0, .slice (some ⟨go, 0, none⟩) M M, .slice A1 j c1, T 7, .int .i64 (i : Int), T 9, T 10, T 11, T 12, T 13, T 14, T 15, T 16, T 17, T 18, T 19, T 20, T 21, T 22, T 23, T 24, T 25, T 26, T 27, T 28, T 29, T 30, T 31, T 32, T 33, T 34, T 35, T 36, T 37, T 38, T 39, T 40, T 41, T 42, T 43, T 44, T 45, T 46, T 47, T 48, T 49, T 50, T 51, T 52, T 53, T 54, T 55, T 56, T 57, T 58, T 59, T 60, T 61, T 62, T 63, T 64, T 65, T 66, T 67, T 68, T 69, T 70, T 71, T 72, T 73, T 74, T 75, T 76, T 77, T 78, T 79, T 80, T 81, T 82, T 83, T 84, T 85, T 86, T 87, T 88, T 89, T 90, T 91, T 92, T 93, T 94, T 95, T 96, T 97, T 98, T 99, T 100, T 101, T 102, T 103, T 104, T 105, T 106, T 107, T 108, T 109, T 110, T 111, T 112, T 113, T 114, T 115, T 116, T 117, T 118, T 119, T 120, T 121, T 122, T 123, T 124, T 125, T 126, T 127, T 128, T 129, T 130, T 131, T 132, T 133, T 134, T 135, T 136, T 137, T 138, T 139, T 140, T 141, T 142, T 143, T 144, T 145, T 146, T 147, T 148, T 149, T 150, T 151, T 152, T 153, T 154, T 155, T 156, T 157, T 158, T 159, T 160, T 161, T 162, T 163, T 164, T 165, T 166, T 167, T 168, T 169, T 170, T 171, T 172, T 173, T 174, T 175, T 176, T 177, T 178, T 179, T 180, T 181, T 182, T 183, T 184, T 185, T 186, T 187, T 188, T 189, T 190, T 191, T 192, T 193, T 194, T 195, T 196, T 197, T 198, T 199, T 200, T 201, T 202, T 203, T 204, T 205, T 206, T 207, T 208, T 209, T 210, T 211, T 212, T 213, T 214, T 215, T 216, T 217, T 218, T 219, T 220, T 221, T 222, T 223, T 224, T 225, T 226, T 227, T 228, T 229, T 230, T 231, T 232, T 233, T 234, T 235, T 236, T 237, T 238, T 239, T 240, T 241, T 242, T 243, T 244, T 245, T 246, T 247, T 248, T 249, T 250, T 251, T 252, T 253, T 254, T 255, T 256, T 257, T 258, T 259, T 260, T 261, T 262, T 263, T 264, T 265, T 266, T 267, T 268, T 269, T 270, T 271, T 272, T 273, T 274, T 275, T 276, T 277, T 278, T 279, T 280, T 281, T 282, T 283, T 284, T 285, T 286, T 287, T 288, T 289, T 290, T 291, T 292, T 293, T 294, T 295, T 296, T 297, T 298, T 299, T 300, T 301, T 302, T 303, T 304, T 305, T 306, T 307, T 308, T 309, T 310, T 311, T 312, T 313, T 314, T 315, T 316, T 317, T 318, T 319, T 320, T 321, T 322, T 323, T 324, T 325, T 326, T 327, T 328, T 329, T 330, T 331, T 332, T 333, T 334, T 335, T 336, T 337, T 338, T 339, T 340, T 341, T 342, T 343, T 344, T 345, T 346, T 347, T 348, T 349, T 350], []⟩ wr := by
  have HK := hid hK
  have HH := hid H
  have m0 := fun o => cell_a H.n0 o
  have m1 := fun o => cell_a H.n1 o
  have m2 := fun o => cell_a H.n2 o
  have m3 := fun o => cell_a H.n3 o
  have m4 := fun o => cell_a H.n4 o
  have m5 := fun o => cell_a H.n5 o
  have m6 := fun o => cell_a H.n6 o
  have m7 := fun o => cell_a H.n7 o
  have m8 := fun o => cell_a H.n8 o
  have n0 := H.n0
  have n1 := H.n1
  have n2 := H.n2
  have n3 := H.n3
  have n4 := H.n4
  have n5 := H.n5
  have n6 := H.n6
  have n7 := H.n7
  have n8 := H.n8
  have p0 := H.s0
  have p2 := H.y2
  have q0 := fun o => cell_a H.s0 o
  have q1 := fun o => cell_a H.y0 o
  have q2 := fun o => cell_a H.y1 o
  have q3 := fun o => cell_a H.y2 o
  have q4 := fun o => cell_a H.y3 o
  have hi0 : (0 : Int) ≤ (i : Int) := by omega
  have HI64 := hid (show some (Value.int .i64 (wrap64 ((i : Int) - 1))) = some (Value.int .i64 ((i : Int) - 1)) by rw [wrap64_in _ (by have := H.ik; have := H.hM; omega)])
  have him : (i : Int) < (M : Int) := by have := H.ik; omega
  have hic : (i : Int) < (c : Int) := by have := H.ik; have := H.hc; omega
  obtain ⟨w3, hw3⟩ : ∃ w3, wr.alloc (.cells #[.int .i64 9, .int .i64 nlo, .int .i64 nhi, .int .i64 x3, .int .u64 x4, .string x5, .slice Av x6 cv, .slice Al x7 cl, .slice Af x8 cf] 54) = w3 := ⟨_, rfl⟩
  have HST := hid (show ∀ w', Fr (fun _ => False) w3 w' → _ by rw [← hw3]; exact H.step)
  obtain ⟨_, _, _, _, _, _, g1, g2, _, _, hf3⟩ := HST.out w3 (Fr.refl _ _)
  have q5 : (wr.alloc (.cells #[.int .i64 9, .int .i64 nlo, .int .i64 nhi, .int .i64 x3, .int .u64 x4, .string x5, .slice Av x6 cv, .slice Al x7 cl, .slice Af x8 cf] 54)).cell? ⟨go, i, none⟩ = some (.bool false) := by rw [hw3]; exact g1
  have q6 : (wr.alloc (.cells #[.int .i64 9, .int .i64 nlo, .int .i64 nhi, .int .i64 x3, .int .u64 x4, .string x5, .slice Av x6 cv, .slice Al x7 cl, .slice Af x8 cf] 54)).frozen? ⟨go, i, none⟩ = false := by rw [hw3]; exact g2
  have HF3 := hid hf3
  have HW3 := hid hw3
  clear hw3 H hK g1 g2 hf3
  conv => arg 2; whnf
  have HE := hid (show r = (decide (xk = 6) && decide ((xn : Int) = nlo) && isV ns (l.getD 0 0).toNat (xl.getD 0 noIt)) by rw [HH.out.eq, one9 rfl]; rfl)
  have hlo0 : 0 ≤ nlo := bounds_lo HH.out.bo (by simp)
  have hlo1 : nlo ≤ 9223372036854775807 := HH.out.nd.lor.2
  have hwl : IntKind.u64.wrap nlo = nlo := u64_in _ (by omega)
  have hl1 : l.length = 1 := ok_one HH.out.ok (Or.inr rfl)
  obtain ⟨al, q, rfl, ca, hqM, hq, hiq⟩ := getD0 hl1 HH.out.nd.l (fun p hp => HH.out.na p (by simp only [Nod.named, List.mem_append]; exact Or.inl hp))
  obtain rfl : x7 = 1 := by rw [← HH.out.l7, hl1]
  have hcl0 : (0 : Int) < (cl : Int) := by have := HH.out.nd.lc; simp only at this; omega
  have hq0 : (0 : Int) ≤ (q : Int) := by omega
  have hqm : (q : Int) < (M : Int) := by omega
  have h01 : (0 : Int) < 1 := by omega
  obtain rfl : r = false := by rw [HE.out, decide_eq_false h3]; simp
  subst h2
  have hb : ((xn : Int) == nlo) = false := beq_eq_false_iff_ne.2 h3
  clear h3
  obtain ⟨z0, z1, z2, z3, z4, zb, z5, z6, _, _, _⟩ := HST.out w3 (Fr.refl _ _)
  obtain ⟨k0', k1', k2', _, _, _, _, k7', k8'⟩ := blk9 zb
  clear zb
  go_wp2_with fail
  rw [HW3.out]
  clear m0 m1 m2 m3 m4 m5 m6 m7 m8 q0 q1 q2 q3 q4 q5 q6 n0 n1 n2 n3 n4 n5 n6 n7 n8 p0 p2
  go_region
  go_wp2_with fail
  exact HK.out _ _ ⟨rfl, rfl, rfl, rfl, rfl, rfl, rfl, rfl, HI64.out⟩ (HST.out w3 (Fr.refl _ _)).2.2.2.2.2.2.2.2.1 (HST.out w3 (Fr.refl _ _)).2.2.2.2.2.2.2.2.2.1.drew
end Go.Proofs.YtkmgiodhaaajjaaDoor.DenNb

namespace Go.Proofs.YtkmgiodhaaajjaaDoor.DenNc
open Go.IntWalk Go.RowKit Go.Proofs.YtkmgiodhaaajjaaDoor.Mem Go.Proofs.YtkmgiodhaaajjaaDoor.App Go.Proofs.YtkmgiodhaaajjaaDoor.FloatB Go.Proofs.YtkmgiodhaaajjaaDoor.ItemP Go.Proofs.YtkmgiodhaaajjaaDoor.ItemM Go.Proofs.YtkmgiodhaaajjaaDoor.ItemB Go.Proofs.YtkmgiodhaaajjaaDoor.Own Go.Proofs.YtkmgiodhaaajjaaDoor.SchP Go.Proofs.YtkmgiodhaaajjaaDoor.SchM Go.Proofs.YtkmgiodhaaajjaaDoor.SchG Go.Proofs.YtkmgiodhaaajjaaDoor.SchI Go.Proofs.YtkmgiodhaaajjaaDoor.SchJ Go.Proofs.YtkmgiodhaaajjaaDoor.DenP Go.Proofs.YtkmgiodhaaajjaaDoor.DenA Go.Proofs.YtkmgiodhaaajjaaDoor.DenD Go.Proofs.YtkmgiodhaaajjaaDoor.DenF Go.Proofs.YtkmgiodhaaajjaaDoor.DenG Go.Proofs.YtkmgiodhaaajjaaDoor.DenH Go.Proofs.YtkmgiodhaaajjaaDoor.DenI Go.Proofs.YtkmgiodhaaajjaaDoor.DenJ

set_option maxRecDepth 1000000 in
set_option maxHeartbeats 16000000 in
theorem case9c (ns : List Nod) (M c h : Nat) (xk : Int) (xn : Nat) (xs : ByteArray) (xl : List It) (Ax : Option Addr) (j cx lo hi : Nat) (w : World) (ad : Addr) (A1 : Option Addr) (c1 go k0 i : Nat) (nlo nhi : Int) (v : It) (l : List Int) (f : List Fld) (Av : Option Addr) (cv : Nat) (Al : Option Addr) (cl : Nat) (Af : Option Addr) (cf : Nat) (x3 : Int) (x4 : Nat) (x5 : ByteArray) (x6 x7 x8 : Nat) (r : Bool) (wr : World) (H : RK ns M c h xk xn xs xl Ax j cx lo hi w ad A1 c1 go k0 i 9 nlo nhi v l f Av cv Al cl Af cf x3 x4 x5 x6 x7 x8 r wr) (h2 : ¬ xk = 6) (T : Nat → Value) (KK : Act → World → Prop) (Q0 : Exit → Act → World → Prop)
    (hK : ∀ t w', FrR t M c xk xn xs Ax j cx w ad A1 c1 go ((i : Int) - 1) → BV w' go M (fun q => if M - (k0 + 1) ≤ q then isV ns q (It.mk xk xn xs xl) else false) → Fr (fun b => b = go) wr w' → KK ⟨t, []⟩ w') :
    Code.wp Tryd.prog body2 (Exit.then KK Q0) ⟨#[.agg #[.slice (some ad) M c], .agg #[.int .i64 xk, .int .u64 xn, .string xs, .slice Ax j cx], .pointer (some ⟨w.heap.size, 0, none⟩), .pointer (some ⟨w.heap.size + 1, 0, none⟩), .slice none 0 0, .slice (some ⟨go, 0, none⟩) M M, .slice A1 j c1, T 7, .int .i64 (i : Int), T 9, T 10, T 11, T 12, T 13, T 14, T 15, T 16, T 17, T 18, T 19, T 20, T 21, T 22, T 23, T 24, T 25, T 26, T 27, T 28, T 29, T 30, T 31, T 32, T 33, T 34, T 35, T 36, T 37, T 38, T 39, T 40, T 41, T 42, T 43, T 44, T 45, T 46, T 47, T 48, T 49, T 50, T 51, T 52, T 53, T 54, T 55, T 56, T 57, T 58, T 59, T 60, T 61, T 62, T 63, T 64, T 65, T 66, T 67, T 68, T 69, T 70, T 71, T 72, T 73, T 74, T 75, T 76, T 77, T 78, T 79, T 80, T 81, T 82, T 83, T 84, T 85, T 86, T 87, T 88, T 89, T 90, T 91, T 92, T 93, T 94, T 95, T 96, T 97, T 98, T 99, T 100, T 101, T 102, T 103, T 104, T 105, T 106, T 107, T 108, T 109, T 110, T 111, T 112, T 113, T 114, T 115, T 116, T 117, T 118, T 119, T 120, T 121, T 122, T 123, T 124, T 125, T 126, T 127, T 128, T 129, T 130, T 131, T 132, T 133, T 134, T 135, T 136, T 137, T 138, T 139, T 140, T 141, T 142, T 143, T 144, T 145, T 146, T 147, T 148, T 149, T 150, T 151, T 152, T 153, T 154, T 155, T 156, T 157, T 158, T 159, T 160, T 161, T 162, T 163, T 164, T 165, T 166, T 167, T 168, T 169, T 170, T 171, T 172, T 173, T 174, T 175, T 176, T 177, T 178, T 179, T 180, T 181, T 182, T 183, T 184, T 185, T 186, T 187, T 188, T 189, T 190, T 191, T 192, T 193, T 194, T 195, T 196, T 197, T 198, T 199, T 200, T 201, T 202, T 203, T 204, T 205, T 206, T 207, T 208, T 209, T 210, T 211, T 212, T 213, T 214, T 215, T 216, T 217, T 218, T 219, T 220, T 221, T 222, T 223, T 224, T 225, T 226, T 227, T 228, T 229, T 230, T 231, T 232, T 233, T 234, T 235, T 236, T 237, T 238, T 239, T 240, T 241, T 242, T 243, T 244, T 245, T 246, T 247, T 248, T 249, T 250, T 251, T 252, T 253, T 254, T 255, T 256, T 257, T 258, T 259, T 260, T 261, T 262, T 263, T 264, T 265, T 266, T 267, T 268, T 269, T 270, T 271, T 272, T 273, T 274, T 275, T 276, T 277, T 278, T 279, T 280, T 281, T 282, T 283, T 284, T 285, T 286, T 287, T 288, T 289, T 290, T 291, T 292, T 293, T 294, T 295, T 296, T 297, T 298, T 299, T 300, T 301, T 302, T 303, T 304, T 305, T 306, T 307, T 308, T 309, T 310, T 311, T 312, T 313, T 314, T 315, T 316, T 317, T 318, T 319, T 320, T 321, T 322, T 323, T 324, T 325, T 326, T 327, T 328, T 329, T 330, T 331, T 332, T 333, T 334, T 335, T 336, T 337, T 338, T 339, T 340, T 341, T 342, T 343, T 344, T 345, T 346, T 347, T 348, T 349, T 350], []⟩ wr := by
  have HK := hid hK
  have HH := hid H
  have m0 := fun o => cell_a H.n0 o
  have m1 := fun o => cell_a H.n1 o
  have m2 := fun o => cell_a H.n2 o
  have m3 := fun o => cell_a H.n3 o
  have m4 := fun o => cell_a H.n4 o
  have m5 := fun o => cell_a H.n5 o
  have m6 := fun o => cell_a H.n6 o
  have m7 := fun o => cell_a H.n7 o
  have m8 := fun o => cell_a H.n8 o
  have n0 := H.n0
  have n1 := H.n1
  have n2 := H.n2
  have n3 := H.n3
  have n4 := H.n4
  have n5 := H.n5
  have n6 := H.n6
  have n7 := H.n7
  have n8 := H.n8
  have p0 := H.s0
  have p2 := H.y2
  have q0 := fun o => cell_a H.s0 o
  have q1 := fun o => cell_a H.y0 o
  have q2 := fun o => cell_a H.y1 o
  have q3 := fun o => cell_a H.y2 o
  have q4 := fun o => cell_a H.y3 o
  have hi0 : (0 : Int) ≤ (i : Int) := by omega
  have HI64 := hid (show some (Value.int .i64 (wrap64 ((i : Int) - 1))) = some (Value.int .i64 ((i : Int) - 1)) by rw [wrap64_in _ (by have := H.ik; have := H.hM; omega)])
  have him : (i : Int) < (M : Int) := by have := H.ik; omega
  have hic : (i : Int) < (c : Int) := by have := H.ik; have := H.hc; omega
  obtain ⟨w3, hw3⟩ : ∃ w3, wr.alloc (.cells #[.int .i64 9, .int .i64 nlo, .int .i64 nhi, .int .i64 x3, .int .u64 x4, .string x5, .slice Av x6 cv, .slice Al x7 cl, .slice Af x8 cf] 54) = w3 := ⟨_, rfl⟩
  have HST := hid (show ∀ w', Fr (fun _ => False) w3 w' → _ by rw [← hw3]; exact H.step)
  obtain ⟨_, _, _, _, _, _, g1, g2, _, _, hf3⟩ := HST.out w3 (Fr.refl _ _)
  have q5 : (wr.alloc (.cells #[.int .i64 9, .int .i64 nlo, .int .i64 nhi, .int .i64 x3, .int .u64 x4, .string x5, .slice Av x6 cv, .slice Al x7 cl, .slice Af x8 cf] 54)).cell? ⟨go, i, none⟩ = some (.bool false) := by rw [hw3]; exact g1
  have q6 : (wr.alloc (.cells #[.int .i64 9, .int .i64 nlo, .int .i64 nhi, .int .i64 x3, .int .u64 x4, .string x5, .slice Av x6 cv, .slice Al x7 cl, .slice Af x8 cf] 54)).frozen? ⟨go, i, none⟩ = false := by rw [hw3]; exact g2
  have HF3 := hid hf3
  have HW3 := hid hw3
  clear hw3 H hK g1 g2 hf3
  conv => arg 2; whnf
  have HE := hid (show r = (decide (xk = 6) && decide ((xn : Int) = nlo) && isV ns (l.getD 0 0).toNat (xl.getD 0 noIt)) by rw [HH.out.eq, one9 rfl]; rfl)
  have hlo0 : 0 ≤ nlo := bounds_lo HH.out.bo (by simp)
  have hlo1 : nlo ≤ 9223372036854775807 := HH.out.nd.lor.2
  have hwl : IntKind.u64.wrap nlo = nlo := u64_in _ (by omega)
  have hl1 : l.length = 1 := ok_one HH.out.ok (Or.inr rfl)
  obtain ⟨al, q, rfl, ca, hqM, hq, hiq⟩ := getD0 hl1 HH.out.nd.l (fun p hp => HH.out.na p (by simp only [Nod.named, List.mem_append]; exact Or.inl hp))
  obtain rfl : x7 = 1 := by rw [← HH.out.l7, hl1]
  have hcl0 : (0 : Int) < (cl : Int) := by have := HH.out.nd.lc; simp only at this; omega
  have hq0 : (0 : Int) ≤ (q : Int) := by omega
  have hqm : (q : Int) < (M : Int) := by omega
  have h01 : (0 : Int) < 1 := by omega
  obtain rfl : r = false := by rw [HE.out, decide_eq_false h2]; rfl
  have hb : (xk == 6) = false := beq_eq_false_iff_ne.2 h2
  obtain ⟨z0, z1, z2, z3, z4, zb, z5, z6, _, _, _⟩ := HST.out w3 (Fr.refl _ _)
  obtain ⟨k0', k1', k2', _, _, _, _, k7', k8'⟩ := blk9 zb
  clear zb
  go_wp2_with fail
  rw [HW3.out]
  clear m0 m1 m2 m3 m4 m5 m6 m7 m8 q0 q1 q2 q3 q4 q5 q6 n0 n1 n2 n3 n4 n5 n6 n7 n8 p0 p2
  go_region
  go_wp2_with fail
  exact HK.out _ _ ⟨rfl, rfl, rfl, rfl, rfl, rfl, rfl, rfl, HI64.out⟩ (HST.out w3 (Fr.refl _ _)).2.2.2.2.2.2.2.2.1 (HST.out w3 (Fr.refl _ _)).2.2.2.2.2.2.2.2.2.1.drew
end Go.Proofs.YtkmgiodhaaajjaaDoor.DenNc
