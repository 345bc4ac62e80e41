/- Layer denote, the document's answer: a node of the kind Record: the search for a key. Layer denote, the document's answer: a node of the kind Record: a field's turn. Layer denote, the document's answer: a node of the kind Record, a map. -/
import Derived.Test.YtkmgiodhaaajjaaDoorDenHJ
import Derived.Deep.QuietTactic
import Derived.BigQuiet
import Derived.Deep.RegionHeld3
import Derived.Test.YtkmgiodhaaajjaaDoorDenKR
set_option linter.unusedVariables false
set_option linter.unusedSimpArgs false
namespace Go.Proofs.YtkmgiodhaaajjaaDoor.DenRk
open Go.IntWalk Go.RowKit Go.Proofs.YtkmgiodhaaajjaaDoor.Mem Go.Proofs.YtkmgiodhaaajjaaDoor.App Go.Proofs.YtkmgiodhaaajjaaDoor.FloatB Go.Proofs.YtkmgiodhaaajjaaDoor.ItemP Go.Proofs.YtkmgiodhaaajjaaDoor.ItemM Go.Proofs.YtkmgiodhaaajjaaDoor.ItemB Go.Proofs.YtkmgiodhaaajjaaDoor.DenP Go.Proofs.YtkmgiodhaaajjaaDoor.DenI

/-- The round over the fields, and the round over the pairs in it. -/
noncomputable def bodyF : Code := (loopsOf body2).getD 2 .skip
noncomputable def bodyK : Code := (loopsOf bodyF).getD 0 .skip
/-- The frame behind a pair's turn. -/
def FrK (t : Array Value) (T : Nat → Value) (bx bn p : Nat) (a z : Int) : Prop :=
  t.size = 351 ∧ t[0]? = some (T 0) ∧ t[1]? = some (T 1) ∧ t[2]? = some (T 2) ∧ t[4]? = some (T 4) ∧ t[5]? = some (T 5) ∧ t[6]? = some (T 6) ∧ t[8]? = some (T 8) ∧ t[15]? = some (T 15) ∧ t[16]? = some (T 16) ∧ t[3]? = some (.pointer (some ⟨bx, 0, none⟩)) ∧ t[9]? = some (.pointer (some ⟨bn, 0, none⟩)) ∧ t[17]? = some (.int .i64 (p : Int)) ∧ t[18]? = some (.int .i64 a) ∧ t[19]? = some (.int .i64 z)

set_option maxRecDepth 1000000 in
set_option maxHeartbeats 16000000 in
theorem kYes (T : Nat → Value) (bx bn : Nat) (ab af : Addr) (j cx x8 cf p z : Nat) (a k' : Int) (s' key : ByteArray) (wk : World) (hj : j ≤ 2000000) (hz : z < j) (hjc : j ≤ cx) (hp : p < x8) (hxc : x8 ≤ cf)
    (c3 : wk.cell? ⟨bx, 3, none⟩ = some (.slice (some ab) j cx)) (c8 : wk.cell? ⟨bn, 8, none⟩ = some (.slice (some af) x8 cf)) (d0 : wk.cell? (ab.add (z * 4)) = some (.int .i64 k')) (d2 : wk.cell? ⟨(ab.add (z * 4)).block, (ab.add (z * 4)).off + 2, none⟩ = some (.string s')) (f0 : wk.cell? (af.add (p * 3)) = some (.string key)) (h3 : k' = 3) (hs : s' = key)
    (KK : Act → World → Prop) (Q0 : Exit → Act → World → Prop) (hK : ∀ t n, FrK t T bx bn p (z : Int) ((z : Int) + 2) → KK ⟨t, []⟩ (wk.drewN n)) :
    Code.wp Tryd.prog bodyK (Exit.then KK Q0) ⟨#[T 0, T 1, T 2, .pointer (some ⟨bx, 0, none⟩), T 4, T 5, T 6, T 7, T 8, .pointer (some ⟨bn, 0, none⟩), T 10, T 11, T 12, T 13, T 14, T 15, T 16, .int .i64 (p : Int), .int .i64 a, .int .i64 (z : Int), T 20, T 21, T 22, T 23, T 24, T 25, T 26, T 27, T 28, T 29, T 30, T 31, T 32, T 33, T 34, T 35, T 36, T 37, T 38, T 39, T 40, T 41, T 42, T 43, T 44, T 45, T 46, T 47, T 48, T 49, T 50, T 51, T 52, T 53, T 54, T 55, T 56, T 57, T 58, T 59, T 60, T 61, T 62, T 63, T 64, T 65, T 66, T 67, T 68, T 69, T 70, T 71, T 72, T 73, T 74, T 75, T 76, T 77, T 78, T 79, T 80, T 81, T 82, T 83, T 84, T 85, T 86, T 87, T 88, T 89, T 90, T 91, T 92, T 93, T 94, T 95, T 96, T 97, T 98, T 99, T 100, T 101, T 102, T 103, T 104, T 105, T 106, T 107, T 108, T 109, T 110, T 111, T 112, T 113, T 114, T 115, T 116, T 117, T 118, T 119, T 120, T 121, T 122, T 123, T 124, T 125, T 126, T 127, T 128, T 129, T 130, T 131, T 132, T 133, T 134, T 135, T 136, T 137, T 138, T 139, T 140, T 141, T 142, T 143, T 144, T 145, T 146, T 147, T 148, T 149, T 150, T 151, T 152, T 153, T 154, T 155, T 156, T 157, T 158, T 159, T 160, T 161, T 162, T 163, T 164, T 165, T 166, T 167, T 168, T 169, T 170, T 171, T 172, T 173, T 174, T 175, T 176, T 177, T 178, T 179, T 180, T 181, T 182, T 183, T 184, T 185, T 186, T 187, T 188, T 189, T 190, T 191, T 192, T 193, T 194, T 195, T 196, T 197, T 198, T 199, T 200, T 201, T 202, T 203, T 204, T 205, T 206, T 207, T 208, T 209, T 210, T 211, T 212, T 213, T 214, T 215, T 216, T 217, T 218, T 219, T 220, T 221, T 222, T 223, T 224, T 225, T 226, T 227, T 228, T 229, T 230, T 231, T 232, T 233, T 234, T 235, T 236, T 237, T 238, T 239, T 240, T 241, T 242, T 243, T 244, T 245, T 246, T 247, T 248, T 249, T 250, T 251, T 252, T 253, T 254, T 255, T 256, T 257, T 258, T 259, T 260, T 261, T 262, T 263, T 264, T 265, T 266, T 267, T 268, T 269, T 270, T 271, T 272, T 273, T 274, T 275, T 276, T 277, T 278, T 279, T 280, T 281, T 282, T 283, T 284, T 285, T 286, T 287, T 288, T 289, T 290, T 291, T 292, T 293, T 294, T 295, T 296, T 297, T 298, T 299, T 300, T 301, T 302, T 303, T 304, T 305, T 306, T 307, T 308, T 309, T 310, T 311, T 312, T 313, T 314, T 315, T 316, T 317, T 318, T 319, T 320, T 321, T 322, T 323, T 324, T 325, T 326, T 327, T 328, T 329, T 330, T 331, T 332, T 333, T 334, T 335, T 336, T 337, T 338, T 339, T 340, T 341, T 342, T 343, T 344, T 345, T 346, T 347, T 348, T 349, T 350], []⟩ wk := by
  have HK := hid hK
  have hz0 : (0 : Int) ≤ (z : Int) := by omega
  have hzj : (z : Int) < (j : Int) := by omega
  have hzc : (z : Int) < (cx : Int) := by omega
  have hp0 : (0 : Int) ≤ (p : Int) := by omega
  have hp8 : (p : Int) < (x8 : Int) := by omega
  have hpc : (p : Int) < (cf : Int) := by omega
  have HZ2 := hid (show some (Value.int .i64 (wrap64 ((z : Int) + 2))) = some (Value.int .i64 ((z : Int) + 2)) by rw [wrap64_in _ (by omega)])
  subst h3 hs
  clear hK
  conv => arg 2; whnf
  go_wp2_with fail
  go_quiet (fail)
  go_wp2_with fail
  exact HK.out _ _ ⟨rfl, rfl, rfl, rfl, rfl, rfl, rfl, rfl, rfl, rfl, rfl, rfl, rfl, rfl, rfl⟩

set_option maxRecDepth 1000000 in
set_option maxHeartbeats 16000000 in
theorem kText (T : Nat → Value) (bx bn : Nat) (ab af : Addr) (j cx x8 cf p z : Nat) (a k' : Int) (s' key : ByteArray) (wk : World) (hj : j ≤ 2000000) (hz : z < j) (hjc : j ≤ cx) (hp : p < x8) (hxc : x8 ≤ cf)
    (c3 : wk.cell? ⟨bx, 3, none⟩ = some (.slice (some ab) j cx)) (c8 : wk.cell? ⟨bn, 8, none⟩ = some (.slice (some af) x8 cf)) (d0 : wk.cell? (ab.add (z * 4)) = some (.int .i64 k')) (d2 : wk.cell? ⟨(ab.add (z * 4)).block, (ab.add (z * 4)).off + 2, none⟩ = some (.string s')) (f0 : wk.cell? (af.add (p * 3)) = some (.string key)) (h3 : k' = 3) (hs : ¬ s' = key)
    (KK : Act → World → Prop) (Q0 : Exit → Act → World → Prop) (hK : ∀ t n, FrK t T bx bn p a ((z : Int) + 2) → KK ⟨t, []⟩ (wk.drewN n)) :
    Code.wp Tryd.prog bodyK (Exit.then KK Q0) ⟨#[T 0, T 1, T 2, .pointer (some ⟨bx, 0, none⟩), T 4, T 5, T 6, T 7, T 8, .pointer (some ⟨bn, 0, none⟩), T 10, T 11, T 12, T 13, T 14, T 15, T 16, .int .i64 (p : Int), .int .i64 a, .int .i64 (z : Int), T 20, T 21, T 22, T 23, T 24, T 25, T 26, T 27, T 28, T 29, T 30, T 31, T 32, T 33, T 34, T 35, T 36, T 37, T 38, T 39, T 40, T 41, T 42, T 43, T 44, T 45, T 46, T 47, T 48, T 49, T 50, T 51, T 52, T 53, T 54, T 55, T 56, T 57, T 58, T 59, T 60, T 61, T 62, T 63, T 64, T 65, T 66, T 67, T 68, T 69, T 70, T 71, T 72, T 73, T 74, T 75, T 76, T 77, T 78, T 79, T 80, T 81, T 82, T 83, T 84, T 85, T 86, T 87, T 88, T 89, T 90, T 91, T 92, T 93, T 94, T 95, T 96, T 97, T 98, T 99, T 100, T 101, T 102, T 103, T 104, T 105, T 106, T 107, T 108, T 109, T 110, T 111, T 112, T 113, T 114, T 115, T 116, T 117, T 118, T 119, T 120, T 121, T 122, T 123, T 124, T 125, T 126, T 127, T 128, T 129, T 130, T 131, T 132, T 133, T 134, T 135, T 136, T 137, T 138, T 139, T 140, T 141, T 142, T 143, T 144, T 145, T 146, T 147, T 148, T 149, T 150, T 151, T 152, T 153, T 154, T 155, T 156, T 157, T 158, T 159, T 160, T 161, T 162, T 163, T 164, T 165, T 166, T 167, T 168, T 169, T 170, T 171, T 172, T 173, T 174, T 175, T 176, T 177, T 178, T 179, T 180, T 181, T 182, T 183, T 184, T 185, T 186, T 187, T 188, T 189, T 190, T 191, T 192, T 193, T 194, T 195, T 196, T 197, T 198, T 199, T 200, T 201, T 202, T 203, T 204, T 205, T 206, T 207, T 208, T 209, T 210, T 211, T 212, T 213, T 214, T 215, T 216, T 217, T 218, T 219, T 220, T 221, T 222, T 223, T 224, T 225, T 226, T 227, T 228, T 229, T 230, T 231, T 232, T 233, T 234, T 235, T 236, T 237, T 238, T 239, T 240, T 241, T 242, T 243, T 244, T 245, T 246, T 247, T 248, T 249, T 250, T 251, T 252, T 253, T 254, T 255, T 256, T 257, T 258, T 259, T 260, T 261, T 262, T 263, T 264, T 265, T 266, T 267, T 268, T 269, T 270, T 271, T 272, T 273, T 274, T 275, T 276, T 277, T 278, T 279, T 280, T 281, T 282, T 283, T 284, T 285, T 286, T 287, T 288, T 289, T 290, T 291, T 292, T 293, T 294, T 295, T 296, T 297, T 298, T 299, T 300, T 301, T 302, T 303, T 304, T 305, T 306, T 307, T 308, T 309, T 310, T 311, T 312, T 313, T 314, T 315, T 316, T 317, T 318, T 319, T 320, T 321, T 322, T 323, T 324, T 325, T 326, T 327, T 328, T 329, T 330, T 331, T 332, T 333, T 334, T 335, T 336, T 337, T 338, T 339, T 340, T 341, T 342, T 343, T 344, T 345, T 346, T 347, T 348, T 349, T 350], []⟩ wk := by
  have HK := hid hK
  have hz0 : (0 : Int) ≤ (z : Int) := by omega
  have hzj : (z : Int) < (j : Int) := by omega
  have hzc : (z : Int) < (cx : Int) := by omega
  have hp0 : (0 : Int) ≤ (p : Int) := by omega
  have hp8 : (p : Int) < (x8 : Int) := by omega
  have hpc : (p : Int) < (cf : Int) := by omega
  have HZ2 := hid (show some (Value.int .i64 (wrap64 ((z : Int) + 2))) = some (Value.int .i64 ((z : Int) + 2)) by rw [wrap64_in _ (by omega)])
  have hb := txt_ne hs
  subst h3
  clear hs
  clear hK
  conv => arg 2; whnf
  go_wp2_with fail
  go_quiet (fail)
  go_wp2_with fail
  exact HK.out _ _ ⟨rfl, rfl, rfl, rfl, rfl, rfl, rfl, rfl, rfl, rfl, rfl, rfl, rfl, rfl, rfl⟩

set_option maxRecDepth 1000000 in
set_option maxHeartbeats 16000000 in
theorem kKind (T : Nat → Value) (bx bn : Nat) (ab af : Addr) (j cx x8 cf p z : Nat) (a k' : Int) (s' key : ByteArray) (wk : World) (hj : j ≤ 2000000) (hz : z < j) (hjc : j ≤ cx) (hp : p < x8) (hxc : x8 ≤ cf)
    (c3 : wk.cell? ⟨bx, 3, none⟩ = some (.slice (some ab) j cx)) (c8 : wk.cell? ⟨bn, 8, none⟩ = some (.slice (some af) x8 cf)) (d0 : wk.cell? (ab.add (z * 4)) = some (.int .i64 k')) (d2 : wk.cell? ⟨(ab.add (z * 4)).block, (ab.add (z * 4)).off + 2, none⟩ = some (.string s')) (f0 : wk.cell? (af.add (p * 3)) = some (.string key)) (h3 : ¬ k' = 3)
    (KK : Act → World → Prop) (Q0 : Exit → Act → World → Prop) (hK : ∀ t n, FrK t T bx bn p a ((z : Int) + 2) → KK ⟨t, []⟩ (wk.drewN n)) :
    Code.wp Tryd.prog bodyK (Exit.then KK Q0) ⟨#[T 0, T 1, T 2, .pointer (some ⟨bx, 0, none⟩), T 4, T 5, T 6, T 7, T 8, .pointer (some ⟨bn, 0, none⟩), T 10, T 11, T 12, T 13, T 14, T 15, T 16, .int .i64 (p : Int), .int .i64 a, .int .i64 (z : Int), T 20, T 21, T 22, T 23, T 24, T 25, T 26, T 27, T 28, T 29, T 30, T 31, T 32, T 33, T 34, T 35, T 36, T 37, T 38, T 39, T 40, T 41, T 42, T 43, T 44, T 45, T 46, T 47, T 48, T 49, T 50, T 51, T 52, T 53, T 54, T 55, T 56, T 57, T 58, T 59, T 60, T 61, T 62, T 63, T 64, T 65, T 66, T 67, T 68, T 69, T 70, T 71, T 72, T 73, T 74, T 75, T 76, T 77, T 78, T 79, T 80, T 81, T 82, T 83, T 84, T 85, T 86, T 87, T 88, T 89, T 90, T 91, T 92, T 93, T 94, T 95, T 96, T 97, T 98, T 99, T 100, T 101, T 102, T 103, T 104, T 105, T 106, T 107, T 108, T 109, T 110, T 111, T 112, T 113, T 114, T 115, T 116, T 117, T 118, T 119, T 120, T 121, T 122, T 123, T 124, T 125, T 126, T 127, T 128, T 129, T 130, T 131, T 132, T 133, T 134, T 135, T 136, T 137, T 138, T 139, T 140, T 141, T 142, T 143, T 144, T 145, T 146, T 147, T 148, T 149, T 150, T 151, T 152, T 153, T 154, T 155, T 156, T 157, T 158, T 159, T 160, T 161, T 162, T 163, T 164, T 165, T 166, T 167, T 168, T 169, T 170, T 171, T 172, T 173, T 174, T 175, T 176, T 177, T 178, T 179, T 180, T 181, T 182, T 183, T 184, T 185, T 186, T 187, T 188, T 189, T 190, T 191, T 192, T 193, T 194, T 195, T 196, T 197, T 198, T 199, T 200, T 201, T 202, T 203, T 204, T 205, T 206, T 207, T 208, T 209, T 210, T 211, T 212, T 213, T 214, T 215, T 216, T 217, T 218, T 219, T 220, T 221, T 222, T 223, T 224, T 225, T 226, T 227, T 228, T 229, T 230, T 231, T 232, T 233, T 234, T 235, T 236, T 237, T 238, T 239, T 240, T 241, T 242, T 243, T 244, T 245, T 246, T 247, T 248, T 249, T 250, T 251, T 252, T 253, T 254, T 255, T 256, T 257, T 258, T 259, T 260, T 261, T 262, T 263, T 264, T 265, T 266, T 267, T 268, T 269, T 270, T 271, T 272, T 273, T 274, T 275, T 276, T 277, T 278, T 279, T 280, T 281, T 282, T 283, T 284, T 285, T 286, T 287, T 288, T 289, T 290, T 291, T 292, T 293, T 294, T 295, T 296, T 297, T 298, T 299, T 300, T 301, T 302, T 303, T 304, T 305, T 306, T 307, T 308, T 309, T 310, T 311, T 312, T 313, T 314, T 315, T 316, T 317, T 318, T 319, T 320, T 321, T 322, T 323, T 324, T 325, T 326, T 327, T 328, T 329, T 330, T 331, T 332, T 333, T 334, T 335, T 336, T 337, T 338, T 339, T 340, T 341, T 342, T 343, T 344, T 345, T 346, T 347, T 348, T 349, T 350], []⟩ wk := by
  have HK := hid hK
  have hz0 : (0 : Int) ≤ (z : Int) := by omega
  have hzj : (z : Int) < (j : Int) := by omega
  have hzc : (z : Int) < (cx : Int) := by omega
  have hp0 : (0 : Int) ≤ (p : Int) := by omega
  have hp8 : (p : Int) < (x8 : Int) := by omega
  have hpc : (p : Int) < (cf : Int) := by omega
  have HZ2 := hid (show some (Value.int .i64 (wrap64 ((z : Int) + 2))) = some (Value.int .i64 ((z : Int) + 2)) by rw [wrap64_in _ (by omega)])
  have hb : (k' == 3) = false := beq_eq_false_iff_ne.2 h3
  clear hK
  conv => arg 2; whnf
  go_wp2_with fail
  go_quiet (fail)
  go_wp2_with fail
  exact HK.out _ _ ⟨rfl, rfl, rfl, rfl, rfl, rfl, rfl, rfl, rfl, rfl, rfl, rfl, rfl, rfl, rfl⟩

set_option maxRecDepth 1000000 in
set_option maxHeartbeats 16000000 in
/-- A frame of 351 slots, written out. -/
theorem lit351 (t : Array Value) (h : t.size = 351) : t = #[t.getD 0 undef, t.getD 1 undef, t.getD 2 undef, t.getD 3 undef, t.getD 4 undef, t.getD 5 undef, t.getD 6 undef, t.getD 7 undef, t.getD 8 undef, t.getD 9 undef, t.getD 10 undef, t.getD 11 undef, t.getD 12 undef, t.getD 13 undef, t.getD 14 undef, t.getD 15 undef, t.getD 16 undef, t.getD 17 undef, t.getD 18 undef, t.getD 19 undef, t.getD 20 undef, t.getD 21 undef, t.getD 22 undef, t.getD 23 undef, t.getD 24 undef, t.getD 25 undef, t.getD 26 undef, t.getD 27 undef, t.getD 28 undef, t.getD 29 undef, t.getD 30 undef, t.getD 31 undef, t.getD 32 undef, t.getD 33 undef, t.getD 34 undef, t.getD 35 undef, t.getD 36 undef, t.getD 37 undef, t.getD 38 undef, t.getD 39 undef, t.getD 40 undef, t.getD 41 undef, t.getD 42 undef, t.getD 43 undef, t.getD 44 undef, t.getD 45 undef, t.getD 46 undef, t.getD 47 undef, t.getD 48 undef, t.getD 49 undef, t.getD 50 undef, t.getD 51 undef, t.getD 52 undef, t.getD 53 undef, t.getD 54 undef, t.getD 55 undef, t.getD 56 undef, t.getD 57 undef, t.getD 58 undef, t.getD 59 undef, t.getD 60 undef, t.getD 61 undef, t.getD 62 undef, t.getD 63 undef, t.getD 64 undef, t.getD 65 undef, t.getD 66 undef, t.getD 67 undef, t.getD 68 undef, t.getD 69 undef, t.getD 70 undef, t.getD 71 undef, t.getD 72 undef, t.getD 73 undef, t.getD 74 undef, t.getD 75 undef, t.getD 76 undef, t.getD 77 undef, t.getD 78 undef, t.getD 79 undef, t.getD 80 undef, t.getD 81 undef, t.getD 82 undef, t.getD 83 undef, t.getD 84 undef, t.getD 85 undef, t.getD 86 undef, t.getD 87 undef, t.getD 88 undef, t.getD 89 undef, t.getD 90 undef, t.getD 91 undef, t.getD 92 undef, t.getD 93 undef, t.getD 94 undef, t.getD 95 undef, t.getD 96 undef, t.getD 97 undef, t.getD 98 undef, t.getD 99 undef, t.getD 100 undef, t.getD 101 undef, t.getD 102 undef, t.getD 103 undef, t.getD 104 undef, t.getD 105 undef, t.getD 106 undef, t.getD 107 undef, t.getD 108 undef, t.getD 109 undef, t.getD 110 undef, t.getD 111 undef, t.getD 112 undef, t.getD 113 undef, t.getD 114 undef, t.getD 115 undef, t.getD 116 undef, t.getD 117 undef, t.getD 118 undef, t.getD 119 undef, t.getD 120 undef, t.getD 121 undef, t.getD 122 undef, t.getD 123 undef, t.getD 124 undef, t.getD 125 undef, t.getD 126 undef, t.getD 127 undef, t.getD 128 undef, t.getD 129 undef, t.getD 130 undef, t.getD 131 undef, t.getD 132 undef, t.getD 133 undef, t.getD 134 undef, t.getD 135 undef, t.getD 136 undef, t.getD 137 undef, t.getD 138 undef, t.getD 139 undef, t.getD 140 undef, t.getD 141 undef, t.getD 142 undef, t.getD 143 undef, t.getD 144 undef, t.getD 145 undef, t.getD 146 undef, t.getD 147 undef, t.getD 148 undef, t.getD 149 undef, t.getD 150 undef, t.getD 151 undef, t.getD 152 undef, t.getD 153 undef, t.getD 154 undef, t.getD 155 undef, t.getD 156 undef, t.getD 157 undef, t.getD 158 undef, t.getD 159 undef, t.getD 160 undef, t.getD 161 undef, t.getD 162 undef, t.getD 163 undef, t.getD 164 undef, t.getD 165 undef, t.getD 166 undef, t.getD 167 undef, t.getD 168 undef, t.getD 169 undef, t.getD 170 undef, t.getD 171 undef, t.getD 172 undef, t.getD 173 undef, t.getD 174 undef, t.getD 175 undef, t.getD 176 undef, t.getD 177 undef, t.getD 178 undef, t.getD 179 undef, t.getD 180 undef, t.getD 181 undef, t.getD 182 undef, t.getD 183 undef, t.getD 184 undef, t.getD 185 undef, t.getD 186 undef, t.getD 187 undef, t.getD 188 undef, t.getD 189 undef, t.getD 190 undef, t.getD 191 undef, t.getD 192 undef, t.getD 193 undef, t.getD 194 undef, t.getD 195 undef, t.getD 196 undef, t.getD 197 undef, t.getD 198 undef, t.getD 199 undef, t.getD 200 undef, t.getD 201 undef, t.getD 202 undef, t.getD 203 undef, t.getD 204 undef, t.getD 205 undef, t.getD 206 undef, t.getD 207 undef, t.getD 208 undef, t.getD 209 undef, t.getD 210 undef, t.getD 211 undef, t.getD 212 undef, t.getD 213 undef, t.getD 214 undef, t.getD 215 undef, t.getD 216 undef, t.getD 217 undef, t.getD 218 undef, t.getD 219 undef, t.getD 220 undef, t.getD 221 undef, t.getD 222 undef, t.getD 223 undef, t.getD 224 undef, t.getD 225 undef, t.getD 226 undef, t.getD 227 undef, t.getD 228 undef, t.getD 229 undef, t.getD 230 undef, t.getD 231 undef, t.getD 232 undef, t.getD 233 undef, t.getD 234 undef, t.getD 235 undef, t.getD 236 undef, t.getD 237 undef, t.getD 238 undef, t.getD 239 undef, t.getD 240 undef, t.getD 241 undef, t.getD 242 undef, t.getD 243 undef, t.getD 244 undef, t.getD 245 undef, t.getD 246 undef, t.getD 247 undef, t.getD 248 undef, t.getD 249 undef, t.getD 250 undef, t.getD 251 undef, t.getD 252 undef, t.getD 253 undef, t.getD 254 undef, t.getD 255 undef, t.getD 256 undef, t.getD 257 undef, t.getD 258 undef, t.getD 259 undef, t.getD 260 undef, t.getD 261 undef, t.getD 262 undef, t.getD 263 undef, t.getD 264 undef, t.getD 265 undef, t.getD 266 undef, t.getD 267 undef, t.getD 268 undef, t.getD 269 undef, t.getD 270 undef, t.getD 271 undef, t.getD 272 undef, t.getD 273 undef, t.getD 274 undef, t.getD 275 undef, t.getD 276 undef, t.getD 277 undef, t.getD 278 undef, t.getD 279 undef, t.getD 280 undef, t.getD 281 undef, t.getD 282 undef, t.getD 283 undef, t.getD 284 undef, t.getD 285 undef, t.getD 286 undef, t.getD 287 undef, t.getD 288 undef, t.getD 289 undef, t.getD 290 undef, t.getD 291 undef, t.getD 292 undef, t.getD 293 undef, t.getD 294 undef, t.getD 295 undef, t.getD 296 undef, t.getD 297 undef, t.getD 298 undef, t.getD 299 undef, t.getD 300 undef, t.getD 301 undef, t.getD 302 undef, t.getD 303 undef, t.getD 304 undef, t.getD 305 undef, t.getD 306 undef, t.getD 307 undef, t.getD 308 undef, t.getD 309 undef, t.getD 310 undef, t.getD 311 undef, t.getD 312 undef, t.getD 313 undef, t.getD 314 undef, t.getD 315 undef, t.getD 316 undef, t.getD 317 undef, t.getD 318 undef, t.getD 319 undef, t.getD 320 undef, t.getD 321 undef, t.getD 322 undef, t.getD 323 undef, t.getD 324 undef, t.getD 325 undef, t.getD 326 undef, t.getD 327 undef, t.getD 328 undef, t.getD 329 undef, t.getD 330 undef, t.getD 331 undef, t.getD 332 undef, t.getD 333 undef, t.getD 334 undef, t.getD 335 undef, t.getD 336 undef, t.getD 337 undef, t.getD 338 undef, t.getD 339 undef, t.getD 340 undef, t.getD 341 undef, t.getD 342 undef, t.getD 343 undef, t.getD 344 undef, t.getD 345 undef, t.getD 346 undef, t.getD 347 undef, t.getD 348 undef, t.getD 349 undef, t.getD 350 undef] := by
  have e : ((List.range 351).map (fun i => t.getD i undef)).toArray = #[t.getD 0 undef, t.getD 1 undef, t.getD 2 undef, t.getD 3 undef, t.getD 4 undef, t.getD 5 undef, t.getD 6 undef, t.getD 7 undef, t.getD 8 undef, t.getD 9 undef, t.getD 10 undef, t.getD 11 undef, t.getD 12 undef, t.getD 13 undef, t.getD 14 undef, t.getD 15 undef, t.getD 16 undef, t.getD 17 undef, t.getD 18 undef, t.getD 19 undef, t.getD 20 undef, t.getD 21 undef, t.getD 22 undef, t.getD 23 undef, t.getD 24 undef, t.getD 25 undef, t.getD 26 undef, t.getD 27 undef, t.getD 28 undef, t.getD 29 undef, t.getD 30 undef, t.getD 31 undef, t.getD 32 undef, t.getD 33 undef, t.getD 34 undef, t.getD 35 undef, t.getD 36 undef, t.getD 37 undef, t.getD 38 undef, t.getD 39 undef, t.getD 40 undef, t.getD 41 undef, t.getD 42 undef, t.getD 43 undef, t.getD 44 undef, t.getD 45 undef, t.getD 46 undef, t.getD 47 undef, t.getD 48 undef, t.getD 49 undef, t.getD 50 undef, t.getD 51 undef, t.getD 52 undef, t.getD 53 undef, t.getD 54 undef, t.getD 55 undef, t.getD 56 undef, t.getD 57 undef, t.getD 58 undef, t.getD 59 undef, t.getD 60 undef, t.getD 61 undef, t.getD 62 undef, t.getD 63 undef, t.getD 64 undef, t.getD 65 undef, t.getD 66 undef, t.getD 67 undef, t.getD 68 undef, t.getD 69 undef, t.getD 70 undef, t.getD 71 undef, t.getD 72 undef, t.getD 73 undef, t.getD 74 undef, t.getD 75 undef, t.getD 76 undef, t.getD 77 undef, t.getD 78 undef, t.getD 79 undef, t.getD 80 undef, t.getD 81 undef, t.getD 82 undef, t.getD 83 undef, t.getD 84 undef, t.getD 85 undef, t.getD 86 undef, t.getD 87 undef, t.getD 88 undef, t.getD 89 undef, t.getD 90 undef, t.getD 91 undef, t.getD 92 undef, t.getD 93 undef, t.getD 94 undef, t.getD 95 undef, t.getD 96 undef, t.getD 97 undef, t.getD 98 undef, t.getD 99 undef, t.getD 100 undef, t.getD 101 undef, t.getD 102 undef, t.getD 103 undef, t.getD 104 undef, t.getD 105 undef, t.getD 106 undef, t.getD 107 undef, t.getD 108 undef, t.getD 109 undef, t.getD 110 undef, t.getD 111 undef, t.getD 112 undef, t.getD 113 undef, t.getD 114 undef, t.getD 115 undef, t.getD 116 undef, t.getD 117 undef, t.getD 118 undef, t.getD 119 undef, t.getD 120 undef, t.getD 121 undef, t.getD 122 undef, t.getD 123 undef, t.getD 124 undef, t.getD 125 undef, t.getD 126 undef, t.getD 127 undef, t.getD 128 undef, t.getD 129 undef, t.getD 130 undef, t.getD 131 undef, t.getD 132 undef, t.getD 133 undef, t.getD 134 undef, t.getD 135 undef, t.getD 136 undef, t.getD 137 undef, t.getD 138 undef, t.getD 139 undef, t.getD 140 undef, t.getD 141 undef, t.getD 142 undef, t.getD 143 undef, t.getD 144 undef, t.getD 145 undef, t.getD 146 undef, t.getD 147 undef, t.getD 148 undef, t.getD 149 undef, t.getD 150 undef, t.getD 151 undef, t.getD 152 undef, t.getD 153 undef, t.getD 154 undef, t.getD 155 undef, t.getD 156 undef, t.getD 157 undef, t.getD 158 undef, t.getD 159 undef, t.getD 160 undef, t.getD 161 undef, t.getD 162 undef, t.getD 163 undef, t.getD 164 undef, t.getD 165 undef, t.getD 166 undef, t.getD 167 undef, t.getD 168 undef, t.getD 169 undef, t.getD 170 undef, t.getD 171 undef, t.getD 172 undef, t.getD 173 undef, t.getD 174 undef, t.getD 175 undef, t.getD 176 undef, t.getD 177 undef, t.getD 178 undef, t.getD 179 undef, t.getD 180 undef, t.getD 181 undef, t.getD 182 undef, t.getD 183 undef, t.getD 184 undef, t.getD 185 undef, t.getD 186 undef, t.getD 187 undef, t.getD 188 undef, t.getD 189 undef, t.getD 190 undef, t.getD 191 undef, t.getD 192 undef, t.getD 193 undef, t.getD 194 undef, t.getD 195 undef, t.getD 196 undef, t.getD 197 undef, t.getD 198 undef, t.getD 199 undef, t.getD 200 undef, t.getD 201 undef, t.getD 202 undef, t.getD 203 undef, t.getD 204 undef, t.getD 205 undef, t.getD 206 undef, t.getD 207 undef, t.getD 208 undef, t.getD 209 undef, t.getD 210 undef, t.getD 211 undef, t.getD 212 undef, t.getD 213 undef, t.getD 214 undef, t.getD 215 undef, t.getD 216 undef, t.getD 217 undef, t.getD 218 undef, t.getD 219 undef, t.getD 220 undef, t.getD 221 undef, t.getD 222 undef, t.getD 223 undef, t.getD 224 undef, t.getD 225 undef, t.getD 226 undef, t.getD 227 undef, t.getD 228 undef, t.getD 229 undef, t.getD 230 undef, t.getD 231 undef, t.getD 232 undef, t.getD 233 undef, t.getD 234 undef, t.getD 235 undef, t.getD 236 undef, t.getD 237 undef, t.getD 238 undef, t.getD 239 undef, t.getD 240 undef, t.getD 241 undef, t.getD 242 undef, t.getD 243 undef, t.getD 244 undef, t.getD 245 undef, t.getD 246 undef, t.getD 247 undef, t.getD 248 undef, t.getD 249 undef, t.getD 250 undef, t.getD 251 undef, t.getD 252 undef, t.getD 253 undef, t.getD 254 undef, t.getD 255 undef, t.getD 256 undef, t.getD 257 undef, t.getD 258 undef, t.getD 259 undef, t.getD 260 undef, t.getD 261 undef, t.getD 262 undef, t.getD 263 undef, t.getD 264 undef, t.getD 265 undef, t.getD 266 undef, t.getD 267 undef, t.getD 268 undef, t.getD 269 undef, t.getD 270 undef, t.getD 271 undef, t.getD 272 undef, t.getD 273 undef, t.getD 274 undef, t.getD 275 undef, t.getD 276 undef, t.getD 277 undef, t.getD 278 undef, t.getD 279 undef, t.getD 280 undef, t.getD 281 undef, t.getD 282 undef, t.getD 283 undef, t.getD 284 undef, t.getD 285 undef, t.getD 286 undef, t.getD 287 undef, t.getD 288 undef, t.getD 289 undef, t.getD 290 undef, t.getD 291 undef, t.getD 292 undef, t.getD 293 undef, t.getD 294 undef, t.getD 295 undef, t.getD 296 undef, t.getD 297 undef, t.getD 298 undef, t.getD 299 undef, t.getD 300 undef, t.getD 301 undef, t.getD 302 undef, t.getD 303 undef, t.getD 304 undef, t.getD 305 undef, t.getD 306 undef, t.getD 307 undef, t.getD 308 undef, t.getD 309 undef, t.getD 310 undef, t.getD 311 undef, t.getD 312 undef, t.getD 313 undef, t.getD 314 undef, t.getD 315 undef, t.getD 316 undef, t.getD 317 undef, t.getD 318 undef, t.getD 319 undef, t.getD 320 undef, t.getD 321 undef, t.getD 322 undef, t.getD 323 undef, t.getD 324 undef, t.getD 325 undef, t.getD 326 undef, t.getD 327 undef, t.getD 328 undef, t.getD 329 undef, t.getD 330 undef, t.getD 331 undef, t.getD 332 undef, t.getD 333 undef, t.getD 334 undef, t.getD 335 undef, t.getD 336 undef, t.getD 337 undef, t.getD 338 undef, t.getD 339 undef, t.getD 340 undef, t.getD 341 undef, t.getD 342 undef, t.getD 343 undef, t.getD 344 undef, t.getD 345 undef, t.getD 346 undef, t.getD 347 undef, t.getD 348 undef, t.getD 349 undef, t.getD 350 undef] := by kernel_rfl
  rw [← e]
  apply Array.ext
  · simp [h]
  · intro i h1 h2
    simp [Array.getD, h1]
theorem lit351T (t : Array Value) (h : t.size = 351) (T : Nat → Value) (hT : ∀ i, t.getD i undef = T i) : t = #[T 0, T 1, T 2, T 3, T 4, T 5, T 6, T 7, T 8, T 9, T 10, T 11, T 12, T 13, T 14, T 15, T 16, T 17, T 18, T 19, T 20, T 21, T 22, T 23, T 24, T 25, T 26, T 27, T 28, T 29, T 30, T 31, T 32, T 33, T 34, T 35, T 36, T 37, T 38, T 39, T 40, T 41, T 42, T 43, T 44, T 45, T 46, T 47, T 48, T 49, T 50, T 51, T 52, T 53, T 54, T 55, T 56, T 57, T 58, T 59, T 60, T 61, T 62, T 63, T 64, T 65, T 66, T 67, T 68, T 69, T 70, T 71, T 72, T 73, T 74, T 75, T 76, T 77, T 78, T 79, T 80, T 81, T 82, T 83, T 84, T 85, T 86, T 87, T 88, T 89, T 90, T 91, T 92, T 93, T 94, T 95, T 96, T 97, T 98, T 99, T 100, T 101, T 102, T 103, T 104, T 105, T 106, T 107, T 108, T 109, T 110, T 111, T 112, T 113, T 114, T 115, T 116, T 117, T 118, T 119, T 120, T 121, T 122, T 123, T 124, T 125, T 126, T 127, T 128, T 129, T 130, T 131, T 132, T 133, T 134, T 135, T 136, T 137, T 138, T 139, T 140, T 141, T 142, T 143, T 144, T 145, T 146, T 147, T 148, T 149, T 150, T 151, T 152, T 153, T 154, T 155, T 156, T 157, T 158, T 159, T 160, T 161, T 162, T 163, T 164, T 165, T 166, T 167, T 168, T 169, T 170, T 171, T 172, T 173, T 174, T 175, T 176, T 177, T 178, T 179, T 180, T 181, T 182, T 183, T 184, T 185, T 186, T 187, T 188, T 189, T 190, T 191, T 192, T 193, T 194, T 195, T 196, T 197, T 198, T 199, T 200, T 201, T 202, T 203, T 204, T 205, T 206, T 207, T 208, T 209, T 210, T 211, T 212, T 213, T 214, T 215, T 216, T 217, T 218, T 219, T 220, T 221, T 222, T 223, T 224, T 225, T 226, T 227, T 228, T 229, T 230, T 231, T 232, T 233, T 234, T 235, T 236, T 237, T 238, T 239, T 240, T 241, T 242, T 243, T 244, T 245, T 246, T 247, T 248, T 249, T 250, T 251, T 252, T 253, T 254, T 255, T 256, T 257, T 258, T 259, T 260, T 261, T 262, T 263, T 264, T 265, T 266, T 267, T 268, T 269, T 270, T 271, T 272, T 273, T 274, T 275, T 276, T 277, T 278, T 279, T 280, T 281, T 282, T 283, T 284, T 285, T 286, T 287, T 288, T 289, T 290, T 291, T 292, T 293, T 294, T 295, T 296, T 297, T 298, T 299, T 300, T 301, T 302, T 303, T 304, T 305, T 306, T 307, T 308, T 309, T 310, T 311, T 312, T 313, T 314, T 315, T 316, T 317, T 318, T 319, T 320, T 321, T 322, T 323, T 324, T 325, T 326, T 327, T 328, T 329, T 330, T 331, T 332, T 333, T 334, T 335, T 336, T 337, T 338, T 339, T 340, T 341, T 342, T 343, T 344, T 345, T 346, T 347, T 348, T 349, T 350] := by
  obtain rfl : T = fun i => t.getD i undef := funext fun i => (hT i).symm
  exact lit351 t h
end Go.Proofs.YtkmgiodhaaajjaaDoor.DenRk

namespace Go.Proofs.YtkmgiodhaaajjaaDoor.DenRf
open Go.IntWalk Go.RowKit Go.Proofs.YtkmgiodhaaajjaaDoor.Mem Go.Proofs.YtkmgiodhaaajjaaDoor.App Go.Proofs.YtkmgiodhaaajjaaDoor.FloatB Go.Proofs.YtkmgiodhaaajjaaDoor.ItemP Go.Proofs.YtkmgiodhaaajjaaDoor.ItemM Go.Proofs.YtkmgiodhaaajjaaDoor.ItemB Go.Proofs.YtkmgiodhaaajjaaDoor.DenP Go.Proofs.YtkmgiodhaaajjaaDoor.DenI Go.Proofs.YtkmgiodhaaajjaaDoor.DenRk Go.Proofs.YtkmgiodhaaajjaaDoor.DenH

theorem getD_of {t : Array Value} {i : Nat} {v : Value} (h : t[i]? = some v) : t.getD i undef = v := by
  obtain ⟨hi, rfl⟩ := Array.getElem?_eq_some_iff.1 h
  simp [Array.getD, hi]
/-- The inner loop's find: the pair whose key is this one. -/
def Fnd (l : List It) (m : Nat) (key : ByteArray) (a : Int) : Prop := (a = -1 ∧ ∀ t, t < m → keyAt l t key = false) ∨ ∃ m0, m0 < m ∧ a = 2 * (m0 : Int) ∧ keyAt l m0 key = true
theorem fnd_keep {l : List It} {m : Nat} {key : ByteArray} {a : Int} (h : Fnd l m key a) (hk : keyAt l m key = false) : Fnd l (m + 1) key a := by
  rcases h with ⟨e1, e2⟩ | ⟨m0, e1, e2, e3⟩
  · exact Or.inl ⟨e1, fun t ht => by
      by_cases h : t < m
      · exact e2 t h
      · obtain rfl : t = m := by omega
        exact hk⟩
  · exact Or.inr ⟨m0, by omega, e2, e3⟩
/-- The frame behind a field's turn. -/
def FrF (t : Array Value) (T : Nat → Value) (bx bn : Nat) (A1 : Option Addr) (j c1 : Nat) (ok : Bool) (u p : Int) : Prop :=
  t.size = 351 ∧ t[0]? = some (T 0) ∧ t[1]? = some (T 1) ∧ t[2]? = some (T 2) ∧ t[4]? = some (T 4) ∧ t[5]? = some (T 5) ∧ t[8]? = some (T 8) ∧ t[3]? = some (.pointer (some ⟨bx, 0, none⟩)) ∧ t[6]? = some (.slice A1 j c1) ∧ t[9]? = some (.pointer (some ⟨bn, 0, none⟩)) ∧ t[15]? = some (.bool ok) ∧ t[16]? = some (.int .i64 u) ∧ t[17]? = some (.int .i64 p)

set_option maxRecDepth 1000000 in
set_option maxHeartbeats 16000000 in
theorem fGo (T : Nat → Value) (bx bn : Nat) (A1 : Option Addr) (af : Addr) (Ax : Option Addr) (j cx c1 x8 cf p u P lo hi : Nat) (xl : List It) (key : ByteArray) (wk : World) (hj : j ≤ 2000000) (hjc : j ≤ cx) (hp : p < x8) (hxc : x8 ≤ cf) (hP : j = 2 * P) (hxm : xl.length = j)
    (c3 : ∀ w', Fr (fun _ => False) wk w' → w'.cell? ⟨bx, 3, none⟩ = some (.slice Ax j cx)) (c8 : ∀ w', Fr (fun _ => False) wk w' → w'.cell? ⟨bn, 8, none⟩ = some (.slice (some af) x8 cf)) (hL : ItsAt wk lo hi xl Ax 0) (f0 : wk.cell? (af.add (p * 3)) = some (.string key)) (opt : Bool) (q M : Nat) (R : Nat → Bool) (hqM : q < M) (hu : u ≤ 1048576) (hx8 : x8 ≤ 1048576) (f1 : wk.cell? ⟨(af.add (p * 3)).block, (af.add (p * 3)).off + 1, none⟩ = some (.int .i64 (q : Int))) (f2 : wk.cell? ⟨(af.add (p * 3)).block, (af.add (p * 3)).off + 2, none⟩ = some (.bool opt))
    (hrows : ∀ w', Fr (fun _ => False) wk w' → ∀ y, y < j → ∃ ab gk, A1 = some ab ∧ w'.cell? (ab.add y) = some (.slice (some ⟨gk, 0, none⟩) M M) ∧ w'.cell? ⟨gk, q, none⟩ = some (.bool (R y))) (hcap : ∀ ab, A1 = some ab → j ≤ c1)
    (KK : Act → World → Prop) (Q0 : Exit → Act → World → Prop) (hK : ∀ t w' ok u', FrF t T bx bn A1 j c1 ok u' ((p : Int) + 1) → (((∀ s, s < P → keyAt xl s key = false) ∧ ok = opt ∧ u' = (u : Int)) ∨ ∃ m0, m0 < P ∧ keyAt xl m0 key = true ∧ ok = R (2 * m0 + 1) ∧ u' = (u : Int) + 1) → Fr (fun _ => False) wk w' → KK ⟨t, []⟩ w') :
    Code.wp Tryd.prog bodyF (Exit.then KK Q0) ⟨#[T 0, T 1, T 2, .pointer (some ⟨bx, 0, none⟩), T 4, T 5, .slice A1 j c1, T 7, T 8, .pointer (some ⟨bn, 0, none⟩), T 10, T 11, T 12, T 13, T 14, .bool true, .int .i64 (u : Int), .int .i64 (p : Int), T 18, T 19, T 20, T 21, T 22, T 23, T 24, T 25, T 26, T 27, T 28, T 29, T 30, T 31, T 32, T 33, T 34, T 35, T 36, T 37, T 38, T 39, T 40, T 41, T 42, T 43, T 44, T 45, T 46, T 47, T 48, T 49, T 50, T 51, T 52, T 53, T 54, T 55, T 56, T 57, T 58, T 59, T 60, T 61, T 62, T 63, T 64, T 65, T 66, T 67, T 68, T 69, T 70, T 71, T 72, T 73, T 74, T 75, T 76, T 77, T 78, T 79, T 80, T 81, T 82, T 83, T 84, T 85, T 86, T 87, T 88, T 89, T 90, T 91, T 92, T 93, T 94, T 95, T 96, T 97, T 98, T 99, T 100, T 101, T 102, T 103, T 104, T 105, T 106, T 107, T 108, T 109, T 110, T 111, T 112, T 113, T 114, T 115, T 116, T 117, T 118, T 119, T 120, T 121, T 122, T 123, T 124, T 125, T 126, T 127, T 128, T 129, T 130, T 131, T 132, T 133, T 134, T 135, T 136, T 137, T 138, T 139, T 140, T 141, T 142, T 143, T 144, T 145, T 146, T 147, T 148, T 149, T 150, T 151, T 152, T 153, T 154, T 155, T 156, T 157, T 158, T 159, T 160, T 161, T 162, T 163, T 164, T 165, T 166, T 167, T 168, T 169, T 170, T 171, T 172, T 173, T 174, T 175, T 176, T 177, T 178, T 179, T 180, T 181, T 182, T 183, T 184, T 185, T 186, T 187, T 188, T 189, T 190, T 191, T 192, T 193, T 194, T 195, T 196, T 197, T 198, T 199, T 200, T 201, T 202, T 203, T 204, T 205, T 206, T 207, T 208, T 209, T 210, T 211, T 212, T 213, T 214, T 215, T 216, T 217, T 218, T 219, T 220, T 221, T 222, T 223, T 224, T 225, T 226, T 227, T 228, T 229, T 230, T 231, T 232, T 233, T 234, T 235, T 236, T 237, T 238, T 239, T 240, T 241, T 242, T 243, T 244, T 245, T 246, T 247, T 248, T 249, T 250, T 251, T 252, T 253, T 254, T 255, T 256, T 257, T 258, T 259, T 260, T 261, T 262, T 263, T 264, T 265, T 266, T 267, T 268, T 269, T 270, T 271, T 272, T 273, T 274, T 275, T 276, T 277, T 278, T 279, T 280, T 281, T 282, T 283, T 284, T 285, T 286, T 287, T 288, T 289, T 290, T 291, T 292, T 293, T 294, T 295, T 296, T 297, T 298, T 299, T 300, T 301, T 302, T 303, T 304, T 305, T 306, T 307, T 308, T 309, T 310, T 311, T 312, T 313, T 314, T 315, T 316, T 317, T 318, T 319, T 320, T 321, T 322, T 323, T 324, T 325, T 326, T 327, T 328, T 329, T 330, T 331, T 332, T 333, T 334, T 335, T 336, T 337, T 338, T 339, T 340, T 341, T 342, T 343, T 344, T 345, T 346, T 347, T 348, T 349, T 350], []⟩ wk := by
  have HK := hid hK
  have HC3 := hid c3
  have HC8 := hid c8
  have HLL := hid hL
  have HF0 := hid f0
  have HPP := hid hP
  have HF1 := hid f1
  have HF2 := hid f2
  have HRO := hid hrows
  have hp0 : (0 : Int) ≤ (p : Int) := by omega
  have hp8 : (p : Int) < (x8 : Int) := by omega
  have hpc : (p : Int) < (cf : Int) := by omega
  have c8' := c8 wk (Fr.refl _ _)
  clear hK c3 c8 hL f0 hP f1 f2 hrows
  conv => arg 2; whnf
  go_wp2_with fail
  clear c8'
  obtain ⟨T', hT'⟩ : ∃ T' : Nat → Value, T' = (fun i => if i = 6 then .slice A1 j c1 else if i = 15 then .bool true else if i = 16 then .int .i64 (u : Int) else T i) := ⟨_, rfl⟩
  refine wp_loop (fun a w' => ∃ (m : Nat) (a0 : Int), m ≤ P ∧ FrK a.tmps T' bx bn p a0 (2 * (m : Int)) ∧ a.defers = [] ∧ Fnd xl m key a0 ∧ Fr (fun _ => False) wk w') (fun a _ => j + 1 - (intOf (a.tmps.getD 19 undef)).toNat) ?_ ?_
  · subst hT'
    exact ⟨0, -1, Nat.zero_le _, ⟨rfl, rfl, rfl, rfl, rfl, rfl, rfl, rfl, rfl, rfl, rfl, rfl, rfl, rfl, rfl⟩, rfl, Or.inl ⟨rfl, fun t ht => by omega⟩, Fr.refl _ _⟩
  · rintro ⟨t, ds⟩ w' ⟨m, a0, hm, hfr, rfl, hfn, hf⟩
    obtain ⟨hsz, g0, g1, g2, g4, g5, g6, g8, g15, g16, g3, g9, g17, g18, g19⟩ := hfr
    have HFN := hid hfn
    have HF := hid hf
    obtain ⟨z, hz⟩ : ∃ z : Nat, 2 * m = z := ⟨_, rfl⟩
    have HZ := hid hz
    rw [show (2 * (m : Int)) = (z : Int) by omega] at g19
    obtain ⟨T2, hT2⟩ : ∃ T2 : Nat → Value, ∀ i, t.getD i undef = T2 i := ⟨_, fun _ => rfl⟩
    have hlit := lit351T t hsz T2 hT2
    have w : ∀ {i : Nat} {v : Value}, t[i]? = some v → T2 i = v := fun h => (hT2 _).symm.trans (getD_of h)
    rw [w g3, w g9, w g17, w g18, w g19] at hlit
    have hact := congrArg (fun x => (⟨x, []⟩ : Act)) hlit
    simp only at hact
    rw [hact]
    by_cases hmt : m < P
    · obtain ⟨ab, k', n', s', l2, A', c', rfl, hla, hab2, hx', b0, b1, b2, b3, hch⟩ := ItsAt.kid HLL.out z (by have := HPP.out; omega)
      have hzj : z < j := by have := HPP.out; omega
      have HKA := hid (show keyAt xl m key = (decide (k' = 3) && decide (s' = key)) by
        unfold keyAt
        rw [HZ.out, getD_it (by omega), hx']
        rfl)
      have d0 := cell_fr b0 hf
      have d2 := cell_fr b2 hf
      have e0 := cell_fr HF0.out hf
      have e3 := HC3.out w' hf
      have e8 := HC8.out w' hf
      have hmu : ∀ (t2 : Array Value), t2[19]? = some (.int .i64 ((z : Int) + 2)) → j + 1 - (intOf (t2.getD 19 undef)).toNat < j + 1 - (intOf (Value.int .i64 (z : Int))).toNat := fun t2 h2 => by
        rw [getD_of h2]
        simp only [intOf]
        omega
      have hend : ∀ (a1 : Int) (t2 : Array Value) (n2 : Nat), Fnd xl (m + 1) key a1 → FrK t2 T2 bx bn p a1 ((z : Int) + 2) → (∃ (m : Nat) (a0 : Int), m ≤ P ∧ FrK t2 T' bx bn p a0 (2 * (m : Int)) ∧ Fnd xl m key a0 ∧ Fr (fun _ => False) wk (w'.drewN n2)) := fun a1 t2 n2 h1 h2 => by
        obtain ⟨q, q0, q1, q2, q4, q5, q6, q8, q15, q16, q3, q9, q17, q18, q19⟩ := h2
        rw [show (z : Int) + 2 = 2 * ((m + 1 : Nat) : Int) by omega] at q19
        exact ⟨m + 1, a1, by omega, ⟨q, q0.trans (congrArg some (w g0)), q1.trans (congrArg some (w g1)), q2.trans (congrArg some (w g2)), q4.trans (congrArg some (w g4)), q5.trans (congrArg some (w g5)), q6.trans (congrArg some (w g6)), q8.trans (congrArg some (w g8)), q15.trans (congrArg some (w g15)), q16.trans (congrArg some (w g16)), q3, q9, q17, q18, q19⟩, h1, hf.drewN _⟩
      by_cases h3 : k' = 3
      · by_cases hs : s' = key
        · have hkt : keyAt xl m key = true := by rw [HKA.out, decide_eq_true h3, decide_eq_true hs]; rfl
          refine kYes T2 bx bn ab af j cx x8 cf p z a0 k' s' key w' hj hzj hjc hp hxc e3 e8 d0 d2 e0 h3 hs _ _ (fun t2 n2 h2 => ?_)
          obtain ⟨m', a', b1, b2, b4, b5⟩ := hend z t2 n2 (Or.inr ⟨m, by omega, by omega, hkt⟩) h2
          exact ⟨⟨m', a', b1, b2, rfl, b4, b5⟩, hmu t2 h2.2.2.2.2.2.2.2.2.2.2.2.2.2.2⟩
        · have hkf : keyAt xl m key = false := by rw [HKA.out, decide_eq_false hs]; simp
          refine kText T2 bx bn ab af j cx x8 cf p z a0 k' s' key w' hj hzj hjc hp hxc e3 e8 d0 d2 e0 h3 hs _ _ (fun t2 n2 h2 => ?_)
          obtain ⟨m', a', b1, b2, b4, b5⟩ := hend a0 t2 n2 (fnd_keep hfn hkf) h2
          exact ⟨⟨m', a', b1, b2, rfl, b4, b5⟩, hmu t2 h2.2.2.2.2.2.2.2.2.2.2.2.2.2.2⟩
      · have hkf : keyAt xl m key = false := by rw [HKA.out, decide_eq_false h3]; rfl
        refine kKind T2 bx bn ab af j cx x8 cf p z a0 k' s' key w' hj hzj hjc hp hxc e3 e8 d0 d2 e0 h3 _ _ (fun t2 n2 h2 => ?_)
        obtain ⟨m', a', b1, b2, b4, b5⟩ := hend a0 t2 n2 (fnd_keep hfn hkf) h2
        exact ⟨⟨m', a', b1, b2, rfl, b4, b5⟩, hmu t2 h2.2.2.2.2.2.2.2.2.2.2.2.2.2.2⟩
    · obtain rfl : m = P := by omega
      have g6' : t[6]? = some (.slice A1 j c1) := by rw [g6, hT']; rfl
      have g15' : t[15]? = some (.bool true) := by rw [g15, hT']; rfl
      have g16' : t[16]? = some (.int .i64 (u : Int)) := by rw [g16, hT']; rfl
      have k0 : some (T2 0) = some (T 0) := congrArg some ((w g0).trans (by rw [hT']; rfl))
      have k1 : some (T2 1) = some (T 1) := congrArg some ((w g1).trans (by rw [hT']; rfl))
      have k2 : some (T2 2) = some (T 2) := congrArg some ((w g2).trans (by rw [hT']; rfl))
      have k4 : some (T2 4) = some (T 4) := congrArg some ((w g4).trans (by rw [hT']; rfl))
      have k5 : some (T2 5) = some (T 5) := congrArg some ((w g5).trans (by rw [hT']; rfl))
      have k8 : some (T2 8) = some (T 8) := congrArg some ((w g8).trans (by rw [hT']; rfl))
      have K0 := hid k0
      have K1 := hid k1
      have K2 := hid k2
      have K4 := hid k4
      have K5 := hid k5
      have K8 := hid k8
      rw [w g6', w g15', w g16']
      have hz0 : (0 : Int) ≤ (z : Int) := by omega
      have hzj : ¬ (z : Int) < (j : Int) := by have := HPP.out; omega
      have e0 := cell_fr HF0.out hf
      have e1 := cell_fr HF1.out hf
      have e2 := cell_fr HF2.out hf
      have e3 := HC3.out w' hf
      have e8 := HC8.out w' hf
      clear k0 k1 k2 k4 k5 k8 g0 g1 g2 g4 g5 g6 g8 g15 g16 g3 g9 g17 g18 g19 g6' g15' g16' hlit hact hT' hsz w hT2
      have HP1 := hid (show some (Value.int .i64 (wrap64 ((p : Int) + 1))) = some (Value.int .i64 ((p : Int) + 1)) by rw [wrap64_in _ (by omega)])
      have HU1 := hid (show some (Value.int .i64 (wrap64 ((u : Int) + 1))) = some (Value.int .i64 ((u : Int) + 1)) by rw [wrap64_in _ (by omega)])
      rcases hfn with ⟨rfl, hno⟩ | ⟨m0, hm0, rfl, hk0⟩
      · have HNO := hid hno
        clear hno
        go_wp2_with fail
        exact HK.out _ _ opt (u : Int) ⟨rfl, K0.out, K1.out, K2.out, K4.out, K5.out, K8.out, rfl, rfl, rfl, rfl, rfl, rfl⟩ (Or.inl ⟨HNO.out, rfl, rfl⟩) HF.out
      · have HK0 := hid hk0
        obtain ⟨y, hy⟩ : ∃ y : Nat, 2 * m0 = y := ⟨_, rfl⟩
        have HYY := hid hy
        rw [show (2 * (m0 : Int)) = (y : Int) by omega]
        have hy1 : y + 1 < j := by have := HPP.out; omega
        obtain ⟨ab, gk, hAb, hab, hgq⟩ := HRO.out w' hf (y + 1) hy1
        have hyc : (y : Int) + 1 < (c1 : Int) := by have := hcap ab hAb; omega
        subst hAb
        rw [show ab.add (y + 1) = ⟨ab.block, ab.off + (y + 1), none⟩ by unfold Addr.add; rw [if_neg (by omega)]] at hab
        have hq0 : (0 : Int) ≤ (q : Int) := by omega
        have hqm : (q : Int) < (M : Int) := by omega
        have hy0 : (0 : Int) ≤ (y : Int) + 1 := by omega
        have hyn : ¬ (y : Int) < 0 := by omega
        have hyj : (y : Int) + 1 < (j : Int) := by omega
        have hwy : IntKind.i64.wrap ((y : Int) + 1) = (y : Int) + 1 := i64_in _ (by omega)
        have hyt : ((y : Int) + 1).toNat = y + 1 := by omega
        obtain ⟨b, hb⟩ : ∃ b, R (y + 1) = b := ⟨_, rfl⟩
        have HBB := hid hb
        rw [hb] at hgq
        have HSS := hid (show ∀ wx, Fr (fun _ => False) w' wx → wx.cell? ⟨bn, 8, none⟩ = some (.slice (some af) x8 cf) ∧ wx.cell? ⟨(af.add (p * 3)).block, (af.add (p * 3)).off + 1, none⟩ = some (.int .i64 (q : Int)) ∧ wx.cell? ⟨ab.block, ab.off + (y + 1), none⟩ = some (.slice (some ⟨gk, 0, none⟩) M M) ∧ wx.cell? ⟨gk, q, none⟩ = some (.bool b) from fun wx hfx => ⟨cell_fr e8 hfx, cell_fr e1 hfx, cell_fr hab hfx, cell_fr hgq hfx⟩)
        clear hb hk0 hy e0 e2 hcap
        go_wp2_with fail

        go_region_held3 (fun wx => wx.cell? ⟨bn, 8, none⟩ = some (.slice (some af) x8 cf) ∧ wx.cell? ⟨(af.add (p * 3)).block, (af.add (p * 3)).off + 1, none⟩ = some (.int .i64 (q : Int)) ∧ wx.cell? ⟨ab.block, ab.off + (y + 1), none⟩ = some (.slice (some ⟨gk, 0, none⟩) M M) ∧ wx.cell? ⟨gk, q, none⟩ = some (.bool b))
          (first | exact HSS.out _ (Fr.refl _ _) | exact HSS.out _ (Fr.refl _ _).drew | assumption)
          (first | fail)
        go_wp2_with fail
        exact HK.out _ _ b ((u : Int) + 1) ⟨rfl, K0.out, K1.out, K2.out, K4.out, K5.out, K8.out, rfl, rfl, rfl, rfl, rfl, rfl⟩ (Or.inr ⟨m0, hm0, HK0.out, by rw [HYY.out, HBB.out], rfl⟩) HF.out.drew
end Go.Proofs.YtkmgiodhaaajjaaDoor.DenRf

namespace Go.Proofs.YtkmgiodhaaajjaaDoor.DenRa
open Go.IntWalk Go.RowKit Go.Proofs.YtkmgiodhaaajjaaDoor.Mem Go.Proofs.YtkmgiodhaaajjaaDoor.App Go.Proofs.YtkmgiodhaaajjaaDoor.FloatB Go.Proofs.YtkmgiodhaaajjaaDoor.ItemP Go.Proofs.YtkmgiodhaaajjaaDoor.ItemM Go.Proofs.YtkmgiodhaaajjaaDoor.ItemB Go.Proofs.YtkmgiodhaaajjaaDoor.Own Go.Proofs.YtkmgiodhaaajjaaDoor.SchP Go.Proofs.YtkmgiodhaaajjaaDoor.SchM Go.Proofs.YtkmgiodhaaajjaaDoor.SchG Go.Proofs.YtkmgiodhaaajjaaDoor.SchI Go.Proofs.YtkmgiodhaaajjaaDoor.SchJ Go.Proofs.YtkmgiodhaaajjaaDoor.DenP Go.Proofs.YtkmgiodhaaajjaaDoor.DenA Go.Proofs.YtkmgiodhaaajjaaDoor.DenD Go.Proofs.YtkmgiodhaaajjaaDoor.DenF Go.Proofs.YtkmgiodhaaajjaaDoor.DenG Go.Proofs.YtkmgiodhaaajjaaDoor.DenH Go.Proofs.YtkmgiodhaaajjaaDoor.DenI Go.Proofs.YtkmgiodhaaajjaaDoor.DenJ Go.Proofs.YtkmgiodhaaajjaaDoor.DenRk Go.Proofs.YtkmgiodhaaajjaaDoor.DenRf

set_option maxRecDepth 1000000 in
set_option maxHeartbeats 16000000 in
theorem case8a (ns : List Nod) (M c h : Nat) (xk : Int) (xn : Nat) (xs : ByteArray) (xl : List It) (Ax : Option Addr) (j cx lo hi : Nat) (w : World) (ad : Addr) (A1 : Option Addr) (c1 go k0 i : Nat) (nlo nhi : Int) (v : It) (l : List Int) (f : List Fld) (Av : Option Addr) (cv : Nat) (Al : Option Addr) (cl : Nat) (Af : Option Addr) (cf : Nat) (x3 : Int) (x4 : Nat) (x5 : ByteArray) (x6 x7 x8 : Nat) (r : Bool) (wr : World) (H : RK ns M c h xk xn xs xl Ax j cx lo hi w ad A1 c1 go k0 i 8 nlo nhi v l f Av cv Al cl Af cf x3 x4 x5 x6 x7 x8 r wr) (h2 : xk = 5) (T : Nat → Value) (KK : Act → World → Prop) (Q0 : Exit → Act → World → Prop)
    (hK : ∀ t w', FrR t M c xk xn xs Ax j cx w ad A1 c1 go ((i : Int) - 1) → BV w' go M (fun q => if M - (k0 + 1) ≤ q then isV ns q (It.mk xk xn xs xl) else false) → Fr (fun b => b = go) wr w' → KK ⟨t, []⟩ w') :
    Code.wp Tryd.prog body2 (Exit.then KK Q0) ⟨#[.agg #[.slice (some ad) M c], .agg #[.int .i64 xk, .int .u64 xn, .string xs, .slice Ax j cx], .pointer (some ⟨w.heap.size, 0, none⟩), .pointer (some ⟨w.heap.size + 1, 0, none⟩), .slice none 0 0, .slice (some ⟨go, 0, none⟩) M M, .slice A1 j c1, T 7, .int .i64 (i : Int), T 9, T 10, T 11, T 12, T 13, T 14, T 15, T 16, T 17, T 18, T 19, T 20, T 21, T 22, T 23, T 24, T 25, T 26, T 27, T 28, T 29, T 30, T 31, T 32, T 33, T 34, T 35, T 36, T 37, T 38, T 39, T 40, T 41, T 42, T 43, T 44, T 45, T 46, T 47, T 48, T 49, T 50, T 51, T 52, T 53, T 54, T 55, T 56, T 57, T 58, T 59, T 60, T 61, T 62, T 63, T 64, T 65, T 66, T 67, T 68, T 69, T 70, T 71, T 72, T 73, T 74, T 75, T 76, T 77, T 78, T 79, T 80, T 81, T 82, T 83, T 84, T 85, T 86, T 87, T 88, T 89, T 90, T 91, T 92, T 93, T 94, T 95, T 96, T 97, T 98, T 99, T 100, T 101, T 102, T 103, T 104, T 105, T 106, T 107, T 108, T 109, T 110, T 111, T 112, T 113, T 114, T 115, T 116, T 117, T 118, T 119, T 120, T 121, T 122, T 123, T 124, T 125, T 126, T 127, T 128, T 129, T 130, T 131, T 132, T 133, T 134, T 135, T 136, T 137, T 138, T 139, T 140, T 141, T 142, T 143, T 144, T 145, T 146, T 147, T 148, T 149, T 150, T 151, T 152, T 153, T 154, T 155, T 156, T 157, T 158, T 159, T 160, T 161, T 162, T 163, T 164, T 165, T 166, T 167, T 168, T 169, T 170, T 171, T 172, T 173, T 174, T 175, T 176, T 177, T 178, T 179, T 180, T 181, T 182, T 183, T 184, T 185, T 186, T 187, T 188, T 189, T 190, T 191, T 192, T 193, T 194, T 195, T 196, T 197, T 198, T 199, T 200, T 201, T 202, T 203, T 204, T 205, T 206, T 207, T 208, T 209, T 210, T 211, T 212, T 213, T 214, T 215, T 216, T 217, T 218, T 219, T 220, T 221, T 222, T 223, T 224, T 225, T 226, T 227, T 228, T 229, T 230, T 231, T 232, T 233, T 234, T 235, T 236, T 237, T 238, T 239, T 240, T 241, T 242, T 243, T 244, T 245, T 246, T 247, T 248, T 249, T 250, T 251, T 252, T 253, T 254, T 255, T 256, T 257, T 258, T 259, T 260, T 261, T 262, T 263, T 264, T 265, T 266, T 267, T 268, T 269, T 270, T 271, T 272, T 273, T 274, T 275, T 276, T 277, T 278, T 279, T 280, T 281, T 282, T 283, T 284, T 285, T 286, T 287, T 288, T 289, T 290, T 291, T 292, T 293, T 294, T 295, T 296, T 297, T 298, T 299, T 300, T 301, T 302, T 303, T 304, T 305, T 306, T 307, T 308, T 309, T 310, T 311, T 312, T 313, T 314, T 315, T 316, T 317, T 318, T 319, T 320, T 321, T 322, T 323, T 324, T 325, T 326, T 327, T 328, T 329, T 330, T 331, T 332, T 333, T 334, T 335, T 336, T 337, T 338, T 339, T 340, T 341, T 342, T 343, T 344, T 345, T 346, T 347, T 348, T 349, T 350], []⟩ wr := by
  have HK := hid hK
  have HH := hid H
  have m0 := fun o => cell_a H.n0 o
  have m1 := fun o => cell_a H.n1 o
  have m2 := fun o => cell_a H.n2 o
  have m3 := fun o => cell_a H.n3 o
  have m4 := fun o => cell_a H.n4 o
  have m5 := fun o => cell_a H.n5 o
  have m6 := fun o => cell_a H.n6 o
  have m7 := fun o => cell_a H.n7 o
  have m8 := fun o => cell_a H.n8 o
  have n0 := H.n0
  have n1 := H.n1
  have n2 := H.n2
  have n3 := H.n3
  have n4 := H.n4
  have n5 := H.n5
  have n6 := H.n6
  have n7 := H.n7
  have n8 := H.n8
  have p0 := H.s0
  have p2 := H.y2
  have q0 := fun o => cell_a H.s0 o
  have q1 := fun o => cell_a H.y0 o
  have q2 := fun o => cell_a H.y1 o
  have q3 := fun o => cell_a H.y2 o
  have q4 := fun o => cell_a H.y3 o
  have hi0 : (0 : Int) ≤ (i : Int) := by omega
  have HI64 := hid (show some (Value.int .i64 (wrap64 ((i : Int) - 1))) = some (Value.int .i64 ((i : Int) - 1)) by rw [wrap64_in _ (by have := H.ik; have := H.hM; omega)])
  have him : (i : Int) < (M : Int) := by have := H.ik; omega
  have hic : (i : Int) < (c : Int) := by have := H.ik; have := H.hc; omega
  obtain ⟨w3, hw3⟩ : ∃ w3, wr.alloc (.cells #[.int .i64 8, .int .i64 nlo, .int .i64 nhi, .int .i64 x3, .int .u64 x4, .string x5, .slice Av x6 cv, .slice Al x7 cl, .slice Af x8 cf] 54) = w3 := ⟨_, rfl⟩
  have HST := hid (show ∀ w', Fr (fun _ => False) w3 w' → _ by rw [← hw3]; exact H.step)
  obtain ⟨_, _, _, _, _, _, g1, g2, _, _, hf3⟩ := HST.out w3 (Fr.refl _ _)
  have q5 : (wr.alloc (.cells #[.int .i64 8, .int .i64 nlo, .int .i64 nhi, .int .i64 x3, .int .u64 x4, .string x5, .slice Av x6 cv, .slice Al x7 cl, .slice Af x8 cf] 54)).cell? ⟨go, i, none⟩ = some (.bool false) := by rw [hw3]; exact g1
  have q6 : (wr.alloc (.cells #[.int .i64 8, .int .i64 nlo, .int .i64 nhi, .int .i64 x3, .int .u64 x4, .string x5, .slice Av x6 cv, .slice Al x7 cl, .slice Af x8 cf] 54)).frozen? ⟨go, i, none⟩ = false := by rw [hw3]; exact g2
  have HF3 := hid hf3
  have HW3 := hid hw3
  clear hw3 H hK g1 g2 hf3
  conv => arg 2; whnf
  subst h2
  have HE := hid (show r = recV xl f (fun a b => isV ns b.toNat (xl.getD a noIt)) by rw [HH.out.eq, one8 rfl]; simp [It.k, It.l])
  obtain ⟨P, hP⟩ : ∃ P, j = 2 * P := ⟨j / 2, by have := HH.out.may.even rfl; have h2 := HH.out.hxm; simp only [It.l] at this; omega⟩
  have HPP := hid hP
  have HJJ := hid HH.out.hj
  clear hP
  go_wp2_with fail
  rw [HW3.out]
  clear m0 m1 m2 m3 m4 m5 m6 m7 m8 q0 q1 q2 q3 q4 q5 q6 n0 n1 n2 n3 n4 n5 n6 n7 n8 p0 p2
  obtain ⟨T', hT'⟩ : ∃ T' : Nat → Value, T' = (fun s => if s = 0 then .agg #[.slice (some ad) M c] else if s = 1 then .agg #[.int .i64 5, .int .u64 xn, .string xs, .slice Ax j cx] else if s = 2 then .pointer (some ⟨w.heap.size, 0, none⟩) else if s = 4 then .slice none 0 0 else if s = 5 then .slice (some ⟨go, 0, none⟩) M M else .int .i64 (i : Int)) := ⟨_, rfl⟩
  refine wp_loop (fun a w' => ∃ (p u : Nat) (ok : Bool), p ≤ x8 ∧ u ≤ p ∧ FrF a.tmps T' (w.heap.size + 1) wr.heap.size A1 j c1 ok u p ∧ a.defers = [] ∧ (ok = true → u = (f.take p).countP (fun g => hitBy xl P g) ∧ ∀ t (ht : t < f.length), t < p → DenR.GoodF xl P (fun a b => isV ns b.toNat (xl.getD a noIt)) f[t]) ∧ (ok = false → recV xl f (fun a b => isV ns b.toNat (xl.getD a noIt)) = false) ∧ Fr (fun _ => False) w3 w') (fun a _ => x8 - (intOf (a.tmps.getD 17 undef)).toNat) ?_ ?_
  · subst hT'
    exact ⟨0, 0, true, Nat.zero_le _, Nat.le_refl _, ⟨rfl, rfl, rfl, rfl, rfl, rfl, rfl, rfl, rfl, rfl, rfl, rfl, rfl⟩, rfl, fun _ => ⟨by simp, fun t ht h => by omega⟩, (fun h => (by cases h)), Fr.refl _ _⟩
  · rintro ⟨t, ds⟩ w' ⟨p, u, ok, hp, hup, hfr, rfl, hyt, hnf, hf⟩
    obtain ⟨hsz, g0, g1, g2, g4, g5, g8, g3, g6, g9, g15, g16, g17⟩ := hfr
    obtain ⟨T2, hT2⟩ : ∃ T2 : Nat → Value, ∀ i, t.getD i undef = T2 i := ⟨_, fun _ => rfl⟩
    have hlit := lit351T t hsz T2 hT2
    have w2 : ∀ {i : Nat} {v : Value}, t[i]? = some v → T2 i = v := fun h => (hT2 _).symm.trans (getD_of h)
    rw [w2 g3, w2 g6, w2 g9, w2 g15, w2 g16, w2 g17] at hlit
    have hact := congrArg (fun x => (⟨x, []⟩ : Act)) hlit
    simp only at hact
    rw [hact]
    have HF := hid hf
    have hx8 : x8 ≤ 1048576 := by have h1 := HH.out.nd.fm; simp only at h1; have := HH.out.l8; omega
    have hx8c : x8 ≤ cf := by have h1 := HH.out.nd.fc; simp only at h1; have := HH.out.l8; omega
    have HLP := hid (show xl.length / 2 = P by rw [HH.out.hxm]; have := HPP.out; omega)
    have HPD := hid (keys_apart f [] HH.out.ke).2
    have K0 := hid (show some (T2 0) = some (.agg #[.slice (some ad) M c]) from congrArg some ((w2 g0).trans (by rw [hT']; rfl)))
    have K1 := hid (show some (T2 1) = some (.agg #[.int .i64 5, .int .u64 xn, .string xs, .slice Ax j cx]) from congrArg some ((w2 g1).trans (by rw [hT']; rfl)))
    have K2 := hid (show some (T2 2) = some (.pointer (some ⟨w.heap.size, 0, none⟩)) from congrArg some ((w2 g2).trans (by rw [hT']; rfl)))
    have K4 := hid (show some (T2 4) = some (.slice none 0 0) from congrArg some ((w2 g4).trans (by rw [hT']; rfl)))
    have K5 := hid (show some (T2 5) = some (.slice (some ⟨go, 0, none⟩) M M) from congrArg some ((w2 g5).trans (by rw [hT']; rfl)))
    have K8 := hid (show some (T2 8) = some (.int .i64 (i : Int)) from congrArg some ((w2 g8).trans (by rw [hT']; rfl)))
    have k2 := w2 g2
    have k5 := w2 g5
    have k8 := w2 g8
    rw [hT'] at k2 k5 k8
    simp only [reduceIte, Nat.reduceEqDiff] at k2 k5 k8
    by_cases hgo : ok = true ∧ p < x8
    · obtain ⟨rfl, hlt⟩ := hgo
      have hpl : p < f.length := by have := HH.out.l8; omega
      obtain ⟨af, rfl, hab, hks, hkn, f0, f1, f2⟩ := HH.out.nd.f p hpl
      have HCT := hid (count_take hpl (fun g => hitBy xl P g))
      have HNM := hid (HH.out.na f[p].node (by simp only [Nod.named, List.mem_append, List.mem_map]; exact Or.inr ⟨f[p], List.getElem_mem hpl, rfl⟩))
      obtain ⟨fe, hfe⟩ : ∃ fe, f[p] = fe := ⟨_, rfl⟩
      have HFE := hid hfe
      rw [hfe] at f0 f1 f2 hkn hks HCT HNM
      obtain ⟨key, nd, opt⟩ := fe
      simp only at f0 f1 f2 hkn hks HNM
      obtain ⟨q, rfl⟩ : ∃ q : Nat, nd = (q : Int) := ⟨nd.toNat, by have := HNM.out; omega⟩
      have hqM : q < M := by have := HNM.out; omega
      have HFA := hid (HF3.out.trans hf)
      refine fGo T2 (w.heap.size + 1) wr.heap.size A1 af Ax j cx c1 x8 cf p u P lo hi xl key w' HJJ.out HH.out.hxc hlt hx8c HPP.out HH.out.hxm (fun wx hx => (HST.out wx (hf.trans hx)).2.2.2.2.1) (fun wx hx => ?_) (HH.out.itl.fr0 HFA.out HH.out.hh) (cell_fr f0 HFA.out) opt q M (fun y => isV ns q (xl.getD y noIt)) hqM (by omega) hx8 (cell_fr f1 HFA.out) (cell_fr f2 HFA.out) (fun wx hx y hy => ?_) HH.out.cap _ _ (fun t3 w4 ok3 u3 hfr3 hcs hf4 => ?_)
      · obtain ⟨_, _, _, _, _, zb, _⟩ := HST.out wx (hf.trans hx)
        obtain ⟨_, _, _, _, _, _, _, _, k8'⟩ := blk9 zb
        exact k8'
      · obtain ⟨ab, gk, e1, e2, e3⟩ := HH.out.rows wx ((HFA.out.trans hx).mono (fun _ _ h => h.elim)) y hy
        exact ⟨ab, gk, e1, e2, e3 q hqM⟩
      · obtain ⟨qs, q0, q1, q2, q4, q5, q8, q3, q6, q9, q15, q16, q17⟩ := hfr3
        have hfr5 : ∀ (u' : Nat), u3 = (u' : Int) → FrF t3 T' (w.heap.size + 1) wr.heap.size A1 j c1 ok3 (u' : Int) ((p + 1 : Nat) : Int) := fun u' hu => by
          rw [hu] at q16
          exact ⟨qs, q0.trans (congrArg some (w2 g0)), q1.trans (congrArg some (w2 g1)), q2.trans (congrArg some (w2 g2)), q4.trans (congrArg some (w2 g4)), q5.trans (congrArg some (w2 g5)), q8.trans (congrArg some (w2 g8)), q3, q6, q9, q15, q16, q17⟩
        refine ⟨?_, ?_⟩
        · rcases hcs with ⟨hno, rfl, rfl⟩ | ⟨m0, hm0, hk0, rfl, rfl⟩
          · have HHN := DenR.hit_none (g := ⟨key, (q : Int), ok3⟩) hno
            refine ⟨p + 1, u, ok3, by omega, by omega, hfr5 u rfl, rfl, fun ho => ⟨by rw [HCT.out, HHN, (hyt rfl).1]; simp, fun t ht h => ?_⟩, fun ho => ?_, hf.trans hf4⟩
            · by_cases h' : t < p
              · exact (hyt rfl).2 t ht h'
              · obtain rfl : t = p := by omega
                rw [HFE.out]
                exact ⟨fun h => (by rw [HHN] at h; cases h), fun _ => ho⟩
            · exact ref_no (List.getElem_mem hpl) (by rw [HFE.out, HLP.out]; exact HHN) (by rw [HFE.out]; exact ho)
          · have HHT := DenR.hit_of (g := ⟨key, (q : Int), opt⟩) hm0 hk0
            refine ⟨p + 1, u + 1, _, by omega, by omega, hfr5 (u + 1) (by omega), rfl, fun ho => ⟨by rw [HCT.out, HHT, (hyt rfl).1]; simp, fun t ht h => ?_⟩, fun ho => ?_, hf.trans hf4⟩
            · by_cases h' : t < p
              · exact (hyt rfl).2 t ht h'
              · obtain rfl : t = p := by omega
                rw [HFE.out]
                refine ⟨fun _ m' hm' hk' => ?_, fun h => (by rw [HHT] at h; cases h)⟩
                obtain rfl : m' = m0 := key_once HH.out.may rfl (show 2 * m' < xl.length by have := HH.out.hxm; have := HPP.out; omega) (show 2 * m0 < xl.length by have := HH.out.hxm; have := HPP.out; omega) hk' hk0
                show isV ns (Int.toNat (q : Int)) (xl.getD (2 * m' + 1) noIt) = true
                rw [Int.toNat_natCast]
                exact ho
            · exact rec_no2 (m := m0) HPD.out (by rw [HLP.out]; omega) hpl (by rw [HFE.out]; exact hk0) (by
                rw [HFE.out]
                show isV ns (Int.toNat (q : Int)) (xl.getD (2 * m0 + 1) noIt) = false
                rw [Int.toNat_natCast]
                exact ho)
        · show x8 - (intOf (t3.getD 17 undef)).toNat < x8 - (intOf (Value.int .i64 (p : Int))).toNat
          rw [getD_of q17]
          simp only [intOf]
          omega
    · have HGO := hid hgo
      have hquo : Int.tdiv (j : Int) 2 = (P : Int) := by rw [Int.tdiv_eq_ediv_of_nonneg (by omega)]; have := HPP.out; omega
      have hwP : wrap64 (P : Int) = (P : Int) := wrap64_in _ (by have := HPP.out; have := HJJ.out; omega)
      obtain ⟨z0, z1, z2, z3, z4, zb, z5, z6, _, _, _⟩ := HST.out w' hf
      obtain ⟨_, _, _, _, _, _, _, _, k8'⟩ := blk9 zb
      clear zb
      clear g0 g1 g2 g4 g5 g8 g3 g6 g9 g15 g16 g17 hT2 hlit hact w2 hT' hsz hgo
      rw [k2, k5, k8]
      cases ok with
      | false =>
        obtain rfl : r = false := by rw [HE.out, hnf rfl]
        go_wp2_with fail
        exact HK.out _ _ ⟨rfl, K0.out, K1.out, rfl, rfl, K4.out, rfl, rfl, HI64.out⟩ (HST.out w' HF.out).2.2.2.2.2.2.2.2.1 (HST.out w' HF.out).2.2.2.2.2.2.2.2.2.1
      | true =>
        have hpx : p = x8 := by have := HGO.out; simp only [true_and] at this; omega
        subst hpx
        have HUP := hid (show u = had xl f P by rw [(hyt rfl).1, ← HH.out.l8, List.take_length]; rfl)
        have HRY := hid (ref_yes (x := .mk 5 xn xs xl) (fs := f) (B := (fun a b => isV ns b.toNat (xl.getD a noIt))) HH.out.may rfl HPD.out (fun g hg => by
          obtain ⟨t, ht, rfl⟩ := List.getElem_of_mem hg
          have := (hyt rfl).2 t ht (by have := HH.out.l8; omega)
          rw [show (It.mk 5 xn xs xl).l = xl from rfl, HLP.out]
          exact this))
        have HRV := hid (show r = decide (u = P) by
          rw [HE.out, HUP.out]
          have := HRY.out
          rw [show (It.mk 5 xn xs xl).l = xl from rfl, HLP.out] at this
          exact this)
        by_cases hu : u = P
        · obtain rfl : r = true := by rw [HRV.out]; exact decide_eq_true hu
          have hb : ((u : Int) == (P : Int)) = true := beq_iff_eq.2 (by omega)
          clear hyt hnf
          go_wp2_with fail
          exact HK.out _ _ ⟨rfl, K0.out, K1.out, rfl, rfl, K4.out, rfl, rfl, HI64.out⟩ (HST.out w' HF.out).2.2.2.2.2.2.2.2.1 (HST.out w' HF.out).2.2.2.2.2.2.2.2.2.1
        · obtain rfl : r = false := by rw [HRV.out]; exact decide_eq_false hu
          have hb : ((u : Int) == (P : Int)) = false := beq_eq_false_iff_ne.2 (by omega)
          clear hyt hnf
          go_wp2_with fail
          exact HK.out _ _ ⟨rfl, K0.out, K1.out, rfl, rfl, K4.out, rfl, rfl, HI64.out⟩ (HST.out w' HF.out).2.2.2.2.2.2.2.2.1 (HST.out w' HF.out).2.2.2.2.2.2.2.2.2.1
end Go.Proofs.YtkmgiodhaaajjaaDoor.DenRa
