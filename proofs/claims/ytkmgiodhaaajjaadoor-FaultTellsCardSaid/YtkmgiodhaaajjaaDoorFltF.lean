/- Layer fault: texts. -/
import Derived.Test.YtkmgiodhaaajjaaDoorFltD
import Derived.Test.YtkmgiodhaaajjaaDoorItoa
import Derived.Deep.RegionHeld3
set_option linter.unusedVariables false
set_option linter.unusedSimpArgs false
namespace Go.Proofs.YtkmgiodhaaajjaaDoor.FltF
open Go.IntWalk Go.RowKit Go.Proofs.YtkmgiodhaaajjaaDoor.Mem Go.Proofs.YtkmgiodhaaajjaaDoor.App Go.Proofs.YtkmgiodhaaajjaaDoor.Txt Go.Proofs.YtkmgiodhaaajjaaDoor.Itoa Go.Proofs.YtkmgiodhaaajjaaDoor.FltA Go.Proofs.YtkmgiodhaaajjaaDoor.FltB Go.Proofs.YtkmgiodhaaajjaaDoor.FltC Go.Proofs.YtkmgiodhaaajjaaDoor.FltD

theorem opq (l : List UInt8) (N : Nat) (h : l.length ≤ N) : ∃ s : ByteArray, txt l = s ∧ s.size ≤ N := ⟨_, rfl, by rw [txt_size]; exact h⟩
/-- The text of a number; of a fault; of a fault with texts ahead. -/
noncomputable def errB (e : Int) : ByteArray := { data := #[117, 108, 108, 97, 103, 101, 58, 32, 101, 114, 114, 111, 114, 32] } ++ txt (Lib.itoa e)
noncomputable def fltB (e a : Int) : ByteArray := { data := #[97, 116, 32] } ++ txt (Lib.itoa a) ++ { data := #[58, 32] } ++ errB e
noncomputable def chB (e a : Int) : List ByteArray → ByteArray
  | [] => fltB e a
  | s :: l => s ++ { data := #[58, 32] } ++ chB e a l
/-- A number's range. -/
def I64 (n : Int) : Prop := -9223372036854775808 ≤ n ∧ n ≤ 9223372036854775807
theorem errB_size {e : Int} (h : I64 e) : (errB e).size ≤ 40 := by
  have := Dec.itoa_len e h.1 h.2
  have h2 : (ByteArray.mk #[117, 108, 108, 97, 103, 101, 58, 32, 101, 114, 114, 111, 114, 32]).size = 14 := rfl
  rw [errB, ByteArray.size_append, txt_size]
  omega
theorem fltB_size {e a : Int} (h : I64 e) (ha : I64 a) : (fltB e a).size ≤ 80 := by
  have := Dec.itoa_len a ha.1 ha.2
  have h2 : (ByteArray.mk #[97, 116, 32]).size = 3 := rfl
  have h3 : (ByteArray.mk #[58, 32]).size = 2 := rfl
  have := errB_size h
  rw [fltB, ByteArray.size_append, ByteArray.size_append, ByteArray.size_append, txt_size]
  omega
theorem chB_size {e a : Int} (h : I64 e) (ha : I64 a) : ∀ l : List ByteArray, (∀ s ∈ l, s.size ≤ 100) → (chB e a l).size ≤ 80 + 102 * l.length
  | [], _ => fltB_size h ha
  | s :: l, hl => by
    have h1 := chB_size h ha l (fun t ht => hl t (by simp [ht]))
    have h2 := hl s (by simp)
    have h3 : (ByteArray.mk #[58, 32]).size = 2 := rfl
    rw [chB, ByteArray.size_append, ByteArray.size_append, List.length_cons]
    omega

set_option maxRecDepth 100000 in
set_option maxHeartbeats 8000000 in
theorem errno_calls (e : Int) (w : World) (he : I64 e) (hT : Tab w) : Calls Tryd.prog 87 #[.int .i64 e] w fun ev w' => ev = .returned (.string (errB e)) ∧ Fr (fun _ => False) w w' := by
  obtain ⟨s, hs, hz⟩ := opq (Lib.itoa e) 21 (Dec.itoa_len e he.1 he.2)
  have HC := hid (itoa_calls e w he.1 he.2 hT)
  have HE := hid (show errB e = { data := #[117, 108, 108, 97, 103, 101, 58, 32, 101, 114, 114, 111, 114, 32] } ++ s by rw [errB, hs])
  rw [hs] at HC
  clear hs hT he
  go_enter Tryd.func87, Tryd.ntmps87
  go_wp2_with fail
  refine HC.out.mono ?_
  rintro ev w1 ⟨rfl, hf⟩
  go_wp2_with fail
  go_ret
  exact ⟨by rw [HE.out]; rfl, hf⟩

set_option maxRecDepth 100000 in
set_option maxHeartbeats 8000000 in
/-- The text of a fault. -/
theorem flt_calls (g : Nat) (e a : Int) (w : World) (he : I64 e) (ha : I64 a) (hT : Tab w) (hb : Blk w g 81 #[.int .i64 e, .int .i64 a]) : Calls Tryd.prog 54 #[.pointer (some ⟨g, 0, none⟩)] w fun ev w' => ev = .returned (.string (fltB e a)) ∧ Fr (fun _ => False) w w' := by
  obtain ⟨s, hs, hz⟩ := opq (Lib.itoa a) 21 (Dec.itoa_len a ha.1 ha.2)
  obtain ⟨r, hr, hrz⟩ : ∃ r, errB e = r ∧ r.size ≤ 40 := ⟨_, rfl, errB_size he⟩
  have HX := hid (show fltB e a = { data := #[97, 116, 32] } ++ s ++ { data := #[58, 32] } ++ r by rw [fltB, hs, hr])
  have HS := hid (show ∀ w', Fr (fun _ => False) w w' → w'.cell? ⟨g, 0, none⟩ = some (.int .i64 e) ∧ w'.cell? ⟨g, 1, none⟩ = some (.int .i64 a) ∧ Fr (fun _ => False) w w' from fun w' hf => by
    obtain ⟨c0, c1⟩ := blk2 (hb.fr hf (fun h => h))
    exact ⟨c0, c1, hf⟩)
  have HC0 := hid (fun wx (hf : wx.cell? ⟨g, 0, none⟩ = some (.int .i64 e) ∧ wx.cell? ⟨g, 1, none⟩ = some (.int .i64 a) ∧ Fr (fun _ => False) w wx) => (itoa_calls a wx ha.1 ha.2 (hT.fr0 hf.2.2)).mono (R' := fun ev w' => ev = .returned (.string s) ∧ (w'.cell? ⟨g, 0, none⟩ = some (.int .i64 e) ∧ w'.cell? ⟨g, 1, none⟩ = some (.int .i64 a) ∧ Fr (fun _ => False) w w')) (fun ev w' h => ⟨by rw [← hs]; exact h.1, HS.out w' (hf.2.2.trans h.2)⟩))
  have HC1 := hid (fun wx (hf : wx.cell? ⟨g, 0, none⟩ = some (.int .i64 e) ∧ wx.cell? ⟨g, 1, none⟩ = some (.int .i64 a) ∧ Fr (fun _ => False) w wx) => (errno_calls e wx he (hT.fr0 hf.2.2)).mono (R' := fun ev w' => ev = .returned (.string r) ∧ (w'.cell? ⟨g, 0, none⟩ = some (.int .i64 e) ∧ w'.cell? ⟨g, 1, none⟩ = some (.int .i64 a) ∧ Fr (fun _ => False) w w')) (fun ev w' h => ⟨by rw [← hr]; exact h.1, HS.out w' (hf.2.2.trans h.2)⟩))
  obtain ⟨c0, c1, _⟩ := HS.out w (Fr.refl _ _)
  have hk1 : ¬ 9223372036854775807 < 3 + s.size := by omega
  have hk2 : ¬ 9223372036854775807 < 3 + s.size + 2 := by omega
  have hk3 : ¬ 9223372036854775807 < 3 + s.size + 2 + r.size := by omega
  clear hs hr hb hT
  go_enter Tryd.func54, Tryd.ntmps54
  go_wp2_with fail
  go_region_held3 (fun w' => w'.cell? ⟨g, 0, none⟩ = some (.int .i64 e) ∧ w'.cell? ⟨g, 1, none⟩ = some (.int .i64 a) ∧ Fr (fun _ => False) w w')
    (first | exact HS.out _ (Fr.refl _ _) | exact HS.out _ (Fr.refl _ _).drew | assumption)
    (first
      | ((go_at_call 86; with_reducible refine (HC0.out _ (by assumption)).mono ?_; rintro e' wz ⟨rfl, hS⟩))
      | ((go_at_call 87; with_reducible refine (HC1.out _ (by assumption)).mono ?_; rintro e' wz ⟨rfl, hS⟩)))
  all_goals
    have HF := hid hS.2.2
    clear hS
    go_wp2_with fail
    go_ret
    exact ⟨by rw [HX.out]; rfl, HF.out⟩

/-- An error's text, by its own method. -/
def Says (W : World) (v : Value) (t : ByteArray) : Prop := ∃ p, (v = .iface 76 p ∧ ∀ wx, Fr (fun _ => False) W wx → Calls Tryd.prog 54 #[p] wx fun ev w' => ev = .returned (.string t) ∧ Fr (fun _ => False) wx w') ∨ (v = .iface 127 p ∧ ∀ wx, Fr (fun _ => False) W wx → Calls Tryd.prog 171 #[p] wx fun ev w' => ev = .returned (.string t) ∧ Fr (fun _ => False) wx w')

set_option maxRecDepth 100000 in
set_option maxHeartbeats 8000000 in
theorem wrap_says (W : World) (g : Nat) (s t : ByteArray) (E : Value) (hb : Blk W g 129 #[.string s, E]) (hs : s.size ≤ 100) (ht : t.size ≤ 10000) (h : Says W E t) (wx : World) (hx : Fr (fun _ => False) W wx) :
    Calls Tryd.prog 171 #[.pointer (some ⟨g, 0, none⟩)] wx fun ev w' => ev = .returned (.string (s ++ { data := #[58, 32] } ++ t)) ∧ Fr (fun _ => False) wx w' := by
  obtain ⟨p, ⟨rfl, h⟩ | ⟨rfl, h⟩⟩ := h
  · have HS := hid (show ∀ w', Fr (fun _ => False) wx w' → w'.cell? ⟨g, 0, none⟩ = some (.string s) ∧ w'.cell? ⟨g, 1, none⟩ = some (.iface 76 p) ∧ Fr (fun _ => False) wx w' from fun w' hf => by
      obtain ⟨c0, c1⟩ := blk2 (hb.fr (hx.trans hf) (fun h => h))
      exact ⟨c0, c1, hf⟩)
    have HC := hid (fun wy (hf : wy.cell? ⟨g, 0, none⟩ = some (.string s) ∧ wy.cell? ⟨g, 1, none⟩ = some (.iface 76 p) ∧ Fr (fun _ => False) wx wy) => (h wy (hx.trans hf.2.2)).mono (R' := fun ev w' => ev = .returned (.string t) ∧ (w'.cell? ⟨g, 0, none⟩ = some (.string s) ∧ w'.cell? ⟨g, 1, none⟩ = some (.iface 76 p) ∧ Fr (fun _ => False) wx w')) (fun ev w' h => ⟨h.1, HS.out w' (hf.2.2.trans h.2)⟩))
    obtain ⟨c0, c1, _⟩ := HS.out wx (Fr.refl _ _)
    have hk1 : ¬ 9223372036854775807 < s.size + 2 := by omega
    have hk2 : ¬ 9223372036854775807 < s.size + 2 + t.size := by omega
    clear h hb hx
    go_enter Tryd.func171, Tryd.ntmps171
    go_wp2_with fail
    go_region_held3 (fun w' => w'.cell? ⟨g, 0, none⟩ = some (.string s) ∧ w'.cell? ⟨g, 1, none⟩ = some (.iface 76 p) ∧ Fr (fun _ => False) wx w')
      (first | exact HS.out _ (Fr.refl _ _) | exact HS.out _ (Fr.refl _ _).drew | assumption)
      (first
        | ((go_at_call 54; with_reducible refine (HC.out _ (by assumption)).mono ?_; rintro e' wz ⟨rfl, hS⟩))
        | ((go_invoke; go_at_call 54; with_reducible refine (HC.out _ (by assumption)).mono ?_; rintro e' wz ⟨rfl, hS⟩)))
    all_goals
      have HF := hid hS.2.2
      clear hS
      go_wp2_with fail
      go_ret
      exact ⟨rfl, HF.out⟩
  · have HS := hid (show ∀ w', Fr (fun _ => False) wx w' → w'.cell? ⟨g, 0, none⟩ = some (.string s) ∧ w'.cell? ⟨g, 1, none⟩ = some (.iface 127 p) ∧ Fr (fun _ => False) wx w' from fun w' hf => by
      obtain ⟨c0, c1⟩ := blk2 (hb.fr (hx.trans hf) (fun h => h))
      exact ⟨c0, c1, hf⟩)
    have HC := hid (fun wy (hf : wy.cell? ⟨g, 0, none⟩ = some (.string s) ∧ wy.cell? ⟨g, 1, none⟩ = some (.iface 127 p) ∧ Fr (fun _ => False) wx wy) => (h wy (hx.trans hf.2.2)).mono (R' := fun ev w' => ev = .returned (.string t) ∧ (w'.cell? ⟨g, 0, none⟩ = some (.string s) ∧ w'.cell? ⟨g, 1, none⟩ = some (.iface 127 p) ∧ Fr (fun _ => False) wx w')) (fun ev w' h => ⟨h.1, HS.out w' (hf.2.2.trans h.2)⟩))
    obtain ⟨c0, c1, _⟩ := HS.out wx (Fr.refl _ _)
    have hk1 : ¬ 9223372036854775807 < s.size + 2 := by omega
    have hk2 : ¬ 9223372036854775807 < s.size + 2 + t.size := by omega
    clear h hb hx
    go_enter Tryd.func171, Tryd.ntmps171
    go_wp2_with fail
    go_region_held3 (fun w' => w'.cell? ⟨g, 0, none⟩ = some (.string s) ∧ w'.cell? ⟨g, 1, none⟩ = some (.iface 127 p) ∧ Fr (fun _ => False) wx w')
      (first | exact HS.out _ (Fr.refl _ _) | exact HS.out _ (Fr.refl _ _).drew | assumption)
      (first
        | ((go_at_call 171; with_reducible refine (HC.out _ (by assumption)).mono ?_; rintro e' wz ⟨rfl, hS⟩))
        | ((go_invoke; go_at_call 171; with_reducible refine (HC.out _ (by assumption)).mono ?_; rintro e' wz ⟨rfl, hS⟩)))
    all_goals
      have HF := hid hS.2.2
      clear hS
      go_wp2_with fail
      go_ret
      exact ⟨rfl, HF.out⟩

theorem ch_says {W : World} {n : Nat} {v : Value} {e a : Int} {l : List ByteArray} (h : Ch W n v e a l) (he : I64 e) (ha : I64 a) (hT : Tab W) (hs : ∀ s ∈ l, s.size ≤ 100) (hl : l.length ≤ 20) : Says W v (chB e a l) := by
  induction h with
  | leaf g e a hg hb => exact ⟨_, .inl ⟨rfl, fun wx hx => flt_calls g e a wx he ha (hT.fr0 hx) (hb.fr hx (fun h => h))⟩⟩
  | wrap g s E e a l hg hb hm hc ih =>
    have hi := ih he ha (fun t ht => hs t (by simp [ht])) (by simp at hl; omega)
    have hz := chB_size he ha l (fun t ht => hs t (by simp [ht]))
    have hl2 : l.length ≤ 20 := by simp at hl; omega
    exact ⟨_, .inr ⟨rfl, fun wx hx => wrap_says W g s _ E hb (hs s (by simp)) (by omega) hi wx hx⟩⟩
end Go.Proofs.YtkmgiodhaaajjaaDoor.FltF
