/- Layer order: the keys and the document's answer side by side. -/
import Derived.Test.YtcbogkpgkdijaaaOrdD
import Derived.Deep.RegionHeld3
set_option linter.unusedVariables false
set_option linter.unusedSimpArgs false
namespace Go.Proofs.Ytcbogkpgkdijaaa.OrdE
open Go.RowKit Go.Proofs.Ytcbogkpgkdijaaa.Mem Go.Proofs.Ytcbogkpgkdijaaa.Num Go.Proofs.Ytcbogkpgkdijaaa.OrdA Go.Proofs.Ytcbogkpgkdijaaa.OrdB Go.Proofs.Ytcbogkpgkdijaaa.OrdC Go.Proofs.Ytcbogkpgkdijaaa.OrdD

/-- Keys that the call made. -/
structure KS (w0 w : World) (g b0 b1 cap : Nat) (k : K) : Prop where
  at_ : KeyAt w g b0 b1 cap k
  g0 : w0.heap.size ≤ g
  h0 : w0.heap.size ≤ b0
  h1 : w0.heap.size ≤ b1
  fr : Fr (fun _ => False) w0 w
  le : k.k0.length ≤ cap ∧ k.k1.length ≤ cap

theorem KeyAt.drewN {w : World} {g b0 b1 cap : Nat} {k : K} (h : KeyAt w g b0 b1 cap k) (n : Nat) : KeyAt (w.drewN n) g b0 b1 cap k := ⟨h.blk, h.r0, h.r1, h.ne, h.by0, h.by1⟩
theorem KS.drewN {w0 w : World} {g b0 b1 cap : Nat} {k : K} (h : KS w0 w g b0 b1 cap k) (n : Nat) : KS w0 (w.drewN n) g b0 b1 cap k := ⟨KeyAt.drewN h.at_ n, h.g0, h.h0, h.h1, h.fr.drewN n, h.le⟩
theorem KS.cur_le {w0 w : World} {g b0 b1 cap : Nat} {k : K} (h : KS w0 w g b0 b1 cap k) : k.cur.length ≤ cap ∧ k.last.length ≤ cap := by
  obtain ⟨a, b⟩ := h.le
  unfold K.cur K.last
  cases k.now <;> exact ⟨by assumption, by assumption⟩
theorem row_le {w : World} {b cap : Nat} {xs : List Int} (h : RowI w b cap xs) : xs.length ≤ cap := by obtain ⟨_, _, _, h, _⟩ := h; exact h
theorem KeyAt.le {w : World} {g b0 b1 cap : Nat} {k : K} (h : KeyAt w g b0 b1 cap k) : k.k0.length ≤ cap ∧ k.k1.length ≤ cap := ⟨row_le h.r0, row_le h.r1⟩
/-- The same behind what leaves its blocks alone. -/
theorem KeyAt.fr {w w' : World} {g b0 b1 cap : Nat} {k : K} {S : Nat → Prop} (h : KeyAt w g b0 b1 cap k) (hf : Fr S w w') (s0 : ¬ S g) (s1 : ¬ S b0) (s2 : ¬ S b1) : KeyAt w' g b0 b1 cap k :=
  ⟨h.blk.fr hf s0, h.r0.fr hf s1, h.r1.fr hf s2, h.ne, h.by0, h.by1⟩
theorem KS.other {w0 w w' : World} {g b0 b1 cap x t : Nat} {k : K} {cs : Array Value} (h : KS w0 w g b0 b1 cap k) (hx : Blk w x t cs) (t1 : t ≠ 5) (t2 : t ≠ 65) (hx0 : w0.heap.size ≤ x) (hf : Fr (fun i => i = x) w w') : KS w0 w' g b0 b1 cap k := by
  have ne0 : ¬ g = x := fun e => by subst e; exact (hx.ne_ h.at_.blk t2) rfl
  have ne1 : ∀ b xs, RowI w b cap xs → ¬ b = x := fun b xs hr e => by subst e; obtain ⟨_, hb, _⟩ := hr; exact (hx.ne_ hb t1) rfl
  exact ⟨KeyAt.fr h.at_ hf ne0 (ne1 _ _ h.at_.r0) (ne1 _ _ h.at_.r1), h.g0, h.h0, h.h1, h.fr.then_ hf (fun i hi e => by omega), h.le⟩

def byteK (k : K) (cap : Nat) (c : Int) : K := if k.cur.length < cap then k.push c else k

theorem byte_ks {w0 w : World} {g b0 b1 cap : Nat} {k : K} (c : Int) (h0 : 0 ≤ c) (h1 : c ≤ 255) (h : KS w0 w g b0 b1 cap k) :
    Calls Try.prog 26 #[.pointer (some ⟨g, 0, none⟩), .int .u8 c] w fun e w' => e = .returned (.bool (decide (k.cur.length < cap))) ∧ KS w0 w' g b0 b1 cap (byteK k cap c) ∧ Fr (fun i => i = g ∨ i = b0 ∨ i = b1) w w' := by
  unfold byteK
  by_cases hlt : k.cur.length < cap
  · rw [if_pos hlt, decide_eq_true hlt]
    refine (byte_calls g b0 b1 cap k c w h0 h1 h.at_ hlt).mono fun e w' ⟨he, ha, hf⟩ => ⟨he, ⟨ha, h.g0, h.h0, h.h1, h.fr.then_ hf (fun i hi e => ?_), KeyAt.le ha⟩, hf⟩
    have := h.g0; have := h.h0; have := h.h1; omega
  · rw [if_neg hlt, decide_eq_false hlt]
    refine (byte_full g b0 b1 cap k c w h.at_ (by have := h.cur_le.1; omega)).mono fun e w' ⟨he, n, hw⟩ => ⟨he, ?_, ?_⟩
    · rw [hw]; exact h.drewN n
    · rw [hw]; exact (Fr.refl _ _).drewN n
theorem end_ks {w0 w : World} {g b0 b1 cap : Nat} {k : K} (h : KS w0 w g b0 b1 cap k) :
    Calls Try.prog 28 #[.pointer (some ⟨g, 0, none⟩)] w fun e w' => e = .returned (.bool (okB k)) ∧ KS w0 w' g b0 b1 cap (endK k) ∧ Fr (fun i => i = g) w w' :=
  (end_calls g b0 b1 cap k w h.at_).mono fun e w' ⟨he, ha, hf⟩ => ⟨he, ⟨ha, h.g0, h.h0, h.h1, h.fr.then_ hf (fun i hi e => by have := h.g0; omega), KeyAt.le ha⟩, hf⟩
theorem reset_ks {w0 w : World} {g b0 b1 cap : Nat} {k : K} (hc : cap ≤ 1024) (h : KS w0 w g b0 b1 cap k) :
    Calls Try.prog 30 #[.pointer (some ⟨g, 0, none⟩)] w fun e w' => e = .returned (.tuple #[]) ∧ KS w0 w' g b0 b1 cap ⟨[], [], k.now, false⟩ ∧ Fr (fun i => i = g) w w' :=
  (reset_calls g b0 b1 cap k w hc h.at_).mono fun e w' ⟨he, ha, hf⟩ => ⟨he, ⟨ha, h.g0, h.h0, h.h1, h.fr.then_ hf (fun i hi e => by have := h.g0; omega), KeyAt.le ha⟩, hf⟩
def KNew (w : World) (cap : Nat) (e : Ending) (w' : World) : Prop := ∃ g b0 b1 : Nat, e = .returned (.pointer (some ⟨g, 0, none⟩)) ∧ KS w w' g b0 b1 cap K.zero
theorem new_ks (most : Int) (w : World) : Calls Try.prog 23 #[.int .i64 most] w (KNew w (capM most)) :=
  (new_calls most w).mono fun e w' ⟨g, b0, b1, he, g0, h0, h1, ha, hf⟩ => ⟨g, b0, b1, he, ha, g0, h0, h1, hf, KeyAt.le ha⟩

theorem awake_calls (w : World) : Calls Try.prog 22 #[] w fun e w' => e = .returned (.bool true) ∧ Fr (fun _ => False) w w' := by
  go_enter Try.func22, Try.ntmps22
  go_wp2_with fail
  refine (new_ks 3 w).mono ?_
  rintro e w1 ⟨g, b0, b1, rfl, h⟩
  have H1 := hid h
  clear h
  go_wp2_with fail
  refine (byte_ks 97 (by decide) (by decide) H1.out).mono ?_
  rintro e w2 ⟨rfl, h, _⟩
  have H2 := hid h
  clear h H1
  go_wp2_with fail
  refine (end_ks H2.out).mono ?_
  rintro e w3 ⟨rfl, h, _⟩
  have H3 := hid h
  clear h H2
  rw [show okB (byteK K.zero (capM 3) 97) = true from by decide]
  go_wp2_with fail
  refine (byte_ks 98 (by decide) (by decide) H3.out).mono ?_
  rintro e w4 ⟨rfl, h, _⟩
  have H4 := hid h
  clear h H3
  go_wp2_with fail
  refine (end_ks H4.out).mono ?_
  rintro e w5 ⟨rfl, h, _⟩
  have H5 := hid h
  clear h H4
  rw [show okB (byteK (endK (byteK K.zero (capM 3) 97)) (capM 3) 98) = true from by decide]
  go_wp2_with fail
  refine (byte_ks 97 (by decide) (by decide) H5.out).mono ?_
  rintro e w6 ⟨rfl, h, _⟩
  have H6 := hid h
  clear h H5
  go_wp2_with fail
  refine (end_ks H6.out).mono ?_
  rintro e w7 ⟨rfl, h, _⟩
  rw [show okB (byteK (endK (byteK (endK (byteK K.zero (capM 3) 97)) (capM 3) 98)) (capM 3) 97) = false from by decide]
  have H7 := hid h
  clear h H6
  go_wp2
  go_ret
  exact ⟨rfl, H7.out.fr⟩

end Go.Proofs.Ytcbogkpgkdijaaa.OrdE
