/- Walks of the document's answer for layer order. -/
import Derived.Test.YtcbogkpgkdijaaaOrdC
import Derived.Lib.ConvBytes
import Derived.Laws.BytesArg
set_option linter.unusedVariables false
set_option linter.unusedSimpArgs false
namespace Go.Proofs.Ytcbogkpgkdijaaa.OrdD
open Go.RowKit Go.Proofs.Ytcbogkpgkdijaaa.Mem Go.Proofs.Ytcbogkpgkdijaaa.Num Go.Proofs.Ytcbogkpgkdijaaa.OrdA Go.Proofs.Ytcbogkpgkdijaaa.OrdB Go.Proofs.Ytcbogkpgkdijaaa.OrdC

def RefAt (w : World) (g : Nat) (last now : ByteArray) (ended : Bool) (most : Nat) : Prop := Blk w g 43 #[.string last, .string now, .bool ended, .int .i64 most]

/-- What New hands back. -/
def RefNew (w : World) (most : Nat) (e : Ending) (w' : World) : Prop :=
  ∃ g : Nat, e = .returned (.pointer (some ⟨g, 0, none⟩)) ∧ w.heap.size ≤ g ∧ RefAt w' g ⟨#[]⟩ ⟨#[]⟩ false most ∧ Fr (fun _ => False) w w'
theorem refnew_calls (most : Int) (w : World) :
    Calls Try.prog 24 #[.int .i64 most] w (RefNew w (capM most)) := by
  by_cases h0 : most < 0
  · have hc : capM most = 0 := by unfold capM; rw [if_pos h0]
    rw [hc]
    clear hc
    go_enter Try.func24, Try.ntmps24
    go_wp2
    go_ret
    exact ⟨w.heap.size, rfl, Nat.le_refl _, Blk.new _ _ _, (Fr.refl _ _).alloc _⟩
  · by_cases h1 : 1024 < most
    · have hc : capM most = 1024 := by unfold capM; rw [if_neg h0, if_pos h1]
      rw [hc]
      clear hc
      go_enter Try.func24, Try.ntmps24
      go_wp2
      go_ret
      exact ⟨w.heap.size, rfl, Nat.le_refl _, Blk.new _ _ _, (Fr.refl _ _).alloc _⟩
    · obtain ⟨m, rfl⟩ := Int.eq_ofNat_of_zero_le (show 0 ≤ most by omega)
      have hc : capM (m : Int) = m := by unfold capM; rw [if_neg h0, if_neg h1]; rfl
      have hm : m ≤ 1024 := by omega
      rw [hc]
      clear hc
      go_enter Try.func24, Try.ntmps24
      go_wp2
      · go_ret
        exact ⟨w.heap.size, rfl, Nat.le_refl _, Blk.new _ _ _, (Fr.refl _ _).alloc _⟩
      · obtain rfl : m = 0 := by omega
        go_ret
        exact ⟨w.heap.size, rfl, Nat.le_refl _, Blk.new _ _ _, (Fr.refl _ _).alloc _⟩

theorem byt_append (a b : ByteArray) : byt (a ++ b) = byt a ++ byt b := by simp [byt, ByteArray.data_append]
theorem byt_one (c : Int) (h0 : 0 ≤ c) (h1 : c ≤ 255) : byt (strOfNums [c]) = [c] := by
  have := u8_of c h0 h1
  simp only [byt, strOfNums_data, List.map_map, List.map_cons, List.map_nil, Function.comp]
  exact congrArg (fun x => [x]) this
theorem conv_one (w : World) (c : Int) (n : Nat) :
    (convert 28 9 (.slice (some ⟨w.heap.size, 0, none⟩) 1 1)).run Try.prog ((w.drewN n).alloc (.cells #[.int .u8 c] 5)) = .ok (.string (strOfNums [c])) ((w.drewN n).alloc (.cells #[.int .u8 c] 5)) := by
  refine run_convert_bytes_arg _ 28 5 Try.underlying28 Try.underlying5 w.heap.size 0 1 1 [c] rfl (fun i hi => ?_) 9 Try.underlying9
  have : i = 0 := by omega
  subst this
  exact (Blk.new (w.drewN n) 5 #[.int .u8 c]).cell 0

theorem refbyte_full (g : Nat) (last now : ByteArray) (ended : Bool) (most : Nat) (c : Int) (w : World) (hm : most ≤ 1024) (h : RefAt w g last now ended most) (hs : ¬ now.size < most) (hz : now.size ≤ 140737488355328) :
    Calls Try.prog 27 #[.pointer (some ⟨g, 0, none⟩), .int .u8 c] w fun e w' => e = .returned (.bool false) ∧ ∃ n, w' = w.drewN n := by
  have c1 := h.cell 1
  have c3 := h.cell 3
  simp at c1 c3
  clear h
  go_enter Try.func27, Try.ntmps27
  go_wp2
  go_quiet (fail)
  go_wp2
  go_ret
  exact ⟨rfl, _, rfl⟩

set_option maxHeartbeats 4000000 in
theorem refbyte_calls (g : Nat) (last now : ByteArray) (ended : Bool) (most : Nat) (c : Int) (w : World) (h0 : 0 ≤ c) (h1 : c ≤ 255) (hm : most ≤ 1024) (h : RefAt w g last now ended most) (hs : now.size < most) :
    Calls Try.prog 27 #[.pointer (some ⟨g, 0, none⟩), .int .u8 c] w fun e w' => e = .returned (.bool true) ∧ RefAt w' g last (now ++ strOfNums [c]) ended most ∧ Fr (fun i => i = g) w w' := by
  have c1 := h.cell 1
  have c3 := h.cell 3
  have f1 := h.frozen 1
  simp at c1 c3
  have H := hid h
  have hlt := Blk.lt h
  clear h
  have hk := conv_one w c
  obtain ⟨s, hs1⟩ : ∃ s, s = strOfNums [c] := ⟨_, rfl⟩
  rw [← hs1] at hk ⊢
  have hs2 : s.size = 1 := by rw [hs1, strOfNums_size]; rfl
  have hs3 : s.size ≤ 1 := by omega
  clear hs1 hs2
  have a1 := cell_da c1
  have b1 := frozen_da hlt f1
  go_enter Try.func27, Try.ntmps27
  go_wp2
  go_quiet (fail)
  go_wp2
  go_region
  all_goals
    go_wp2
    go_ret
    refine ⟨rfl, ?_, ((((Fr.refl _ w).drewN (nq + 1)).alloc _).set1 _ _)⟩
    have := ((Blk.drewN H.out (nq + 1)).alloc (.cells #[.int .u8 c] 5)).set_ 1 (.string (now ++ s))
    simpa [RefAt] using this

set_option maxHeartbeats 4000000 in
theorem refend_calls (g : Nat) (last now : ByteArray) (ended : Bool) (most : Nat) (w : World) (hl : last.size ≤ 1024) (hn : now.size ≤ 1024) (h : RefAt w g last now ended most) :
    Calls Try.prog 29 #[.pointer (some ⟨g, 0, none⟩)] w fun e w' => e = .returned (.bool (!ended || lessL (byt last) (byt now))) ∧ RefAt w' g now ⟨#[]⟩ true most ∧ Fr (fun i => i = g) w w' := by
  have c0 := h.cell 0
  have c1 := h.cell 1
  have c2 := h.cell 2
  have f0 := h.frozen 0
  have f1 := h.frozen 1
  have f2 := h.frozen 2
  simp at c0 c1 c2
  have H := hid h
  clear h
  obtain ⟨v, hv⟩ : ∃ v, lessL (byt last) (byt now) = v := ⟨_, rfl⟩
  have HV := hid hv
  rw [hv]
  clear hv
  have fin : ∀ nq : Nat, RefAt ((((w.drewN nq).setCell ⟨g, 0, none⟩ (.string now)).setCell ⟨g, 1, none⟩ (.string ⟨#[]⟩)).setCell ⟨g, 2, none⟩ (.bool true)) g now ⟨#[]⟩ true most ∧
      Fr (fun i => i = g) w ((((w.drewN nq).setCell ⟨g, 0, none⟩ (.string now)).setCell ⟨g, 1, none⟩ (.string ⟨#[]⟩)).setCell ⟨g, 2, none⟩ (.bool true)) := by
    intro nq
    refine ⟨?_, ((((Fr.refl _ w).drewN nq).set1 _ _).set1 _ _).set1 _ _⟩
    have := (((Blk.drewN H.out nq).set_ 0 (.string now)).set_ 1 (.string ⟨#[]⟩)).set_ 2 (.bool true)
    simpa [RefAt] using this
  have FIN := hid fin
  clear fin
  cases ended
  · go_enter Try.func29, Try.ntmps29
    go_wp2
    go_quiet (fail)
    go_wp2
    go_ret
    exact ⟨rfl, FIN.out _⟩
  · go_enter Try.func29, Try.ntmps29
    go_wp2
    go_quiet ((go_at_call 32; exact less_q _ _ v _ _ (by omega) (by omega) HV))
    go_wp2
    go_ret
    exact ⟨rfl, FIN.out _⟩

end Go.Proofs.Ytcbogkpgkdijaaa.OrdD
