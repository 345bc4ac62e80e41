/- Layer rows: ways, and the document's; the document's Size. -/
import Derived.Test.YtgdhchknegjpfaaDoorRowsA
set_option linter.unusedVariables false
set_option linter.unusedSimpArgs false
namespace Go.Proofs.YtgdhchknegjpfaaDoor.RowsC
open Go.IntWalk Go.RowKit Go.Proofs.YtgdhchknegjpfaaDoor.Mem Go.Proofs.YtgdhchknegjpfaaDoor.Txt Go.Proofs.YtgdhchknegjpfaaDoor.Itoa Go.Proofs.YtgdhchknegjpfaaDoor.HexB

/-- WriteString, at a builder of the call's own. -/
theorem wtext (w0 : World) (b : Nat) (l t : List UInt8) (w : World) (h : IsB w0 b l w) (hl : l.length + t.length ≤ 140737488355328) (hw : Below w0.heap.size w0 w) :
    Calls Tryd.prog 54 #[.pointer (some ⟨b, 0, none⟩), .string (txt t)] w fun e w' => e = .returned (.tuple #[.int .i64 (t.length : Int), .nilIface]) ∧ IsB w0 b (l ++ t) w' ∧ Below w0.heap.size w0 w' := by
  refine (Bld.text_calls w0.heap.size b (Lib.byteCells l) (txt t) w h (by rw [txt_size]; simp [Lib.byteCells]; omega) hw.size).mono ?_
  rintro e w' ⟨rfl, h1, h2⟩
  refine ⟨by rw [txt_size], .inr ?_, hw.trans h2⟩
  have e : Lib.byteCells (l ++ t) = Lib.byteCells l ++ Lib.strCells (txt t) := by simp [Lib.byteCells, Lib.strCells, txt]
  rw [e]
  exact h1

theorem IsB.fr0 {w0 w w' : World} {b : Nat} {l : List UInt8} (h : IsB w0 b l w) (hf : Fr (fun _ => False) w w') : IsB w0 b l w' := by
  have lt : ∀ {x : Obj}, w.heap[b]? = some x → b < w.heap.size := fun {x} h => (Array.getElem?_eq_some_iff.1 h).1
  rcases h with ⟨h1, v', h2, h3, h4⟩ | ⟨h1, v', h2, h3, h4⟩
  · exact .inl ⟨h1, v', (hf.block _ (lt h2) (fun h => h)).trans h2, h3.kept (row := some w.heap.size) ⟨hf.os, hf.tape, hf.output, hf.size, fun i hi _ => hf.block i hi (fun h => h)⟩ (.inr (fun e => absurd (h3.lt _ e).2 (by omega))), h4⟩
  · exact .inr ⟨h1, v', (hf.block _ (lt h2) (fun h => h)).trans h2, h3.kept (row := some w.heap.size) ⟨hf.os, hf.tape, hf.output, hf.size, fun i hi _ => hf.block i hi (fun h => h)⟩ (.inr (fun e => absurd (h3.lt _ e).2 (by omega))), h4⟩

/-- A way's numbers, each behind its sign. -/
def steps (l : List Int) : List UInt8 := l.flatMap fun n => 47 :: Lib.itoa n
def wayL (l : List Int) : List UInt8 := if l = [] then [47] else steps l
def I64s (l : List Int) : Prop := ∀ n ∈ l, -9223372036854775808 ≤ n ∧ n ≤ 9223372036854775807
theorem steps_snoc (l : List Int) (k : Nat) (h : k < l.length) (v : Int) (hv : l.getD k 0 = v) : steps (l.take (k + 1)) = steps (l.take k) ++ (47 :: Lib.itoa v) := by
  rw [List.take_succ_eq_append_getElem h]
  have : l[k] = v := by rw [← hv]; simp [List.getD_eq_getElem?_getD, List.getElem?_eq_getElem h]
  rw [this]
  simp [steps]
theorem steps_len : ∀ (l : List Int), I64s l → (steps l).length ≤ 22 * l.length
  | [], _ => by simp [steps]
  | n :: l, h => by
    have h1 := steps_len l (fun c hc => h c (by simp [hc]))
    have h2 := h n (by simp)
    have h3 := Dec.itoa_len n h2.1 h2.2
    have e : steps (n :: l) = (47 :: Lib.itoa n) ++ steps l := rfl
    rw [e]
    simp; omega
theorem i64s_take {l : List Int} (h : I64s l) (k : Nat) : I64s (l.take k) := fun c hc => h c (List.mem_of_mem_take hc)

set_option maxRecDepth 20000 in
set_option maxHeartbeats 1000000 in
theorem way_calls (A : Option Addr) (n c : Nat) (l : List Int) (w : World) (hT : Tab w) (hn : l.length = n) (hm : n ≤ 100) (hr : RdI .i64 w A l) (hb : I64s l) :
    Calls Tryd.prog 32 #[.slice A n c] w fun e w' => e = .returned (.string (txt (wayL l))) ∧ Fr (fun _ => False) w w' := by
  have HT := hid hT
  have HN := hid hn
  have HR := hid hr
  have HB := hid hb
  clear hT hr hb
  by_cases h0 : n = 0
  · subst h0
    have hl : l = [] := List.eq_nil_of_length_eq_zero hn
    subst hl
    clear hn
    go_enter Tryd.func32, Tryd.ntmps32
    go_wp2_with fail
    go_ret
    exact ⟨rfl, Fr.refl _ _⟩
  · have hne : ((n : Int) == 0) = false := beq_eq_false_iff_ne.2 (by omega)
    have HW := hid (show wayL l = steps l by rw [wayL, if_neg (by intro e; subst e; simp at hn; omega)])
    have HBB := hid (IsB.fresh w)
    have HB0 := hid ((Below.refl w.heap.size w).alloc (Nat.le_refl _) (.cells #[.pointer none, .slice none 0 0] 77))
    clear hn h0
    go_enter Tryd.func32, Tryd.ntmps32
    go_wp2_with fail
    go_loopw [11] (fun i wr => ∃ k : Nat, k ≤ n ∧ i = .int .i64 k ∧ Hid (IsB w w.heap.size (steps (l.take k)) wr) ∧ Hid (Below w.heap.size w wr)) (fun i _ => n - (intOf i).toNat)
    case atStart => exact ⟨0, Nat.zero_le _, rfl, HBB, HB0⟩
    case round =>
      obtain ⟨k, hk, rfl, H1, H2⟩ := hrel
      by_cases hlt : k < n
      · obtain ⟨ad, rfl, hab, hc⟩ := HR.out k (by rw [HN.out]; exact hlt)
        obtain ⟨v, hv⟩ : ∃ v, l.getD k 0 = v := ⟨_, rfl⟩
        have hvr := HB.out (l.getD k 0) (by simp only [List.getD_eq_getElem?_getD, List.getElem?_eq_getElem (show k < l.length by rw [HN.out]; exact hlt)]; exact List.getElem_mem _)
        have HS := hid (steps_snoc l k (by rw [HN.out]; exact hlt) v hv)
        rw [hv] at hc hvr
        have hc' := (H2.out.cell (p := ad.add k) (by rw [block_of_add]; exact hab)).trans hc
        have HL := hid (show (steps (l.take k)).length ≤ 2200 by have := steps_len _ (i64s_take HB.out k); rw [List.length_take] at this; omega)
        have HIL := hid (Dec.itoa_len v hvr.1 hvr.2)
        have a1 : ∀ w, (Op.stringOp .add { data := #[47] } (txt (Lib.itoa v))).run Tryd.prog w = .ok (.string (txt (47 :: Lib.itoa v))) w := run_add_txt (P := Tryd.prog) [47] (Lib.itoa v) (by have := HIL.out; simp; omega)
        have hv1 := hvr.1
        have hv2 := hvr.2
        have hk0 : (0 : Int) ≤ (k : Int) := by omega
        have hkl : (k : Int) < (n : Int) := by omega
        clear hv hc hvr
        go_wp2_with fail
        refine (itoa_calls v wr hv1 hv2 (HT.out.fr0 (Fr.below H2.out))).mono ?_
        rintro e w1 ⟨rfl, hf⟩
        have H3 := hid (H2.out.trans (hf.toBelowAt H2.out.size (fun _ _ h => h)))
        have H4 := hid (IsB.fr0 H1.out hf)
        clear hf
        go_wp2_with fail
        refine (wtext w w.heap.size (steps (l.take k)) (47 :: Lib.itoa v) w1 H4.out (by have := HL.out; have := HIL.out; simp; omega) H3.out).mono ?_
        rintro e w2 ⟨rfl, h1, h2⟩
        rw [← HS.out] at h1
        have H5 := hid h1
        have H6 := hid h2
        clear h1 h2 a1 hc' H3 H4 H1 H2
        go_wp2_with fail
        go_roundw
        case rel => exact ⟨k + 1, by omega, by go_num, H5, H6⟩
        case measure => simp [intOf]; omega
      · obtain rfl : k = n := by omega
        have e : steps (l.take k) = steps l := by rw [List.take_of_length_le (by rw [HN.out]; omega)]
        rw [e] at H1
        clear e
        go_wp2_with fail
        refine (wstring w _ _ _ H1.out H2.out).mono ?_
        rintro e w' ⟨rfl, h2⟩
        have HF := hid (Fr.below (S := fun _ => False) h2)
        clear h2
        go_wp2_with fail
        go_ret
        rw [HW.out]
        exact ⟨rfl, HF.out⟩
end Go.Proofs.YtgdhchknegjpfaaDoor.RowsC
