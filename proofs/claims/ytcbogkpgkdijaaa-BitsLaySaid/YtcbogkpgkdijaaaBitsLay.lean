/- BitsLay: the law's walk. -/
import Derived.Test.YtcbogkpgkdijaaaBitsB
namespace Go.Proofs.Ytcbogkpgkdijaaa.BitsLay
open Go.RowKit Go.Proofs.Ytcbogkpgkdijaaa.Mem Go.Proofs.Ytcbogkpgkdijaaa.Num Go.Proofs.Ytcbogkpgkdijaaa.BitsA Go.Proofs.Ytcbogkpgkdijaaa.BitsB

theorem getD_append_zero (xs : List Int) (m i : Nat) : (xs ++ List.replicate m 0).getD i 0 = xs.getD i 0 := by
  simp only [List.getD_eq_getElem?_getD]
  rcases Nat.lt_or_ge i xs.length with h | h
  · rw [List.getElem?_append_left h]
  · rw [List.getElem?_append_right h, List.getElem?_eq_none h, List.getElem?_replicate]
    split <;> rfl
theorem first_win (xs : List Int) (n : Nat) : firstS xs n = win xs 0 n := by
  refine ext_getD (by rw [firstS_length, win_length]) fun i hi => ?_
  rw [firstS_length] at hi
  have h1 : (win xs 0 n).getD i 0 = xs.getD i 0 := by
    rw [List.getD_eq_getElem?_getD, List.getElem?_eq_getElem (by rw [win_length]; exact hi)]
    simp [win]
  have h2 : (firstS xs n).getD i 0 = (xs ++ List.replicate n 0).getD i 0 := by
    unfold firstS
    simp only [List.getD_eq_getElem?_getD, List.getElem?_take, if_pos hi]
  rw [h1, h2, getD_append_zero]
theorem win_all (xs : List Int) (n : Nat) (h : xs.length = n) : win xs 0 n = xs := by
  subst h
  rw [← first_win]
  unfold firstS
  rw [List.take_left']
  rfl
theorem val_lt (xs : List Int) (hb : Bytes xs) (n : Nat) (h : xs.length ≤ n) : val xs < 256 ^ n := by
  induction n generalizing xs with
  | zero =>
    have : xs = [] := List.eq_nil_of_length_eq_zero (by omega)
    subst this; decide
  | succ n ih =>
    rcases List.eq_nil_or_concat xs with rfl | ⟨ys, c, rfl⟩
    · have : (0 : Int) < 256 ^ (n + 1) := Int.pow_pos (by decide)
      simpa [val] using this
    · rw [List.concat_eq_append] at *
      rw [val_snoc]
      have h1 := ih ys (fun c hc => hb c (List.mem_append_left _ hc)) (by simp at h; omega)
      have h2 := hb c (by simp)
      have h3 := val_range ys
      rw [Int.pow_succ]
      have h4 : (val ys * 256 + c) % 18446744073709551616 ≤ val ys * 256 + c := by omega
      omega
theorem val_digs (n : Nat) (hn : n ≤ 8) : ∀ x : Int, 0 ≤ x → val (digs x n).reverse = x % 256 ^ n := by
  induction n with
  | zero => intro x hx; simp [digs, val, Int.emod_one]
  | succ n ih =>
    intro x hx
    rw [digs, List.reverse_cons, val_snoc, ih (by omega) (x / 256) (by omega)]
    have hp : (256 : Int) ^ (n + 1) ≤ 18446744073709551616 := by
      have : n = 0 ∨ n = 1 ∨ n = 2 ∨ n = 3 ∨ n = 4 ∨ n = 5 ∨ n = 6 ∨ n = 7 := by omega
      rcases this with rfl | rfl | rfl | rfl | rfl | rfl | rfl | rfl <;> decide
    have hpos : (0 : Int) < 256 ^ n := Int.pow_pos (by decide)
    have e : x % 256 ^ (n + 1) = (x / 256 % 256 ^ n) * 256 + x % 256 := by
      have h1 := Int.mul_ediv_add_emod (x / 256) (256 ^ n)
      have h2 : x % (256 * 256 ^ n) = x - 256 * 256 ^ n * (x / 256 / 256 ^ n) := by rw [Int.emod_def, Int.ediv_ediv_of_nonneg (by decide)]
      rw [Int.pow_succ', h2, Int.mul_assoc]
      omega
    rw [← e]
    exact Int.emod_eq_of_lt (Int.emod_nonneg _ (by omega)) (Int.lt_of_lt_of_le (Int.emod_lt_of_pos _ (by rw [Int.pow_succ]; omega)) hp)

/-- A number's contracts, their answers under a name. -/
theorem big32_is (A : Option Addr) (c n : Nat) (xs : List Int) (v : Int) (w0 w : World) (hn : xs.length = n) (hr : RdI .u8 w A xs) (hb : Bytes xs) (hv : Hid (val (win xs 0 4) = v)) (H : Hid (Fr (fun _ => False) w0 w)) :
    Calls Try.prog 14 #[.slice A n c] w fun e w' => e = .returned (.int .u32 v) ∧ Hid (Fr (fun _ => False) w0 w') ∧ Hid (Fr (fun _ => False) w w') := by
  subst hn
  refine (big32_calls A c xs w hr hb).mono fun e w' ⟨he, hf⟩ => ⟨?_, hid (H.out.then_ hf (fun _ _ h => h)), hf⟩
  have h1 := val_lt (win xs 0 4) (by rw [← first_win]; exact bytes_first hb 4) 4 (by rw [win_length]; decide)
  have h2 := val_range (win xs 0 4)
  rw [he, first_win, ← hv.out]
  exact ret_int (by omega)
theorem little64_is (A : Option Addr) (c n : Nat) (xs : List Int) (v : Int) (w0 w : World) (hn : xs.length = n) (hr : RdI .u8 w A xs) (hb : Bytes xs) (hv : Hid (val (win xs 0 8).reverse = v)) (H : Hid (Fr (fun _ => False) w0 w)) :
    Calls Try.prog 16 #[.slice A n c] w fun e w' => e = .returned (.int .u64 v) ∧ Hid (Fr (fun _ => False) w0 w') ∧ Hid (Fr (fun _ => False) w w') := by
  subst hn
  refine (little64_calls A c xs w hr hb).mono fun e w' ⟨he, hf⟩ => ⟨?_, hid (H.out.then_ hf (fun _ _ h => h)), hf⟩
  rw [he, first_win, hv.out]
theorem big_is (A : Option Addr) (c n : Nat) (xs : List Int) (v : Int) (w : World) (hn : xs.length = n) (hr : RdI .u8 w A xs) (hb : Bytes xs) (hl : n ≤ 140737488355328) (hv : Hid (val xs = v)) :
    Calls Try.prog 18 #[.slice A n c] w fun e w' => e = .returned (.int .u64 v) ∧ w = w' := by
  subst hn
  rw [← hv.out]
  exact big_calls A c xs w hr hb hl
theorem number_is (A : Option Addr) (c n : Nat) (xs : List Int) (m : Int) (k : Nat) (v : Int) (w : World) (hn : xs.length = n) (hm : (k : Int) = m) (hr : RdI .u8 w A xs) (hb : Bytes xs) (hl : n ≤ 140737488355328) (hk : k ≤ 140737488355328) (hv : Hid (val (win xs 0 k) = v)) :
    Calls Try.prog 15 #[.slice A n c, .int .i64 0, .int .i64 m] w fun e w' => e = .returned (.int .u64 v) ∧ w = w' := by
  subst hn hm
  rw [← hv.out]
  exact number_calls A c xs 0 k w hr hb hl (by decide) hk
theorem little_is (A : Option Addr) (c n : Nat) (xs : List Int) (v : Int) (w : World) (hn : xs.length = n) (hr : RdI .u8 w A xs) (hb : Bytes xs) (hl : n ≤ 140737488355328) (hv : Hid (val (win xs 0 8).reverse = v)) :
    Calls Try.prog 17 #[.slice A n c, .int .i64 0] w fun e w' => e = .returned (.int .u64 v) ∧ w = w' := by
  subst hn
  rw [← hv.out]
  exact little_calls A c xs 0 w hr hb hl (by decide)

set_option maxRecDepth 100000 in
set_option maxHeartbeats 4000000 in
theorem law (A : Option Addr) (cap : Nat) (xs : List Int) (x y : Int) (w : World) (hcap : xs.length ≤ cap) (hl : xs.length * 1 ≤ 140737488351232) (hr : RdI .u8 w A xs) (hb : ∀ n ∈ xs, (Lit.int .u8 n).wf = true) (hx : (Lit.int .u32 x).wf = true) (hy : (Lit.int .u64 y).wf = true) :
    Calls Try.prog 4 #[.slice A xs.length cap, .int .u32 x, .int .u64 y] w fun e w' => e = .returned (.bool true) ∧ Below w.heap.size w w' := by
  have hb : Bytes xs := fun n hn => by have := hb n hn; simp [Lit.wf, IntKind.min, IntKind.max, IntKind.bits, IntKind.signed] at this; omega
  have hx : 0 ≤ x ∧ x < 4294967296 := by simp [Lit.wf, IntKind.min, IntKind.max, IntKind.bits, IntKind.signed] at hx; omega
  have hy : 0 ≤ y ∧ y < 18446744073709551616 := by simp [Lit.wf, IntKind.min, IntKind.max, IntKind.bits, IntKind.signed] at hy; omega
  obtain ⟨x0, x1⟩ := hx
  obtain ⟨y0, y1⟩ := hy
  suffices h : Calls Try.prog 4 #[.slice A xs.length cap, .int .u32 x, .int .u64 y] w fun e w' => e = .returned (.bool true) ∧ Hid (Fr (fun _ => False) w w') from
    h.mono fun _ _ ⟨he, h⟩ => ⟨he, h.out.toBelow (fun _ _ h => h)⟩
  have HF := hid (Fr.refl (fun _ => False) w)
  have HR := hid hr
  have HB := hid hb
  obtain ⟨n, hn⟩ : ∃ n, n = xs.length := ⟨_, rfl⟩
  rw [← hn] at hcap hl ⊢
  have HN := hid hn.symm
  clear hr hb hn
  by_cases hlen : 1000 < n
  · go_enter Try.func4, Try.ntmps4
    go_wp2_with ((with_reducible refine (awake_calls _).mono ?_); rintro e w1 ⟨rfl, rfl⟩)
    go_ret
    exact ⟨rfl, HF⟩
  · obtain ⟨v4, h4⟩ : ∃ v, val (win xs 0 4) = v := ⟨_, rfl⟩
    obtain ⟨v8, h8⟩ : ∃ v, val (win xs 0 8).reverse = v := ⟨_, rfl⟩
    obtain ⟨va, ha⟩ : ∃ v, val xs = v := ⟨_, rfl⟩
    have hw : val (win xs 0 n) = va := by rw [win_all xs n HN.out]; exact ha
    have h4a := val_range (win xs 0 4)
    have h4b := val_lt (win xs 0 4) (by rw [← first_win]; exact bytes_first HB.out 4) 4 (by rw [win_length]; decide)
    rw [h4] at h4a h4b
    obtain ⟨v40, _⟩ := h4a
    have v41 : v4 < 4294967296 := h4b
    have H4 := hid h4
    have H8 := hid h8
    have HA := hid ha
    have HW := hid hw
    have hl2 : n ≤ 140737488355328 := by omega
    -- the numbers' own rows
    have P4 : val (digs x 4).reverse = x := by rw [val_digs 4 (by decide) x x0]; exact Int.emod_eq_of_lt x0 x1
    have P8 : val (digs y 8).reverse = y := by rw [val_digs 8 (by decide) y y0]; exact Int.emod_eq_of_lt y0 y1
    have l4 : (digs x 4).reverse.length = 4 := by rw [List.length_reverse, digs_length]
    have l8 : (digs y 8).reverse.length = 8 := by rw [List.length_reverse, digs_length]
    have m8 : (digs y 8).length = 8 := digs_length _ _
    have b4 : Bytes (digs x 4).reverse := fun c hc => bytes_digs x 4 c (List.mem_reverse.1 hc)
    have b8 : Bytes (digs y 8).reverse := fun c hc => bytes_digs y 8 c (List.mem_reverse.1 hc)
    have c8 := bytes_digs y 8
    have p4 : val (win (digs x 4).reverse 0 4) = x := by rw [win_all _ _ l4]; exact P4
    have p8 : val (win (digs y 8).reverse 0 8) = y := by rw [win_all _ _ l8]; exact P8
    have r8 : val (win (digs y 8) 0 8).reverse = y := by rw [win_all _ _ m8]; exact P8
    obtain ⟨P, hP⟩ : ∃ P, (digs x 4).reverse = P := ⟨_, rfl⟩
    obtain ⟨Q8, hQ⟩ : ∃ P, (digs y 8).reverse = P := ⟨_, rfl⟩
    obtain ⟨R, hR⟩ : ∃ P, digs y 8 = P := ⟨_, rfl⟩
    rw [hR] at m8 c8 r8
    rw [hP] at P4 l4 b4 p4
    rw [hQ] at P8 l8 b8 p8
    have W4 := hid P4
    have W8 := hid P8
    have L4 := hid l4
    have L8 := hid l8
    have M8 := hid m8
    have B4 := hid b4
    have B8 := hid b8
    have C8 := hid c8
    have N4 := hid p4
    have N8 := hid p8
    have R8 := hid r8
    have EP := hid hP
    have EQ := hid hQ
    have ER := hid hR
    clear hw h4 h8 ha P4 P8 l4 l8 m8 b4 b8 c8 p4 p8 r8 hP hQ hR h4b
    go_enter Try.func4, Try.ntmps4
    go_wp2_with fail
    refine (awake_calls _).mono ?_
    rintro e w1 ⟨rfl, rfl⟩
    go_wp2_with fail
    refine (big32_is A cap n xs v4 w _ HN.out HR.out HB.out H4 HF).mono ?_
    rintro e w1 ⟨rfl, f1, f2⟩
    have HR1 := hid (HR.out.fr0 f2.out)
    have HF1 := f1
    clear HR HF f1 f2
    go_wp2_with fail
    refine (number_is A cap n xs 4 4 v4 _ HN.out rfl HR1.out HB.out hl2 (by decide) H4).mono ?_
    rintro e w' ⟨rfl, rfl⟩
    go_wp2_with fail
    refine (little64_is A cap n xs v8 w _ HN.out HR1.out HB.out H8 HF1).mono ?_
    rintro e w2 ⟨rfl, f1, f2⟩
    have HR2 := hid (HR1.out.fr0 f2.out)
    have HF2 := f1
    clear HR1 HF1 f1 f2
    go_wp2_with fail
    refine (little_is A cap n xs v8 _ HN.out HR2.out HB.out hl2 H8).mono ?_
    rintro e w' ⟨rfl, rfl⟩
    go_wp2_with fail
    refine (big_is A cap n xs va _ HN.out HR2.out HB.out hl2 HA).mono ?_
    rintro e w' ⟨rfl, rfl⟩
    go_wp2_with fail
    refine (number_is A cap n xs n n va _ HN.out rfl HR2.out HB.out hl2 hl2 HW).mono ?_
    rintro e w' ⟨rfl, rfl⟩
    go_wp2_with fail
    refine (putBig32_calls x _ x0 x1).mono ?_
    rintro e w3 ⟨g3, rfl, hg3, hv3, hf3⟩
    rw [EP.out] at hv3
    have V3 := hid hv3
    have HF3 := hid (HF2.out.then_ hf3 (fun _ _ h => h))
    clear hv3 hf3 HF2 HR2
    go_wp2_with fail
    refine (putBig64_calls y _ y0 y1).mono ?_
    rintro e w4 ⟨g4, rfl, hg4, hv4, hf4⟩
    rw [EQ.out] at hv4
    have V4 := hid hv4
    have V3' := hid (V3.out.fr hf4 (fun h => h))
    have HF4 := hid (HF3.out.then_ hf4 (fun _ _ h => h))
    clear hv4 hf4 HF3 V3
    go_wp2_with fail
    refine (putLittle64_calls y _ y0 y1).mono ?_
    rintro e w5 ⟨g5, rfl, hg5, hv5, hf5⟩
    rw [ER.out] at hv5
    have V5 := hid hv5
    have V3 := hid (V3'.out.fr hf5 (fun h => h))
    have V4' := hid (V4.out.fr hf5 (fun h => h))
    have HF5 := hid (HF4.out.then_ hf5 (fun _ _ h => h))
    clear hv5 hf5 HF4 V3' V4
    go_wp2_with fail
    refine (number_is _ 4 4 P 4 4 x _ L4.out rfl V3.out.rd B4.out (by decide) (by decide) N4).mono ?_
    rintro e w' ⟨rfl, rfl⟩
    go_wp2_with fail
    refine (number_is _ 8 8 Q8 8 8 y _ L8.out rfl V4'.out.rd B8.out (by decide) (by decide) N8).mono ?_
    rintro e w' ⟨rfl, rfl⟩
    go_wp2_with fail
    refine (little_is _ 8 8 R y _ M8.out V5.out.rd C8.out (by decide) R8).mono ?_
    rintro e w' ⟨rfl, rfl⟩
    go_wp2_with fail
    refine (big32_is _ 4 4 P x w _ L4.out V3.out.rd B4.out N4 HF5).mono ?_
    rintro e w6 ⟨rfl, f1, f2⟩
    have HF6 := f1
    have V4 := hid (V4'.out.fr f2.out (fun h => h))
    have V5' := hid (V5.out.fr f2.out (fun h => h))
    clear f1 f2 HF5 V4' V5 V3
    go_wp2_with fail
    refine (big_is _ 8 8 Q8 y _ L8.out V4.out.rd B8.out (by decide) W8).mono ?_
    rintro e w' ⟨rfl, rfl⟩
    go_wp2_with fail
    refine (little64_is _ 8 8 R y w _ M8.out V5'.out.rd C8.out R8 HF6).mono ?_
    rintro e w7 ⟨rfl, f1, f2⟩
    go_wp2
    go_ret
    exact ⟨rfl, f1⟩

end Go.Proofs.Ytcbogkpgkdijaaa.BitsLay
