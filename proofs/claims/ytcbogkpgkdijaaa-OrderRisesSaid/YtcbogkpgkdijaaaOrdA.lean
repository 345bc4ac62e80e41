/- Walks of layer order: comparing bytes. -/
import Derived.Test.YtcbogkpgkdijaaaProg
import Derived.Test.YtcbogkpgkdijaaaMem
import Derived.Test.YtcbogkpgkdijaaaNum
import Derived.Deep.QuietTactic
import Derived.BigQuiet
import Derived.RegionTactic
import Derived.Lib.Bytealg
import Derived.Lib.BytesEntry
import Derived.Laws.Externs
set_option linter.unusedVariables false
set_option linter.unusedSimpArgs false
namespace Go.Proofs.Ytcbogkpgkdijaaa.OrdA
open Go.RowKit Go.Proofs.Ytcbogkpgkdijaaa.Mem Go.Proofs.Ytcbogkpgkdijaaa.Num

/-- Rows of whole numbers, the first one ahead. -/
def lessL : List Int → List Int → Bool
  | [], [] => false
  | [], _ :: _ => true
  | _ :: _, [] => false
  | a :: x, b :: y => if a = b then lessL x y else decide (a < b)
theorem lessL_self (x : List Int) : lessL x x = false := by
  induction x with
  | nil => rfl
  | cons a x ih => simp [lessL, ih]

abbrev toB (xs : List Int) : List UInt8 := Lib.bytesOf xs

theorem toB_cons (a : Int) (x : List Int) : toB (a :: x) = a.toNat.toUInt8 :: toB x := rfl
theorem u8_of (a : Int) (h0 : 0 ≤ a) (h1 : a ≤ 255) : (a.toNat.toUInt8.toNat : Int) = a := by
  simp [Nat.toUInt8, UInt8.toNat_ofNat']
  omega

theorem less_cmp (x y : List Int) (hx : ∀ c ∈ x, 0 ≤ c ∧ c ≤ 255) (hy : ∀ c ∈ y, 0 ≤ c ∧ c ≤ 255) : decide (Lib.compareBytes (toB x) (toB y) < 0) = lessL x y := by
  induction x generalizing y with
  | nil => cases y <;> rfl
  | cons a x ih =>
    cases y with
    | nil => rfl
    | cons b y =>
      have ha := hx a (by simp)
      have hb := hy b (by simp)
      have h := ih y (fun c hc => hx c (by simp [hc])) (fun c hc => hy c (by simp [hc]))
      have ea := u8_of a ha.1 ha.2
      have eb := u8_of b hb.1 hb.2
      rw [toB_cons, toB_cons]
      simp only [lessL]
      by_cases h1 : a = b
      · subst h1
        rw [if_pos rfl, ← h]
        simp [Lib.compareBytes]
      · rw [if_neg h1]
        have hlt : ∀ p q : UInt8, p < q ↔ (p.toNat : Int) < q.toNat := fun p q => by rw [UInt8.lt_iff_toNat_lt]; omega
        simp only [Lib.compareBytes, hlt, ea, eb]
        by_cases h2 : a < b
        · rw [if_pos h2]; simp [h2]
        · rw [if_neg h2, if_pos (by omega)]; simp [h2]

theorem run_loadB {P : Program} {w : World} {A : Option Addr} {xs : List Int} (c : Nat) (hr : RdI .u8 w A xs) : (Extern.Bytes.bytesOf (.slice A xs.length c)).run P w = .ok ⟨(toB xs).toArray⟩ w := by
  rcases xs with _ | ⟨x, l⟩
  · cases A with
    | none => rfl
    | some ad => simp [Extern.Bytes.bytesOf, Extern.Bytes.loadBytes, Lib.bytesOf]; rfl
  · obtain ⟨ad, rfl, _, _⟩ := hr 0 (by simp)
    have h := Lib.run_loadBytesX (P := P) w (x :: l) ad .empty (fun j y hj => by
      have hlt : j < (x :: l).length := by
        rcases Nat.lt_or_ge j (x :: l).length with h | h
        · exact h
        · rw [List.getElem?_eq_none h] at hj; cases hj
      obtain ⟨ad', he, _, hc⟩ := hr j hlt
      injection he with he
      subst he
      rw [hc]
      rw [List.getD_eq_getElem?_getD, hj]
      rfl)
    simp only [Extern.Bytes.bytesOf, h]
    congr 2
    simp

theorem run_compare {P : Program} {w : World} {A B : Option Addr} {xs ys : List Int} (c d : Nat) (hx : RdI .u8 w A xs) (hy : RdI .u8 w B ys) :
    (Extern.BytealgCompare.compare #[.slice A xs.length c, .slice B ys.length d]).run P w = .ok (.int .i64 (Lib.compareBytes (toB xs) (toB ys))) w := by
  change Sem.run P (do pure (goInt (Extern.BytealgCompare.cmp (← Extern.Bytes.bytesOf (.slice A xs.length c)) (← Extern.Bytes.bytesOf (.slice B ys.length d))))) w = _
  simp only [Sem.run_bind, run_loadB c hx, run_loadB d hy, Sem.run_pure, Result.andThen]
  rw [Lib.cmp_eq]
  rfl

theorem cmp_range (x y : List UInt8) : Lib.compareBytes x y = -1 ∨ Lib.compareBytes x y = 0 ∨ Lib.compareBytes x y = 1 := by
  induction x generalizing y with
  | nil => cases y <;> simp [Lib.compareBytes]
  | cons a x ih =>
    cases y with
    | nil => simp [Lib.compareBytes]
    | cons b y =>
      simp only [Lib.compareBytes]
      split
      · simp
      · split
        · simp
        · exact ih y

theorem compare_calls (A B : Option Addr) (c d : Nat) (xs ys : List Int) (w : World) (hx : RdI .u8 w A xs) (hy : RdI .u8 w B ys) :
    Calls Try.prog 47 #[.slice A xs.length c, .slice B ys.length d] w fun e w' => e = .returned (.int .i64 (Lib.compareBytes (toB xs) (toB ys))) ∧ w = w' := by
  have HX := hid hx
  have HY := hid hy
  clear hx hy
  go_enter Try.func47, Try.ntmps47
  go_wp2
  rw [run_callFunc_extern Try.func50 (by kernel_rfl) (by kernel_rfl) (by kernel_rfl) (e := Extern.BytealgCompare.compare) (by kernel_rfl), run_compare c d HX.out HY.out]
  simp only [Result.andThen]
  rw [Oper.upon_value]
  go_wp2
  go_ret
  exact ⟨rfl, rfl⟩

def BytesL (xs : List Int) : Prop := ∀ c ∈ xs, 0 ≤ c ∧ c ≤ 255
theorem ahead_calls (A B : Option Addr) (n m c d : Nat) (xs ys : List Int) (w : World) (hn : xs.length = n) (hm : ys.length = m) (hx : RdI .u8 w A xs) (hy : RdI .u8 w B ys) (bx : BytesL xs) (by_ : BytesL ys) :
    Calls Try.prog 33 #[.slice A n c, .slice B m d] w fun e w' => e = .returned (.bool (lessL xs ys)) ∧ w = w' := by
  subst hn hm
  rw [← less_cmp xs ys bx by_]
  have hr := cmp_range (toB xs) (toB ys)
  generalize hq : Lib.compareBytes (toB xs) (toB ys) = q at *
  have HQ := hid hq
  have q0 : -1 ≤ q := by omega
  clear hq hr
  go_enter Try.func33, Try.ntmps33
  go_wp2_with ((with_reducible refine (compare_calls A B c d xs ys _ hx hy).mono ?_); rintro e w' ⟨rfl, rfl⟩; rw [HQ.out])
  go_ret
  exact ⟨rfl, rfl⟩

theorem ahead_q (A B : Option Addr) (n m c d : Nat) (xs ys : List Int) (v : Bool) (w : World) (k : Nat) (hn : xs.length = n) (hm : ys.length = m) (hx : RdI .u8 w A xs) (hy : RdI .u8 w B ys) (bx : BytesL xs) (by_ : BytesL ys) (hv : Hid (lessL xs ys = v)) :
    Calls Try.prog 33 #[.slice A n c, .slice B m d] (w.drewN k) fun e w' => e = .returned (.bool v) ∧ ∃ j, w' = w.drewN j :=
  (ahead_calls A B n m c d xs ys (w.drewN k) hn hm hx hy bx by_).mono fun _ _ ⟨he, hw⟩ => ⟨by rw [he, hv.out], k, hw.symm⟩
theorem byt_getD (s : ByteArray) (i : Nat) (h : i < s.size) : (byt s).getD i 0 = ((s[i]'h).toNat : Int) := by
  rw [List.getD_eq_getElem?_getD, byt_get s i h]; rfl
theorem drop_get (l : List Int) (k : Nat) (h : k < l.length) : l.drop k = l.getD k 0 :: l.drop (k + 1) := by
  rw [List.drop_eq_getElem_cons h, List.getD_eq_getElem?_getD, List.getElem?_eq_getElem h]; rfl

set_option maxHeartbeats 1000000 in
theorem less_calls (a b : ByteArray) (w : World) (ha : a.size ≤ 140737488355328) (hb : b.size ≤ 140737488355328) :
    Calls Try.prog 32 #[.string a, .string b] w fun e w' => e = .returned (.bool (lessL (byt a) (byt b))) ∧ ∃ n, w' = w.drewN n := by
  go_enter Try.func32, Try.ntmps32
  go_wp2
  go_loopw [5] (fun i w' => ∃ k : Nat, k ≤ a.size ∧ k ≤ b.size ∧ i = .int .i64 k ∧ Hid (lessL (byt a) (byt b) = lessL ((byt a).drop k) ((byt b).drop k)) ∧ ∃ n, w' = w.drewN n) (fun i _ => a.size - (intOf i).toNat)
  case atStart => exact ⟨0, by omega, by omega, rfl, rfl, 0, rfl⟩
  case round =>
    obtain ⟨k, hk, hk2, rfl, HQ, n, rfl⟩ := hrel
    by_cases hlt : k < a.size
    · by_cases hlt2 : k < b.size
      · have da := drop_get (byt a) k (by rw [byt_length]; exact hlt)
        have db := drop_get (byt b) k (by rw [byt_length]; exact hlt2)
        rw [byt_getD a k hlt] at da
        rw [byt_getD b k hlt2] at db
        have DA := hid da
        have DB := hid db
        clear da db
        have hz := a[k].toNat_lt
        have hz2 := b[k].toNat_lt
        by_cases he : a[k].toNat = b[k].toNat
        · go_wp2
          go_quiet (fail)
          go_wp2
          go_roundw
          case rel =>
            refine ⟨k + 1, by omega, by omega, by go_num, hid ?_, n + nq, by first | rfl | rw [World.drewN_drewN]⟩
            rw [HQ.out, DA.out, DB.out, he]
            simp [lessL]
          case measure => simp [intOf]; omega
        · have he2 : (((a[k].toNat : Nat) : Int) != ((b[k].toNat : Nat) : Int)) = true := by rw [bne_iff_ne]; omega
          have HE := hid he
          clear he
          go_wp2
          go_quiet (fail)
          go_wp2
          go_quiet (fail)
          go_wp2
          go_ret
          refine ⟨ret_bool ?_, _, by simp only [World.drewN_drewN]; rfl⟩
          rw [HQ.out, DA.out, DB.out]
          simp only [lessL]
          rw [if_neg (by have := HE.out; omega)]
          simp
      · go_wp2
        go_ret
        refine ⟨ret_bool ?_, n, rfl⟩
        rw [HQ.out, drop_get (byt a) k (by rw [byt_length]; exact hlt), show (byt b).drop k = [] from List.drop_eq_nil_of_le (by rw [byt_length]; omega)]
        simp [lessL]
        omega
    · go_wp2
      go_ret
      refine ⟨ret_bool ?_, n, rfl⟩
      rw [HQ.out, show (byt a).drop k = [] from List.drop_eq_nil_of_le (by rw [byt_length]; omega)]
      by_cases hb2 : k < b.size
      · rw [drop_get (byt b) k (by rw [byt_length]; exact hb2)]
        simp [lessL]
        omega
      · rw [show (byt b).drop k = [] from List.drop_eq_nil_of_le (by rw [byt_length]; omega)]
        simp [lessL]
        omega

theorem less_q (a b : ByteArray) (v : Bool) (w : World) (k : Nat) (ha : a.size ≤ 140737488355328) (hb : b.size ≤ 140737488355328) (hv : Hid (lessL (byt a) (byt b) = v)) :
    Calls Try.prog 32 #[.string a, .string b] (w.drewN k) fun e w' => e = .returned (.bool v) ∧ ∃ j, w' = w.drewN j :=
  (less_calls a b (w.drewN k) ha hb).mono fun _ _ ⟨he, n, hw⟩ => ⟨by rw [he, hv.out], k + n, by rw [hw, World.drewN_drewN]⟩

end Go.Proofs.Ytcbogkpgkdijaaa.OrdA
