/- Walks of layer bits. -/
import Derived.Test.YtgdhchknegjpfaaDoorProg
import Derived.Test.YtgdhchknegjpfaaDoorMem
import Derived.Test.YtgdhchknegjpfaaDoorNum
import Derived.Deep.QuietTactic
import Derived.BigQuiet
import Derived.RegionTactic
import Derived.Laws.CopyOwn
import Derived.Laws.MakeOwn
import Derived.Deep.OwnRows
set_option linter.unusedVariables false
set_option linter.unusedSimpArgs false
namespace Go.Proofs.YtgdhchknegjpfaaDoor.BitsA
open Go.RowKit Go.Proofs.YtgdhchknegjpfaaDoor.Mem Go.Proofs.YtgdhchknegjpfaaDoor.Num

def firstS (xs : List Int) (n : Nat) : List Int := (xs ++ List.replicate n 0).take n
theorem firstS_length (xs : List Int) (n : Nat) : (firstS xs n).length = n := by simp [firstS]

theorem getD_get {xs : List Int} {k : Nat} (h : k < xs.length) : xs.getD k 0 = xs[k] := by simp [List.getD_eq_getElem?_getD, List.getElem?_eq_getElem h]
theorem infoByte : (Tryd.prog.info? 5).map (fun i => (i.zero, i.size, i.bytes)) = some (some (.int .u8 0), 1, 1) := by kernel_rfl
theorem sizeByte : (Tryd.prog.info? 5).map (·.size) = some 1 := by kernel_rfl

/-- The result under its own name: the row is as long as asked. -/
def FirstTo (w : World) (xs : List Int) (n : Nat) (e : Ending) (w' : World) : Prop :=
  ∃ g, e = .returned (.slice (some ⟨g, 0, none⟩) n n) ∧ w.heap.size ≤ g ∧ VecI .u8 5 w' g (firstS xs n) ∧ Fr (fun _ => False) w w'

theorem splice_first (xs : List Int) (n : Nat) : splice ((List.replicate n (0 : Int)).map (Value.int .u8)) 0 ((xs.take n).map (Value.int .u8)) = (firstS xs n).map (Value.int .u8) := by
  unfold splice firstS
  simp only [List.take_zero, List.nil_append, List.length_map, List.length_take, Nat.zero_add, ← List.map_drop, ← List.map_append]
  congr 1
  by_cases h : n ≤ xs.length
  · rw [Nat.min_eq_left h, List.take_append_of_le_length h]
    simp
  · rw [Nat.min_eq_right (by omega), List.take_append, List.take_of_length_le (by omega), List.drop_replicate, List.take_replicate]
    congr 2
    omega

/-- The number of bytes, the greatest one first. -/
def val (xs : List Int) : Int := xs.foldl (fun n c => (n * 256 + c) % 18446744073709551616) 0
def Bytes (xs : List Int) : Prop := ∀ c ∈ xs, 0 ≤ c ∧ c ≤ 255
theorem val_snoc (xs : List Int) (c : Int) : val (xs ++ [c]) = (val xs * 256 + c) % 18446744073709551616 := by simp [val]
theorem val_take (xs : List Int) (k : Nat) (h : k < xs.length) : val (xs.take (k + 1)) = (val (xs.take k) * 256 + xs[k]) % 18446744073709551616 := by
  rw [List.take_succ_eq_append_getElem h, val_snoc]
theorem val_range (xs : List Int) : 0 ≤ val xs ∧ val xs < 18446744073709551616 := by
  rcases List.eq_nil_or_concat xs with rfl | ⟨ys, c, rfl⟩
  · decide
  · rw [List.concat_eq_append, val_snoc]; omega
theorem Bytes.get {xs : List Int} (h : Bytes xs) (i : Nat) : 0 ≤ xs.getD i 0 ∧ xs.getD i 0 ≤ 255 := by
  rw [List.getD_eq_getElem?_getD]
  rcases Nat.lt_or_ge i xs.length with hi | hi
  · rw [List.getElem?_eq_getElem hi]; exact h _ (List.getElem_mem hi)
  · rw [List.getElem?_eq_none hi]; decide

/-- The bytes of a number, the least one first. -/
def digs (x : Int) : Nat → List Int
  | 0 => []
  | n + 1 => x % 256 :: digs (x / 256) n
theorem digs_length (x : Int) (n : Nat) : (digs x n).length = n := by
  induction n generalizing x with
  | zero => rfl
  | succ n ih => simp [digs, ih]
theorem digs_snoc (x : Int) (n : Nat) : digs x (n + 1) = digs x n ++ [x / 256 ^ n % 256] := by
  induction n generalizing x with
  | zero => simp [digs]
  | succ n ih =>
    rw [digs, ih]
    simp only [digs, List.cons_append]
    rw [Int.pow_succ', Int.ediv_ediv_of_nonneg (by decide)]
theorem bytes_digs (x : Int) (n : Nat) : Bytes (digs x n) := by
  induction n generalizing x with
  | zero => intro c hc; cases hc
  | succ n ih =>
    intro c hc
    rcases List.mem_cons.1 hc with rfl | h
    · omega
    · exact ih _ c h

/-- What a round of put leaves: the last k places are written. -/
def putRow (x : Int) (n k : Nat) : List Int := List.replicate (n - k) 0 ++ (digs x k).reverse
theorem putRow_length (x : Int) (n k : Nat) (h : k ≤ n) : (putRow x n k).length = n := by simp [putRow, digs_length]; omega
theorem putRow_set (x : Int) (n k : Nat) (h : k < n) : (putRow x n k).set (n - 1 - k) (x / 256 ^ k % 256) = putRow x n (k + 1) := by
  unfold putRow
  rw [digs_snoc, List.reverse_append, show n - k = (n - (k + 1)) + 1 from by omega, List.replicate_succ', List.append_assoc, List.set_append_right _ _ (by simp; omega)]
  simp only [List.length_replicate]
  rw [show n - 1 - k - (n - (k + 1)) = 0 from by omega]
  simp

set_option maxHeartbeats 1000000 in
theorem put_u64 (x : Int) (n : Nat) (w : World) (h0 : 0 ≤ x) (hx : x < 18446744073709551616) (hn : n ≤ 16) :
    Calls Tryd.prog 58 #[.int .u64 x, .int .i64 n] w (NewVecN .u8 5 w n (digs x n).reverse) := by
  have hmk := run_make_row' (P := Tryd.prog) 32 5 (.int .u8 0) 1 Tryd.underlying32 infoByte rfl .i64 .i64 n (by omega) (by omega)
  have HV := hid (made_vec .u8 5 w n)
  go_enter Tryd.func58, Tryd.ntmps58
  go_wp2
  go_loopw [0, 11] (fun v i w' => ∃ k : Nat, k ≤ n ∧ i = .int .i64 k ∧ v = .int .u64 (x / 256 ^ k) ∧ VecI .u8 5 w' w.heap.size (putRow x n k) ∧ Fr (fun _ => False) w w') (fun _ i _ => n - (intOf i).toNat)
  case atStart => exact ⟨0, by omega, rfl, by simp, by simpa [putRow, digs] using HV.out, (Fr.refl _ _).alloc _⟩
  case round =>
    obtain ⟨k, hk, rfl, rfl, hv, hf⟩ := hrel
    by_cases hlt : k < n
    · have hset := hv.set_ (n - 1 - k) (x / 256 ^ k % 256)
      rw [putRow_set x n k hlt] at hset
      have hc := hv.at_ (n - 1 - k) (by rw [putRow_length _ _ _ hk]; omega)
      have hz := Blk.frozen hv (n - 1 - k)
      have HSET := hid hset
      have HF := hid hf
      obtain ⟨y, hy⟩ : ∃ y, y = x / 256 ^ k := ⟨_, rfl⟩
      have hy0 : 0 ≤ y := by rw [hy]; exact Int.ediv_nonneg h0 (Int.le_of_lt (Int.pow_pos (by decide)))
      have hy1 : y < 18446744073709551616 := by rw [hy]; exact Int.lt_of_le_of_lt (Int.ediv_le_self _ h0) hx
      have hd : x / 256 ^ (k + 1) = y / 256 := by rw [hy, Int.pow_succ, ← Int.ediv_ediv_of_nonneg (Int.le_of_lt (Int.pow_pos (by decide)))]
      rw [← hy] at HSET ⊢
      have HD := hid hd
      have HY := hid hy
      clear hset hf hv hd hy
      go_wp2
      go_roundw
      case rel =>
        exact ⟨k + 1, by omega, by go_num, by rw [HD.out], HSET.out, HF.out.setCell (.inr (Nat.le_refl _)) _⟩
      case measure => simp [intOf]; omega
    · go_wp2
      go_ret
      have hkn : k = n := by omega
      subst hkn
      refine ⟨w.heap.size, rfl, Nat.le_refl _, ?_, hf⟩
      simpa [putRow] using hv

theorem put_u64' (x m : Int) (n : Nat) (w : World) (hm : (n : Int) = m) (h0 : 0 ≤ x) (hx : x < 18446744073709551616) (hn : n ≤ 16) :
    Calls Tryd.prog 58 #[.int .u64 x, .int .i64 m] w (NewVecN .u8 5 w n (digs x n).reverse) := by subst hm; exact put_u64 x n w h0 hx hn
theorem putBig64_calls (x : Int) (w : World) (h0 : 0 ≤ x) (hx : x < 18446744073709551616) :
    Calls Tryd.prog 41 #[.int .u64 x] w (NewVecN .u8 5 w 8 (digs x 8).reverse) := by
  go_enter Tryd.func41, Tryd.ntmps41
  go_wp2_with ((with_reducible refine (put_u64' x 8 8 _ rfl h0 hx (by decide)).mono ?_); rintro e w' ⟨g, rfl, hg, hv, hf⟩)
  go_ret
  exact ⟨g, rfl, hg, hv, hf⟩

theorem bytes_first {xs : List Int} (h : Bytes xs) (n : Nat) : Bytes (firstS xs n) := by
  intro c hc
  have := List.mem_of_mem_take hc
  rcases List.mem_append.1 this with h1 | h1
  · exact h c h1
  · rw [List.eq_of_mem_replicate h1]; decide

end Go.Proofs.YtgdhchknegjpfaaDoor.BitsA
