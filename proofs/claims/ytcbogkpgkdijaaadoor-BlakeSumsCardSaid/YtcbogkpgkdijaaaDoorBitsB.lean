/- Walks of layer bits: Reverse, Little64. -/
import Derived.Test.YtcbogkpgkdijaaaDoorBitsA
set_option linter.unusedVariables false
set_option linter.unusedSimpArgs false
namespace Go.Proofs.YtcbogkpgkdijaaaDoor.BitsB
open Go.RowKit Go.Proofs.YtcbogkpgkdijaaaDoor.Mem Go.Proofs.YtcbogkpgkdijaaaDoor.Num Go.Proofs.YtcbogkpgkdijaaaDoor.BitsA

def revRow (xs : List Int) (k : Nat) : List Int := (List.range xs.length).map fun i => if i < k ∨ xs.length - k ≤ i then xs.getD (xs.length - 1 - i) 0 else xs.getD i 0
theorem revRow_length (xs : List Int) (k : Nat) : (revRow xs k).length = xs.length := by simp [revRow]
theorem revRow_get (xs : List Int) (k i : Nat) (h : i < xs.length) : (revRow xs k).getD i 0 = if i < k ∨ xs.length - k ≤ i then xs.getD (xs.length - 1 - i) 0 else xs.getD i 0 := by
  rw [List.getD_eq_getElem?_getD, List.getElem?_eq_getElem (by rw [revRow_length]; exact h)]
  simp [revRow]
theorem ext_getD {xs ys : List Int} (h : xs.length = ys.length) (hi : ∀ i, i < xs.length → xs.getD i 0 = ys.getD i 0) : xs = ys := by
  refine List.ext_getElem h fun i h1 h2 => ?_
  have := hi i h1
  simpa [List.getD_eq_getElem?_getD, List.getElem?_eq_getElem h1, List.getElem?_eq_getElem h2] using this
theorem getD_set (xs : List Int) (i j : Nat) (u : Int) (h : i < xs.length) : (xs.set i u).getD j 0 = if i = j then u else xs.getD j 0 := by
  simp only [List.getD_eq_getElem?_getD, List.getElem?_set]
  split
  · rename_i e; subst e; simp [h]
  · rfl
theorem revRow_zero (xs : List Int) : revRow xs 0 = xs := by
  refine ext_getD (revRow_length _ _) fun i hi => ?_
  rw [revRow_length] at hi
  rw [revRow_get _ _ _ hi, if_neg (by omega)]
theorem revRow_end (xs : List Int) (k : Nat) (h : xs.length ≤ 2 * k + 1) : revRow xs k = xs.reverse := by
  refine ext_getD (by simp [revRow_length]) fun i hi => ?_
  rw [revRow_length] at hi
  rw [revRow_get _ _ _ hi]
  have e : xs.reverse.getD i 0 = xs.getD (xs.length - 1 - i) 0 := by
    rw [List.getD_eq_getElem?_getD, List.getElem?_reverse hi, List.getD_eq_getElem?_getD]
  rw [e]
  split
  · rfl
  · rw [show xs.length - 1 - i = i from by omega]
theorem revRow_step (xs : List Int) (k : Nat) (h : k < xs.length - 1 - k) :
    ((revRow xs k).set k (xs.getD (xs.length - 1 - k) 0)).set (xs.length - 1 - k) (xs.getD k 0) = revRow xs (k + 1) := by
  refine ext_getD (by simp [revRow_length]) fun i hi => ?_
  simp only [List.length_set, revRow_length] at hi
  rw [getD_set _ _ _ _ (by simp [revRow_length]; omega), getD_set _ _ _ _ (by simp [revRow_length]; omega), revRow_get _ _ _ hi, revRow_get _ _ _ hi]
  by_cases h1 : xs.length - 1 - k = i
  · rw [if_pos h1, if_pos (by omega), ← h1, show xs.length - 1 - (xs.length - 1 - k) = k from by omega]
  · rw [if_neg h1]
    by_cases h2 : k = i
    · rw [if_pos h2, if_pos (by omega), h2]
    · rw [if_neg h2]
      by_cases h3 : i < k ∨ xs.length - k ≤ i
      · rw [if_pos h3, if_pos (by omega)]
      · rw [if_neg h3, if_neg (by omega)]

set_option maxHeartbeats 1000000 in
theorem reverse_calls (g n c : Nat) (xs : List Int) (w : World) (hn : xs.length = n) (hl : n ≤ 140737488355328) (hv : VecI .u8 5 w g xs) :
    Calls Tryd.prog 63 #[.slice (some ⟨g, 0, none⟩) n c] w fun e w' => e = .returned (.tuple #[]) ∧ VecI .u8 5 w' g xs.reverse ∧ Fr (fun k => k = g) w w' := by
  have HV := hid hv
  clear hv
  go_enter Tryd.func63, Tryd.ntmps63
  go_wp2
  go_loopw [2, 3] (fun i j w' => ∃ k : Nat, 2 * k ≤ n ∧ i = .int .i64 k ∧ j = .int .i64 ((n : Int) - 1 - k) ∧ VecI .u8 5 w' g (revRow xs k) ∧ Fr (fun k => k = g) w w') (fun i _ _ => n - (intOf i).toNat)
  case atStart => exact ⟨0, by omega, rfl, by simp, by rw [revRow_zero]; exact HV.out, Fr.refl _ _⟩
  case round =>
    obtain ⟨k, hk, rfl, rfl, hv, hf⟩ := hrel
    have HF := hid hf
    clear hf
    by_cases hlt : (k : Int) < (n : Int) - 1 - k
    · have ha := hv.at_ k (by rw [revRow_length]; omega)
      have hb := hv.at_ (n - 1 - k) (by rw [revRow_length]; omega)
      have fa := Blk.frozen hv k
      have fb := Blk.frozen hv (n - 1 - k)
      rw [revRow_get _ _ _ (by omega), if_neg (by omega)] at ha hb
      have hs := (hv.set_ k (xs.getD (n - 1 - k) 0)).set_ (n - 1 - k) (xs.getD k 0)
      have e := revRow_step xs k (by omega)
      rw [hn] at e
      rw [e] at hs
      obtain ⟨p, hp⟩ : ∃ p, p = xs.getD k 0 := ⟨_, rfl⟩
      obtain ⟨q, hq⟩ : ∃ q, q = xs.getD (n - 1 - k) 0 := ⟨_, rfl⟩
      rw [← hp] at ha hs
      rw [← hq] at hb hs
      have HS := hid hs
      clear hs e hv hp hq
      have hx : k < n := by omega
      go_wp2
      go_region
      go_wp2
      go_roundw
      case rel =>
        refine ⟨k + 1, by omega, by go_num, by go_num, ?_, ?_⟩
        · exact HS.out
        · exact ((HF.out.set1 _ _).set1 _ _).drew
      case measure => simp [intOf]; omega
    · go_wp2
      go_end0
      refine ⟨rfl, ?_, HF.out⟩
      rw [revRow_end xs k (by omega)] at hv
      exact hv

theorem little64_calls (A : Option Addr) (c : Nat) (xs : List Int) (w : World) (hr : RdI .u8 w A xs) (hb : Bytes xs) :
    Calls Tryd.prog 61 #[.slice A xs.length c] w fun e w' => e = .returned (.int .u64 (val (firstS xs 8).reverse)) ∧ Fr (fun _ => False) w w' := by
  have HR := hid hr
  clear hr
  have hbr : Bytes (firstS xs 8).reverse := fun c hc => bytes_first hb 8 c (List.mem_reverse.1 hc)
  have HBR := hid hbr
  clear hbr
  go_enter Tryd.func61, Tryd.ntmps61
  go_wp2_with fail
  refine (first_any A c xs 8 8 w rfl HR.out (by decide)).mono ?_
  rintro e w1 ⟨g, rfl, hg, hv, hf⟩
  have HV := hid hv
  have HF := hid hf
  clear hv hf
  go_wp2_with fail
  refine (reverse_calls g 8 8 _ _ (firstS_length _ _) (by decide) HV.out).mono ?_
  rintro e w2 ⟨rfl, hv, hf⟩
  have HV2 := hid hv
  have HF2 := hid hf
  clear hv hf
  go_wp2_with fail
  refine (big_vec g 8 _ _ (by rw [List.length_reverse, firstS_length]) HV2.out HBR.out (by decide)).mono ?_
  rintro e w3 ⟨rfl, rfl⟩
  go_wp2
  go_ret
  exact ⟨rfl, HF.out.then_ HF2.out (fun i hi e => by omega)⟩

theorem putLittle64_calls (x : Int) (w : World) (h0 : 0 ≤ x) (hx : x < 18446744073709551616) :
    Calls Tryd.prog 53 #[.int .u64 x] w (NewVecN .u8 5 w 8 (digs x 8)) := by
  go_enter Tryd.func53, Tryd.ntmps53
  go_wp2_with fail
  refine (put_u64' x 8 8 _ rfl h0 hx (by decide)).mono ?_
  rintro e w1 ⟨g, rfl, hg, hv, hf⟩
  have HV := hid hv
  have HF := hid hf
  clear hv hf
  go_wp2_with fail
  refine (reverse_calls g 8 8 _ _ (by rw [List.length_reverse, digs_length]) (by decide) HV.out).mono ?_
  rintro e w2 ⟨rfl, hv, hf⟩
  rw [List.reverse_reverse] at hv
  have HV2 := hid hv
  have HF2 := hid hf
  clear hv hf
  go_wp2
  go_ret
  exact ⟨g, rfl, hg, HV2.out, HF.out.then_ HF2.out (fun i hi e => by omega)⟩

/-- n bytes from a place on, 0 for those that are missing. -/
def win (xs : List Int) (from_ n : Nat) : List Int := (List.range n).map fun i => xs.getD (from_ + i) 0
theorem win_succ (xs : List Int) (from_ n : Nat) : win xs from_ (n + 1) = win xs from_ n ++ [xs.getD (from_ + n) 0] := by simp [win, List.range_succ]
theorem win_length (xs : List Int) (from_ n : Nat) : (win xs from_ n).length = n := by simp [win]

theorem add_wrap (n c : Int) (c0 : 0 ≤ c) (c1 : c ≤ 255) : IntKind.u64.wrap (IntKind.u64.wrap (n * 256) + IntKind.u64.wrap c) = (n * 256 + c) % 18446744073709551616 := by
  simp only [wrap_u64]; omega

set_option maxHeartbeats 1000000 in
theorem number_calls (A : Option Addr) (c : Nat) (xs : List Int) (from_ n : Nat) (w : World) (hr : RdI .u8 w A xs) (hb : Bytes xs) (hl : xs.length ≤ 140737488355328) (hf : from_ ≤ 140737488355328) (hn : n ≤ 140737488355328) :
    Calls Tryd.prog 41 #[.slice A xs.length c, .int .i64 from_, .int .i64 n] w fun e w' => e = .returned (.int .u64 (val (win xs from_ n))) ∧ w = w' := by
  have HR := hid hr
  clear hr
  go_enter Tryd.func41, Tryd.ntmps41
  go_wp2
  go_loop [7, 8] (fun x i => ∃ k : Nat, k ≤ n ∧ i = .int .i64 (from_ + k) ∧ x = .int .u64 (val (win xs from_ k))) (fun _ i => n + from_ - (intOf i).toNat)
  case atStart => exact ⟨0, by omega, by simp, rfl⟩
  case round =>
    obtain ⟨k, hk, rfl, rfl⟩ := hrel
    by_cases hlt : k < n
    · by_cases hin : from_ + k < xs.length
      · obtain ⟨ad, rfl, _, hc⟩ := HR.out (from_ + k) hin
        obtain ⟨c0, c1⟩ := hb.get (from_ + k)
        go_wp2
        go_round
        case rel =>
          refine ⟨k + 1, by omega, by go_num, ?_⟩
          rw [win_succ, val_snoc]
          rw [getD_get hin] at c0 c1 ⊢
          rw [add_wrap _ _ c0 c1]
        case measure => simp [intOf]; omega
      · go_wp2
        go_round
        case rel =>
          refine ⟨k + 1, by omega, by go_num, ?_⟩
          rw [win_succ, val_snoc, List.getD_eq_getElem?_getD, List.getElem?_eq_none (by omega), wrap_u64]
          simp
        case measure => simp [intOf]; omega
    · go_wp2
      go_ret
      exact ⟨ret_int (by rw [show k = n from by omega]), rfl⟩

theorem rotl32_calls (x k : Int) (w : World) (h0 : 0 ≤ x) (hx : x < 4294967296) :
    Calls Tryd.prog 66 #[.int .u32 x, .int .i64 k] w fun e w' => e = .returned (.int .u32 (rot 32 (k % 32).toNat x.toNat : Nat)) ∧ w = w' := by
  have hm : Go.bits .and .u64 (IntKind.u64.wrap k) 31 = k % 32 := by
    rw [wrap_u64, show (31 : Int) = 2 ^ 5 - 1 from rfl, and_mask 5 (by decide) _ (by omega) (by omega)]
    omega
  obtain ⟨s, hs⟩ := Int.eq_ofNat_of_zero_le (show 0 ≤ k % 32 by omega)
  have hs32 : s < 32 := by omega
  rw [hs] at hm
  rw [hs, Int.toNat_natCast]
  obtain ⟨y, rfl⟩ := Int.eq_ofNat_of_zero_le h0
  have hy : y < 2 ^ 32 := by omega
  have hfin : Go.bits .or .u32 ((y : Int) * 2 ^ s % 4294967296) ((y : Int) / 2 ^ (32 - s)) = ((rot 32 s y : Nat) : Int) := by
    rw [show (y : Int) * 2 ^ s % 4294967296 = ((y * 2 ^ s % 2 ^ 32 : Nat) : Int) from by simp, show (y : Int) / 2 ^ (32 - s) = ((y / 2 ^ (32 - s) : Nat) : Int) from by simp,
      (bits_u32 _ _ (Nat.mod_lt _ (by decide)) (Nat.lt_of_le_of_lt (Nat.div_le_self _ _) hy)).2, or_rot 32 s y (by omega) hy]
  have HFIN := hid hfin
  clear hs hfin
  go_enter Tryd.func66, Tryd.ntmps66
  go_wp2
  go_ret
  exact ⟨ret_int HFIN.out, rfl⟩

theorem right32_calls (x n : Int) (w : World) (h0 : 0 ≤ x) (hx : x < 4294967296) :
    Calls Tryd.prog 56 #[.int .u32 x, .int .i64 n] w fun e w' => e = .returned (.int .u32 (ror 32 x n)) ∧ w = w' := by
  obtain ⟨h1, h2, h3⟩ := tmod_bd n 32 (by decide)
  have e : (-(Int.tmod n 32)) % 32 = (-n) % 32 := by omega
  have HE := hid e
  have h4 : -(Int.tmod n 32) ≤ 31 := by omega
  clear e h3
  go_enter Tryd.func56, Tryd.ntmps56
  go_wp2_with ((with_reducible refine (rotl32_calls x _ _ h0 hx).mono ?_); rintro e w' ⟨rfl, rfl⟩)
  go_ret
  refine ⟨ret_int ?_, rfl⟩
  unfold ror
  first | rw [HE.out]; rfl | (rw [show wrap64 (-(Int.tmod n 32)) = -(Int.tmod n 32) from by unfold wrap64; omega, HE.out]; rfl)

theorem rotl64_calls (x k : Int) (w : World) (h0 : 0 ≤ x) (hx : x < 18446744073709551616) :
    Calls Tryd.prog 68 #[.int .u64 x, .int .i64 k] w fun e w' => e = .returned (.int .u64 (rot 64 (k % 64).toNat x.toNat : Nat)) ∧ w = w' := by
  have hm : Go.bits .and .u64 (IntKind.u64.wrap k) 63 = k % 64 := by
    rw [wrap_u64, show (63 : Int) = 2 ^ 6 - 1 from rfl, and_mask 6 (by decide) _ (by omega) (by omega)]
    omega
  obtain ⟨s, hs⟩ := Int.eq_ofNat_of_zero_le (show 0 ≤ k % 64 by omega)
  have hs64 : s < 64 := by omega
  rw [hs] at hm
  rw [hs, Int.toNat_natCast]
  obtain ⟨y, rfl⟩ := Int.eq_ofNat_of_zero_le h0
  have hy : y < 2 ^ 64 := by omega
  have hfin : Go.bits .or .u64 ((y : Int) * 2 ^ s % 18446744073709551616) ((y : Int) / 2 ^ (64 - s)) = ((rot 64 s y : Nat) : Int) := by
    rw [show (y : Int) * 2 ^ s % 18446744073709551616 = ((y * 2 ^ s % 2 ^ 64 : Nat) : Int) from by simp, show (y : Int) / 2 ^ (64 - s) = ((y / 2 ^ (64 - s) : Nat) : Int) from by simp,
      (bits_u64 _ _ (Nat.mod_lt _ (by decide)) (Nat.lt_of_le_of_lt (Nat.div_le_self _ _) hy)).2, or_rot 64 s y (by omega) hy]
  have HFIN := hid hfin
  clear hs hfin
  go_enter Tryd.func68, Tryd.ntmps68
  go_wp2
  go_ret
  exact ⟨ret_int HFIN.out, rfl⟩

theorem right64_calls (x n : Int) (w : World) (h0 : 0 ≤ x) (hx : x < 18446744073709551616) :
    Calls Tryd.prog 67 #[.int .u64 x, .int .i64 n] w fun e w' => e = .returned (.int .u64 (ror 64 x n)) ∧ w = w' := by
  obtain ⟨h1, h2, h3⟩ := tmod_bd n 64 (by decide)
  have e : (-(Int.tmod n 64)) % 64 = (-n) % 64 := by omega
  have HE := hid e
  have h4 : -(Int.tmod n 64) ≤ 63 := by omega
  clear e h3
  go_enter Tryd.func67, Tryd.ntmps67
  go_wp2_with ((with_reducible refine (rotl64_calls x _ _ h0 hx).mono ?_); rintro e w' ⟨rfl, rfl⟩)
  go_ret
  refine ⟨ret_int ?_, rfl⟩
  unfold ror
  first | rw [HE.out]; rfl | (rw [show wrap64 (-(Int.tmod n 64)) = -(Int.tmod n 64) from by unfold wrap64; omega, HE.out]; rfl)

set_option maxHeartbeats 1000000 in
theorem little_calls (A : Option Addr) (c : Nat) (xs : List Int) (from_ : Nat) (w : World) (hr : RdI .u8 w A xs) (hb : Bytes xs) (hl : xs.length ≤ 140737488355328) (hf : from_ ≤ 140737488355328) :
    Calls Tryd.prog 48 #[.slice A xs.length c, .int .i64 from_] w fun e w' => e = .returned (.int .u64 (val (win xs from_ 8).reverse)) ∧ w = w' := by
  have HR := hid hr
  clear hr
  go_enter Tryd.func48, Tryd.ntmps48
  go_wp2
  go_loop [5, 6] (fun x i => ∃ k : Nat, k ≤ 8 ∧ i = .int .i64 ((from_ : Int) + 7 - k) ∧ x = .int .u64 (val ((win xs from_ 8).reverse.take k))) (fun _ i => ((intOf i) + 1 - from_).toNat)
  case atStart => exact ⟨0, by omega, by simp, rfl⟩
  case round =>
    obtain ⟨k, hk, rfl, rfl⟩ := hrel
    by_cases hlt : k < 8
    · have hlen : k < (win xs from_ 8).reverse.length := by rw [List.length_reverse, win_length]; exact hlt
      have hx : (win xs from_ 8).reverse[k] = xs.getD (from_ + 7 - k) 0 := by
        rw [List.getElem_reverse]
        simp only [win, List.getElem_map, List.getElem_range, List.length_map, List.length_range]
        congr 1
        omega
      have hs := val_take _ k hlen
      rw [hx] at hs
      have HS := hid hs
      clear hs hx hlen
      by_cases hin : from_ + 7 - k < xs.length
      · obtain ⟨ad, rfl, _, hc⟩ := HR.out (from_ + 7 - k) hin
        obtain ⟨c0, c1⟩ := hb.get (from_ + 7 - k)
        go_wp2
        go_round
        case rel =>
          refine ⟨k + 1, by omega, by go_num, ?_⟩
          rw [HS.out]
          rw [getD_get hin] at c0 c1 ⊢
          rw [add_wrap _ _ c0 c1]
        case measure => simp [intOf]; omega
      · go_wp2
        go_round
        case rel =>
          refine ⟨k + 1, by omega, by go_num, ?_⟩
          rw [HS.out, List.getD_eq_getElem?_getD, List.getElem?_eq_none (by omega), wrap_u64]
          simp
        case measure => simp [intOf]; omega
    · go_wp2
      go_ret
      exact ⟨ret_int (by rw [List.take_of_length_le (by rw [List.length_reverse, win_length]; omega)]), rfl⟩

end Go.Proofs.YtcbogkpgkdijaaaDoor.BitsB
