/- BitsTurn: for every uint32, uint64 and int the law returns true; no conditions. -/
import Derived.Test.YtcbogkpgkdijaaaPBitsTurnx1
namespace Go.Proofs.Ytcbogkpgkdijaaa.Pure
open Go.RowKit Go.Proofs.Ytcbogkpgkdijaaa.PBitsTurn Go.Proofs.YtcbogkpgkdijaaaW.PrintWords Go.Proofs.YtcbogkpgkdijaaaW.PrintLast

/-- A turn to the left by s of W bits. -/
def rot (W s x : Nat) : Nat := (x % 2 ^ (W - s)) * 2 ^ s + x / 2 ^ (W - s)

theorem rot_lt (W s x : Nat) (hs : s ≤ W) (hx : x < 2 ^ W) : rot W s x < 2 ^ W := by
  have hW : 2 ^ W = 2 ^ (W - s) * 2 ^ s := by rw [← Nat.pow_add]; congr 1; omega
  have h1 : x % 2 ^ (W - s) < 2 ^ (W - s) := Nat.mod_lt _ (Nat.two_pow_pos _)
  have h2 : x / 2 ^ (W - s) < 2 ^ s := by rw [Nat.div_lt_iff_lt_mul (Nat.two_pow_pos _), Nat.mul_comm]; omega
  unfold rot
  have h3 : (x % 2 ^ (W - s) + 1) * 2 ^ s ≤ 2 ^ (W - s) * 2 ^ s := Nat.mul_le_mul_right _ h1
  rw [Nat.add_mul] at h3
  omega

theorem rot_back (W s x : Nat) (hs : s ≤ W) (hx : x < 2 ^ W) : rot W (W - s) (rot W s x) = x := by
  have hW : 2 ^ W = 2 ^ (W - s) * 2 ^ s := by rw [← Nat.pow_add]; congr 1; omega
  have h2 : x / 2 ^ (W - s) < 2 ^ s := by rw [Nat.div_lt_iff_lt_mul (Nat.two_pow_pos _), Nat.mul_comm]; omega
  have e : W - (W - s) = s := by omega
  unfold rot
  rw [e, Nat.mul_comm (x % 2 ^ (W - s)), Nat.mul_add_mod, Nat.mod_eq_of_lt h2, Nat.mul_add_div (Nat.two_pow_pos _), Nat.div_eq_of_lt h2, Nat.add_zero, Nat.div_add_mod' ]

theorem rot_zero (W x : Nat) (hx : x < 2 ^ W) : rot W 0 x = x := by
  unfold rot
  simp [Nat.mod_eq_of_lt hx, Nat.div_eq_of_lt hx]

theorem rot_all (W x : Nat) : rot W W x = x := by
  unfold rot
  simp [Nat.mod_one]

/-- What both texts make of a number: a shift each way, joined. -/
theorem or_rot (W s x : Nat) (hs : s ≤ W) (hx : x < 2 ^ W) : (x * 2 ^ s % 2 ^ W) ||| (x / 2 ^ (W - s)) = rot W s x := by
  have hW : 2 ^ W = 2 ^ (W - s) * 2 ^ s := by rw [← Nat.pow_add]; congr 1; omega
  have h2 : x / 2 ^ (W - s) < 2 ^ s := by rw [Nat.div_lt_iff_lt_mul (Nat.two_pow_pos _), Nat.mul_comm]; omega
  have e : x * 2 ^ s % 2 ^ W = 2 ^ s * (x % 2 ^ (W - s)) := by rw [hW, Nat.mul_mod_mul_right, Nat.mul_comm]
  rw [e, ← Nat.two_pow_add_eq_or_of_lt h2]
  unfold rot
  rw [Nat.mul_comm]

theorem wrap_u64 (n : Int) : IntKind.u64.wrap n = n % 18446744073709551616 := by simp [IntKind.wrap, IntKind.bits, IntKind.signed]

theorem bits_or32 (a b : Nat) (ha : a < 2 ^ 32) (hb : b < 2 ^ 32) : Go.bits .or .u32 a b = ((a ||| b : Nat) : Int) :=
  (bits_nat .u32 32 (by decide) (fun n h0 h1 => by rw [IntKind.wrap_u32]; omega) a b ha hb).2
theorem bits_or64 (a b : Nat) (ha : a < 2 ^ 64) (hb : b < 2 ^ 64) : Go.bits .or .u64 a b = ((a ||| b : Nat) : Int) :=
  (bits_nat .u64 64 (by decide) (fun n h0 h1 => by rw [wrap_u64]; omega) a b ha hb).2
theorem and_mask (i : Nat) (hi : i ≤ 64) (x : Int) (h0 : 0 ≤ x) (h1 : x < 2 ^ 64) : Go.bits .and .u64 x (2 ^ i - 1) = x % 2 ^ i :=
  bits_mask .u64 64 (by decide) (fun n h0 h1 => by rw [wrap_u64]; omega) i hi x h0 h1

theorem shl32 (x s : Nat) (hs : s ≤ 32) : shl .u32 x s = ((x * 2 ^ s % 2 ^ 32 : Nat) : Int) := by
  unfold shl
  rw [IntKind.wrap_u32, Int.toNat_natCast, Nat.min_eq_left (by simpa [IntKind.bits] using hs)]
  simp
theorem shr32 (x s : Nat) (hs : s ≤ 32) : shr .u32 x s = ((x / 2 ^ s : Nat) : Int) := by
  unfold shr
  rw [Int.toNat_natCast, Nat.min_eq_left (by simpa [IntKind.bits] using hs)]
  simp
theorem shl64 (x s : Nat) (hs : s ≤ 64) : shl .u64 x s = ((x * 2 ^ s % 2 ^ 64 : Nat) : Int) := by
  unfold shl
  rw [wrap_u64, Int.toNat_natCast, Nat.min_eq_left (by simpa [IntKind.bits] using hs)]
  simp
theorem shr64 (x s : Nat) (hs : s ≤ 64) : shr .u64 x s = ((x / 2 ^ s : Nat) : Int) := by
  unfold shr
  rw [Int.toNat_natCast, Nat.min_eq_left (by simpa [IntKind.bits] using hs)]
  simp

theorem left32 (x : Nat) (hx : x < 2 ^ 32) (k : Int) : bits_RotateLeft32.f x k = some ((rot 32 (k % 32).toNat x : Nat) : Int) := by
  have hm : Go.bits .and .u64 (IntKind.u64.wrap k) 31 = k % 32 := by
    rw [wrap_u64, show (31 : Int) = 2 ^ 5 - 1 from rfl, and_mask 5 (by decide) _ (by omega) (by omega)]
    omega
  obtain ⟨s, hs⟩ := Int.eq_ofNat_of_zero_le (show 0 ≤ k % 32 by omega)
  have hs32 : s < 32 := by omega
  have hw : IntKind.u64.wrap (32 - (s : Int)) = ((32 - s : Nat) : Int) := by rw [wrap_u64]; omega
  unfold bits_RotateLeft32.f
  rw [hm, hs, hw, if_pos (by omega), if_pos (by omega), shl32 x s (by omega), shr32 x (32 - s) (by omega), bits_or32 _ _ (Nat.mod_lt _ (by decide)) (Nat.lt_of_le_of_lt (Nat.div_le_self _ _) hx), or_rot 32 s x (by omega) hx, Int.toNat_natCast]
theorem left64 (x : Nat) (hx : x < 2 ^ 64) (k : Int) : bits_RotateLeft64.f x k = some ((rot 64 (k % 64).toNat x : Nat) : Int) := by
  have hm : Go.bits .and .u64 (IntKind.u64.wrap k) 63 = k % 64 := by
    rw [wrap_u64, show (63 : Int) = 2 ^ 6 - 1 from rfl, and_mask 6 (by decide) _ (by omega) (by omega)]
    omega
  obtain ⟨s, hs⟩ := Int.eq_ofNat_of_zero_le (show 0 ≤ k % 64 by omega)
  have hs64 : s < 64 := by omega
  have hw : IntKind.u64.wrap (64 - (s : Int)) = ((64 - s : Nat) : Int) := by rw [wrap_u64]; omega
  unfold bits_RotateLeft64.f
  rw [hm, hs, hw, if_pos (by omega), if_pos (by omega), shl64 x s (by omega), shr64 x (64 - s) (by omega), bits_or64 _ _ (Nat.mod_lt _ (by decide)) (Nat.lt_of_le_of_lt (Nat.div_le_self _ _) hx), or_rot 64 s x (by omega) hx, Int.toNat_natCast]

theorem tmod_bd (n : Int) (m : Int) (hm : 0 < m) : -m < n.tmod m ∧ n.tmod m < m ∧ (n.tmod m) % m = n % m := by
  refine ⟨Int.lt_tmod_of_pos n hm, Int.tmod_lt_of_pos n hm, ?_⟩
  have h := Int.tmod_add_mul_tdiv n m
  have e : n = n.tmod m + m * n.tdiv m := h.symm
  conv => rhs; rw [e]
  rw [Int.add_mul_emod_self_left]

theorem right32 (x : Nat) (hx : x < 2 ^ 32) (n : Int) : bits_Right32.f x n = some ((rot 32 ((-n) % 32).toNat x : Nat) : Int) := by
  obtain ⟨h1, h2, h3⟩ := tmod_bd n 32 (by decide)
  have hw : wrap64 (-(Int.tmod n 32)) = -(Int.tmod n 32) := by unfold wrap64; omega
  unfold bits_Right32.f
  rw [hw, left32 x hx, show (-(Int.tmod n 32)) % 32 = (-n) % 32 from by omega]
  rfl
theorem right64 (x : Nat) (hx : x < 2 ^ 64) (n : Int) : bits_Right64.f x n = some ((rot 64 ((-n) % 64).toNat x : Nat) : Int) := by
  obtain ⟨h1, h2, h3⟩ := tmod_bd n 64 (by decide)
  have hw : wrap64 (-(Int.tmod n 64)) = -(Int.tmod n 64) := by unfold wrap64; omega
  unfold bits_Right64.f
  rw [hw, left64 x hx, show (-(Int.tmod n 64)) % 64 = (-n) % 64 from by omega]
  rfl

theorem ref32 (x : Nat) (hx : x < 2 ^ 32) (n : Int) : ullageref01_Right32.f x n = some ((rot 32 ((-n) % 32).toNat x : Nat) : Int) := by
  obtain ⟨h1, h2, h3⟩ := tmod_bd n 32 (by decide)
  have hk : Int.tmod (wrap64 ((Int.tmod n 32) + 32)) 32 = n % 32 := by
    have : wrap64 ((Int.tmod n 32) + 32) = Int.tmod n 32 + 32 := by unfold wrap64; omega
    rw [this, Int.tmod_eq_emod_of_nonneg (by omega)]; omega
  obtain ⟨k, hk'⟩ := Int.eq_ofNat_of_zero_le (show 0 ≤ n % 32 by omega)
  unfold ullageref01_Right32.f
  rw [hk]
  by_cases h0 : n % 32 = 0
  · rw [if_pos h0, show ((-n) % 32).toNat = 0 from by omega, rot_zero 32 x hx]
  · have hs : wrap64 (32 - n % 32) = ((32 - k : Nat) : Int) := by unfold wrap64; omega
    rw [if_neg h0, hs, hk', if_pos (by omega), if_pos (by omega), shl32 _ _ (by omega), shr32 _ _ (by omega), bits_or32 _ _ (Nat.lt_of_le_of_lt (Nat.div_le_self _ _) hx) (Nat.mod_lt _ (by decide)), Nat.or_comm]
    have e := or_rot 32 (32 - k) x (by omega) hx
    rw [show 32 - (32 - k) = k from by omega] at e
    rw [e, show ((-n) % 32).toNat = 32 - k from by omega]
theorem ref64 (x : Nat) (hx : x < 2 ^ 64) (n : Int) : ullageref01_Right64.f x n = some ((rot 64 ((-n) % 64).toNat x : Nat) : Int) := by
  obtain ⟨h1, h2, h3⟩ := tmod_bd n 64 (by decide)
  have hk : Int.tmod (wrap64 ((Int.tmod n 64) + 64)) 64 = n % 64 := by
    have : wrap64 ((Int.tmod n 64) + 64) = Int.tmod n 64 + 64 := by unfold wrap64; omega
    rw [this, Int.tmod_eq_emod_of_nonneg (by omega)]; omega
  obtain ⟨k, hk'⟩ := Int.eq_ofNat_of_zero_le (show 0 ≤ n % 64 by omega)
  unfold ullageref01_Right64.f
  rw [hk]
  by_cases h0 : n % 64 = 0
  · rw [if_pos h0, show ((-n) % 64).toNat = 0 from by omega, rot_zero 64 x hx]
  · have hs : wrap64 (64 - n % 64) = ((64 - k : Nat) : Int) := by unfold wrap64; omega
    rw [if_neg h0, hs, hk', if_pos (by omega), if_pos (by omega), shl64 _ _ (by omega), shr64 _ _ (by omega), bits_or64 _ _ (Nat.lt_of_le_of_lt (Nat.div_le_self _ _) hx) (Nat.mod_lt _ (by decide)), Nat.or_comm]
    have e := or_rot 64 (64 - k) x (by omega) hx
    rw [show 64 - (64 - k) = k from by omega] at e
    rw [e, show ((-n) % 64).toNat = 64 - k from by omega]

/-- Turned, and turned back. -/
theorem there_and_back (W x : Nat) (n m : Int) (hW : 0 < W) (hx : x < 2 ^ W) (h : (n + m) % W = 0) : rot W ((-m) % W).toNat (rot W ((-n) % W).toNat x) = x := by
  by_cases h0 : (-n) % (W : Int) = 0
  · have : (-m) % (W : Int) = 0 := by
      have h1 : (W : Int) ∣ n + m := Int.dvd_of_emod_eq_zero h
      have h2 : (W : Int) ∣ -n := Int.dvd_of_emod_eq_zero h0
      have h3 : (W : Int) ∣ -m := by
        have : -m = -(n + m) - (-n) := by omega
        rw [this]; exact Int.dvd_sub (Int.dvd_neg.2 h1) h2
      exact Int.emod_eq_zero_of_dvd h3
    rw [h0, this]
    simp [rot_zero W x hx]
  · have hb : 0 ≤ (-n) % (W : Int) := Int.emod_nonneg _ (by omega)
    have hl : (-n) % (W : Int) < W := Int.emod_lt_of_pos _ (by omega)
    have hs : (-m) % (W : Int) = W - (-n) % W := by
      have h1 : (-m) % (W : Int) = (W - (-n) % (W : Int)) % W := by
        apply Int.emod_eq_emod_iff_emod_sub_eq_zero.2
        have hd : (W : Int) ∣ n + m := Int.dvd_of_emod_eq_zero h
        have hq := Int.emod_add_mul_ediv (-n) W
        apply Int.emod_eq_zero_of_dvd
        have : -m - (W - (-n) % (W : Int)) = -(n + m) - W * (1 + (-n) / W) := by
          rw [Int.mul_add]; omega
        rw [this]
        exact Int.dvd_sub (Int.dvd_neg.2 hd) (Int.dvd_mul_right _ _)
      rw [h1]
      exact Int.emod_eq_of_lt (by omega) (by omega)
    have : ((-m) % (W : Int)).toNat = W - ((-n) % (W : Int)).toNat := by omega
    rw [this]
    exact rot_back W _ x (by omega) hx

theorem awake_true : ullagelaw01_awake.f = some true := by
  have h := right32 1 (by decide) 1
  unfold ullagelaw01_awake.f
  rw [show ((1 : Nat) : Int) = 1 from rfl] at h
  rw [h]
  decide

/-- YOURS: ∀ (a0 : Int) (a1 : Int) (a2 : Int), (Lit.int .u32 a0).wf = true → (Lit.int .u64 a1).wf = true → (Lit.int .i64 a2).wf = true → ullagelaw01_BitsTurn.f a0 a1 a2 = some true -/
theorem BitsTurn : ullagelaw01_BitsTurn.Pure := by
  intro a0 a1 a2 h0 h1 _
  have h0 : 0 ≤ a0 ∧ a0 < 2 ^ 32 := by simp [Lit.wf, IntKind.min, IntKind.max, IntKind.bits, IntKind.signed] at h0; omega
  have h1 : 0 ≤ a1 ∧ a1 < 2 ^ 64 := by simp [Lit.wf, IntKind.min, IntKind.max, IntKind.bits, IntKind.signed] at h1; omega
  obtain ⟨x, rfl⟩ := Int.eq_ofNat_of_zero_le h0.1
  obtain ⟨y, rfl⟩ := Int.eq_ofNat_of_zero_le h1.1
  have hx : x < 2 ^ 32 := by omega
  have hy : y < 2 ^ 64 := by omega
  obtain ⟨t1, t2, t3⟩ := tmod_bd a2 32 (by decide)
  obtain ⟨u1, u2, u3⟩ := tmod_bd a2 64 (by decide)
  have w1 : wrap64 (-(Int.tmod a2 32)) = -(Int.tmod a2 32) := by unfold wrap64; omega
  have w2 : wrap64 (-(Int.tmod a2 64)) = -(Int.tmod a2 64) := by unfold wrap64; omega
  have l1 := rot_lt 32 ((-(Int.tmod a2 32)) % 32).toNat x (by omega) hx
  have l2 := rot_lt 64 ((-(Int.tmod a2 64)) % 64).toNat y (by omega) hy
  unfold ullagelaw01_BitsTurn.f
  rw [awake_true]
  simp only [Option.bind_some, if_true]
  rw [right32 x hx, ref32 x hx, right64 y hy, ref64 y hy, right32 x hx]
  simp only [Option.bind_some, if_true]
  rw [w1, right32 _ l1]
  simp only [Option.bind_some]
  rw [if_pos (by rw [show (32 : Int) = ((32 : Nat) : Int) from rfl, there_and_back 32 x _ _ (by decide) hx (by omega)]), right64 y hy]
  simp only [Option.bind_some]
  rw [w2, right64 _ l2]
  simp only [Option.bind_some]
  rw [show (64 : Int) = ((64 : Nat) : Int) from rfl, there_and_back 64 y _ _ (by decide) hy (by omega)]
  simp

end Go.Proofs.Ytcbogkpgkdijaaa.Pure
