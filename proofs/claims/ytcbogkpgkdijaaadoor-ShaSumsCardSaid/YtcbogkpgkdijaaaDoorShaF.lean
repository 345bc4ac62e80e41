/- Walks of layer sha: the document's numbers of the rounds. -/
import Derived.Test.YtcbogkpgkdijaaaDoorShaE
import Derived.Test.YtcbogkpgkdijaaaDoorShaA
import Derived.Test.YtcbogkpgkdijaaaDoorApp
import Derived.Test.YtcbogkpgkdijaaaDoorShaKa
import Derived.Test.YtcbogkpgkdijaaaDoorShaKb
import Derived.Test.YtcbogkpgkdijaaaDoorShaKc
import Derived.Test.YtcbogkpgkdijaaaDoorShaKd
set_option linter.unusedVariables false
set_option linter.unusedSimpArgs false
namespace Go.Proofs.YtcbogkpgkdijaaaDoor.ShaF
open Go.IntWalk Go.RowKit Go.Proofs.YtcbogkpgkdijaaaDoor.Mem Go.Proofs.YtcbogkpgkdijaaaDoor.Num Go.Proofs.YtcbogkpgkdijaaaDoor.BitsA Go.Proofs.YtcbogkpgkdijaaaDoor.BitsB Go.Proofs.YtcbogkpgkdijaaaDoor.App Go.Proofs.YtcbogkpgkdijaaaDoor.ShaP Go.Proofs.YtcbogkpgkdijaaaDoor.PShaSums Go.Proofs.YtcbogkpgkdijaaaDoor.ShaK

/-- The primes below 312. -/
def P64 : List Int := [2, 3, 5, 7, 11, 13, 17, 19, 23, 29, 31, 37, 41, 43, 47, 53, 59, 61, 67, 71, 73, 79, 83, 89, 97, 101, 103, 107, 109, 113, 127, 131, 137, 139, 149, 151, 157, 163, 167, 173, 179, 181, 191, 193, 197, 199, 211, 223, 227, 229, 233, 239, 241, 251, 257, 263, 269, 271, 277, 281, 283, 293, 307, 311]
/-- Those below p. -/
def below (p : Int) : List Int := P64.filter (· < p)
def isP (p : Int) : Bool := (below p).all fun q => p % q != 0

theorem k_calls (p r : Int) (w : World) (h : kl p 35 0 = some r) : Calls Tryd.prog 40 #[.int .u64 p] w fun e w' => e = .returned (.int .u32 r) ∧ Fr (fun _ => False) w w' := by
  have HK := hid h
  clear h
  go_enter Tryd.func40, Tryd.ntmps40
  go_wp2
  go_loopw [3, 4] (fun a i w' => ∃ n : Nat, ∃ x : Int, n ≤ 35 ∧ i = .int .i64 ((n : Int) - 1) ∧ a = .int .u64 x ∧ Hid (kl p n x = some r) ∧ Fr (fun _ => False) w w') (fun _ i _ => (intOf i + 1).toNat)
  case atStart => exact ⟨35, 0, by omega, by rfl, rfl, HK, Fr.refl _ _⟩
  case round =>
    obtain ⟨n, x, hn, rfl, rfl, hk, hf⟩ := hrel
    cases n with
    | zero =>
      have hk2 : x % 4294967296 = r := Option.some.inj hk.out
      have HK2 := hid hk2
      clear hk2 hk
      go_wp2
      go_ret
      exact ⟨ret_int HK2.out, hf⟩
    | succ m =>
      rw [show (((m + 1 : Nat) : Int) - 1) = (m : Int) by omega]
      have hk2 := hk.out
      rw [kl] at hk2
      obtain ⟨b, hb⟩ : ∃ b, ullageref02_within.f 92 (IntKind.u64.wrap (x + IntKind.u64.wrap (2 ^ m))) p = some b := by
        cases hw : ullageref02_within.f 92 (IntKind.u64.wrap (x + IntKind.u64.wrap (2 ^ m))) p with
        | none => rw [hw] at hk2; cases hk2
        | some b => exact ⟨b, rfl⟩
      rw [hb] at hk2
      have HB := hid hb
      have HK2 := hid hk2
      clear hb hk2 hk
      go_wp2_with fail
      refine (ullageref02_within.calls 92 _ p b wr HB.out).mono ?_
      rintro e w2 ⟨rfl, hf2⟩
      have HF := hid (hf.then_ (Fr.below hf2) (S := fun _ => False) (T := fun _ => False) (fun _ _ h => h))
      clear hf hf2
      cases b
      all_goals
        go_wp2
        go_roundw
        case rel => exact ⟨m, _, by omega, by go_num, rfl, HK2, HF.out⟩
        case measure => simp [intOf]

theorem k_at (t : Nat) (h : t < 64) : kl (P64.getD t 0) 35 0 = some (at_ K t) := by
  match t, h with
  | 0, _ => exact k0
  | 1, _ => exact k1
  | 2, _ => exact k2
  | 3, _ => exact k3
  | 4, _ => exact k4
  | 5, _ => exact k5
  | 6, _ => exact k6
  | 7, _ => exact k7
  | 8, _ => exact k8
  | 9, _ => exact k9
  | 10, _ => exact k10
  | 11, _ => exact k11
  | 12, _ => exact k12
  | 13, _ => exact k13
  | 14, _ => exact k14
  | 15, _ => exact k15
  | 16, _ => exact k16
  | 17, _ => exact k17
  | 18, _ => exact k18
  | 19, _ => exact k19
  | 20, _ => exact k20
  | 21, _ => exact k21
  | 22, _ => exact k22
  | 23, _ => exact k23
  | 24, _ => exact k24
  | 25, _ => exact k25
  | 26, _ => exact k26
  | 27, _ => exact k27
  | 28, _ => exact k28
  | 29, _ => exact k29
  | 30, _ => exact k30
  | 31, _ => exact k31
  | 32, _ => exact k32
  | 33, _ => exact k33
  | 34, _ => exact k34
  | 35, _ => exact k35
  | 36, _ => exact k36
  | 37, _ => exact k37
  | 38, _ => exact k38
  | 39, _ => exact k39
  | 40, _ => exact k40
  | 41, _ => exact k41
  | 42, _ => exact k42
  | 43, _ => exact k43
  | 44, _ => exact k44
  | 45, _ => exact k45
  | 46, _ => exact k46
  | 47, _ => exact k47
  | 48, _ => exact k48
  | 49, _ => exact k49
  | 50, _ => exact k50
  | 51, _ => exact k51
  | 52, _ => exact k52
  | 53, _ => exact k53
  | 54, _ => exact k54
  | 55, _ => exact k55
  | 56, _ => exact k56
  | 57, _ => exact k57
  | 58, _ => exact k58
  | 59, _ => exact k59
  | 60, _ => exact k60
  | 61, _ => exact k61
  | 62, _ => exact k62
  | 63, _ => exact k63
  | m + 64, h => exact absurd h (by omega)
theorem below_all : (List.range 312).all (fun p => (decide (p < 2)) || (below ((p : Int) + 1) == if isP p then below p ++ [(p : Int)] else below p)) = true := by decide +kernel
theorem below_succ (p : Nat) (h : 2 ≤ p) (h2 : p < 312) : below ((p : Int) + 1) = if isP p then below p ++ [(p : Int)] else below p := by
  have := List.all_eq_true.1 below_all p (List.mem_range.2 h2)
  rw [decide_eq_false (by omega)] at this
  simpa using this
theorem below_len : (List.range 312).all (fun p => decide ((below (p : Int)).length < 64)) = true := by decide +kernel
theorem below_lt (p : Nat) (h : p < 312) : (below (p : Int)).length < 64 := by
  have := List.all_eq_true.1 below_len p (List.mem_range.2 h)
  simpa using this
theorem below_end : below 312 = P64 := by decide +kernel
theorem below_mem {p q : Int} (h : q ∈ below p) : 2 ≤ q ∧ q ≤ 311 := by
  have h1 : q ∈ P64 := (List.mem_filter.1 h).1
  have : P64.all (fun q => decide (2 ≤ q ∧ q ≤ 311)) = true := by decide +kernel
  simpa using List.all_eq_true.1 this q h1

theorem info64 : (Tryd.prog.info? 22).map (fun i => (i.zero, i.size, i.bytes)) = some (some (.int .u64 0), 1, 8) := by kernel_rfl
theorem info32 : (Tryd.prog.info? 38).map (fun i => (i.zero, i.size, i.bytes)) = some (some (.int .u32 0), 1, 4) := by kernel_rfl
/-- What Primes hands back. -/
def PrimesTo (w : World) (e : Ending) (w' : World) : Prop := ∃ v, e = .returned v ∧ Own .u64 22 w' w.heap.size v P64 ∧ Fr (fun _ => False) w w'
set_option maxHeartbeats 1000000 in
theorem primes_calls (w : World) : Calls Tryd.prog 39 #[.int .i64 64] w (PrimesTo w) := by
  go_enter Tryd.func39, Tryd.ntmps39
  go_wp2
  go_loopw [3, 4] (fun v i w' => ∃ p : Nat, 2 ≤ p ∧ p ≤ 312 ∧ i = .int .u64 p ∧ Own .u64 22 w' w.heap.size v (below p) ∧ Fr (fun _ => False) w w') (fun _ i _ => 312 - (intOf i).toNat)
  case atStart => exact ⟨2, by omega, by omega, rfl, Own.nil _ _ _ _, Fr.refl _ _⟩
  case round =>
    obtain ⟨p, h2, hp, rfl, ho, hf⟩ := hrel
    obtain ⟨A, c, rfl, hc, hA⟩ := ho.form
    obtain ⟨bs, hbs⟩ : ∃ bs, below p = bs := ⟨_, rfl⟩
    have hq : ∀ q ∈ bs, 2 ≤ q ∧ q ≤ 311 := fun q hq => below_mem (by rw [hbs]; exact hq)
    rw [hbs] at ho hc ⊢
    have HQ := hid hq
    have HO := hid ho
    have HF := hid hf
    have HBS := hid hbs
    clear hA ho hf hq hbs
    by_cases hlt : p < 312
    · have hl : bs.length < 64 := by rw [← HBS.out]; exact below_lt p hlt
      go_wp2_with fail
      go_loop [5, 6] (fun b i => ∃ j : Nat, j ≤ bs.length ∧ i = .int .i64 j ∧ b = .bool ((bs.take j).all fun q => (p : Int) % q != 0)) (fun _ i => bs.length - (intOf i).toNat)
      case atStart => exact ⟨0, by omega, rfl, by simp⟩
      case round =>
        obtain ⟨j, hj, rfl, rfl⟩ := hrel
        by_cases hjl : j < bs.length
        · obtain ⟨ad, rfl, _, hcell⟩ := HO.out.rd.1 j hjl
          obtain ⟨q, hqe⟩ : ∃ q, bs.getD j 0 = q := ⟨_, rfl⟩
          have hq2 := HQ.out (bs.getD j 0) (by rw [List.getD_eq_getElem?_getD, List.getElem?_eq_getElem hjl]; exact List.getElem_mem _)
          have htk : bs.take (j + 1) = bs.take j ++ [q] := by rw [List.take_succ_eq_append_getElem hjl, ← hqe, List.getD_eq_getElem?_getD, List.getElem?_eq_getElem hjl]; rfl
          rw [hqe] at hcell hq2
          have hq0 : (q == 0) = false := by rw [beq_eq_false_iff_ne]; omega
          obtain ⟨hq2a, hq2b⟩ := hq2
          have HTK := hid htk
          clear hqe htk
          go_wp2_with fail
          all_goals
            go_round
            case rel =>
              refine ⟨j + 1, by omega, by go_num, ?_⟩
              have e : ∀ b : Bool, ((p : Int) % q == 0) = b → ((bs.take j ++ [q]).all fun q => (p : Int) % q != 0) = (((bs.take j).all fun q => (p : Int) % q != 0) && !b) := by
                intro b hb
                simp only [List.all_append, List.all_cons, List.all_nil, Bool.and_true, bne, hb]
              rw [HTK.out, e _ ‹_›]
              simp
            case measure => simp [intOf]; omega
        · have hje : j = bs.length := by omega
          subst hje
          rw [List.take_length]
          obtain ⟨b, hb⟩ : ∃ b, (bs.all fun q => (p : Int) % q != 0) = b := ⟨_, rfl⟩
          have hsucc : below ((p : Int) + 1) = if b = true then bs ++ [(p : Int)] else bs := by rw [below_succ p h2 hlt, HBS.out, ← hb, isP, HBS.out]
          have HS := hid hsucc
          rw [hb]
          clear hb hsucc
          cases b
          · go_wp2_with fail
            go_roundw
            case rel => exact ⟨p + 1, by omega, by omega, by go_num, by rw [show ((p + 1 : Nat) : Int) = (p : Int) + 1 by omega, HS.out]; exact HO.out, HF.out⟩
            case measure => simp [intOf]; omega
          · have HV := hid (Blk.new wr 22 #[.int .u64 (p : Int)])
            go_wp2_with (refine wpList_app rfl (.tmp 27) (.tmp 29) 65 rfl 8 Tryd.underlying65 info64 _ bs rfl (HO.out.fr ((Fr.refl (fun _ => False) wr).alloc _) (fun _ _ h => h)) _ 1 1 rfl [(p : Int)] rfl (VecI.rd (show VecI .u64 22 _ _ _ from HV.out)) (by omega) (by have := HF.out.size; simp; omega) ?_; intro v5 w5 h5)
            go_roundw
            case rel => exact ⟨p + 1, by omega, by omega, by go_num, by rw [show ((p + 1 : Nat) : Int) = (p : Int) + 1 by omega, HS.out]; exact h5.out.own, h5.out.fr0 (HO.out.fr ((Fr.refl (fun _ => False) wr).alloc _) (fun _ _ h => h)) (HF.out.alloc _) (Nat.le_refl _)⟩
            case measure => simp [intOf]; omega
    · have hpe : p = 312 := by omega
      subst hpe
      have hbl : bs = P64 := by rw [← HBS.out]; exact below_end
      have hl : bs.length = 64 := by rw [hbl]; rfl
      have ho := HO.out
      rw [hbl] at ho
      rw [hl]
      have HO2 := hid ho
      clear ho hbl hl
      go_wp2_with fail
      go_ret
      exact ⟨_, rfl, HO2.out, HF.out⟩
end Go.Proofs.YtcbogkpgkdijaaaDoor.ShaF
