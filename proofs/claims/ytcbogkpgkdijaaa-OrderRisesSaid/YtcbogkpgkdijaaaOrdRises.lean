/- OrderRises: the law's walk. -/
import Derived.Test.YtcbogkpgkdijaaaOrdE
import Derived.Lib.ConvBytes
set_option linter.unusedVariables false
set_option linter.unusedSimpArgs false
namespace Go.Proofs.Ytcbogkpgkdijaaa.OrdRises
open Go.RowKit Go.Proofs.Ytcbogkpgkdijaaa.Mem Go.Proofs.Ytcbogkpgkdijaaa.Num Go.Proofs.Ytcbogkpgkdijaaa.OrdA Go.Proofs.Ytcbogkpgkdijaaa.OrdB Go.Proofs.Ytcbogkpgkdijaaa.OrdC Go.Proofs.Ytcbogkpgkdijaaa.OrdD Go.Proofs.Ytcbogkpgkdijaaa.OrdE

theorem bw_fr (w : World) (s : ByteArray) : Fr (fun _ => False) w (Lib.bytesWorld w 5 s) :=
  ⟨rfl, rfl, rfl, by rw [Lib.bytesWorld_size]; omega, fun k hk _ => Lib.bytesWorld_at_old w _ s k hk⟩
theorem bw_rd (w : World) (s : ByteArray) : RdI .u8 (Lib.bytesWorld w 5 s) (some ⟨w.heap.size, 0, none⟩) (byt s) := fun i hi => by
  rw [byt_length] at hi
  refine ⟨_, rfl, by rw [Lib.bytesWorld_size]; exact Nat.lt_succ_self _, ?_⟩
  rw [add_plain, Nat.zero_add, Lib.bytesWorld_cell w _ s i hi]
  have h : i < s.data.toList.length := by simpa using hi
  simp [byt, List.getD_eq_getElem?_getD, List.getElem?_eq_getElem h]

theorem push_more (k : K) (c : Int) (cap : Nat) (h : k.cur.length < cap) : (byteK k cap c).cur = k.cur ++ [c] ∧ (byteK k cap c).last = k.last ∧ (byteK k cap c).ended = k.ended := by
  unfold byteK
  rw [if_pos h]
  obtain ⟨k0, k1, now, ended⟩ := k
  cases now <;> exact ⟨rfl, rfl, rfl⟩
theorem endK_cur (k : K) : (endK k).cur = [] ∧ (endK k).last = k.cur ∧ (endK k).ended = true := by
  obtain ⟨k0, k1, now, ended⟩ := k
  cases now <;> exact ⟨rfl, rfl, rfl⟩

theorem bw_cell {w : World} (s : ByteArray) {p : Addr} {v : Value} (h : w.cell? p = some v) : (Lib.bytesWorld w 5 s).cell? p = some v :=
  (Lib.bytesWorld_old w _ s p (World.block_lt_of_cell? w p h)).trans h

theorem ks_fr0 {w0 w w' : World} {g b0 b1 cap : Nat} {k : K} (h : KS w0 w g b0 b1 cap k) (hf : Fr (fun _ => False) w w') : KS w0 w' g b0 b1 cap k :=
  ⟨KeyAt.fr h.at_ hf (fun h => h) (fun h => h) (fun h => h), h.g0, h.h0, h.h1, h.fr.then_ hf (fun _ _ h => h), h.le⟩
theorem bytesL (s : ByteArray) : BytesL (byt s) := byt_range s
/-- What stays of the keys' call: the cells that came in. -/
theorem in_cell {w1 w5 : World} {g b0 b1 cap : Nat} {k : K} {p : Addr} {v : Value} (hc : w1.cell? p = some v) (h : KS w1 w5 g b0 b1 cap k) : w5.cell? p = some v :=
  (h.fr.cell (World.block_lt_of_cell? w1 p hc) (fun h => h)).trans hc

/-- A relation of the outer loop, behind a name. -/
def Rel (w0 w' : World) (g b0 b1 : Nat) (ss : List ByteArray) (i : Nat) : Prop :=
  ∃ k : K, KS w0 w' g b0 b1 100 k ∧ k.cur = [] ∧ k.ended = decide (0 < i) ∧ (0 < i → k.last = byt (ss.getD (i - 1) ByteArray.empty) ∧ (ss.getD (i - 1) ByteArray.empty).size ≤ 100)
def Rel2 (w0 w' : World) (g b0 b1 : Nat) (k : K) (s : ByteArray) (j : Nat) : Prop :=
  ∃ k' : K, KS w0 w' g b0 b1 100 k' ∧ k'.cur = (byt s).take j ∧ k'.ended = k.ended ∧ k'.last = k.last

set_option maxRecDepth 100000 in
set_option maxHeartbeats 8000000 in
theorem law (A : Option Addr) (cap0 : Nat) (ss : List ByteArray) (w : World) (hcap : ss.length ≤ cap0) (hl : ss.length * 16 ≤ 140737488351232) (hr : RdS w A ss) (hb : ∀ s ∈ ss, s.size ≤ maxLen) :
    Calls Try.prog 6 #[.slice A ss.length cap0] w fun e w' => e = .returned (.bool true) ∧ Below w.heap.size w w' := by
  suffices h : Calls Try.prog 6 #[.slice A ss.length cap0] w fun e w' => e = .returned (.bool true) ∧ Hid (Fr (fun _ => False) w w') from
    h.mono fun _ _ ⟨he, h⟩ => ⟨he, h.out.toBelow (fun _ _ h => h)⟩
  have HR := hid hr
  have HB := hid hb
  obtain ⟨n, hn⟩ : ∃ n, n = ss.length := ⟨_, rfl⟩
  rw [← hn] at hcap hl ⊢
  have HN := hid hn.symm
  clear hr hb hn
  by_cases hlen : 60 < n
  · go_enter Try.func6, Try.ntmps6
    go_wp2_with ((with_reducible refine (awake_calls _).mono ?_); rintro e w1 ⟨rfl, hf⟩; have HF := hid hf; clear hf)
    go_ret
    exact ⟨rfl, HF⟩
  · go_enter Try.func6, Try.ntmps6
    go_wp2_with fail
    refine (awake_calls _).mono ?_
    rintro e w1 ⟨rfl, hf⟩
    have HF1 := hid hf
    clear hf
    go_wp2_with fail
    refine (new_ks 100 _).mono ?_
    rw [show capM 100 = 100 from by decide]
    rintro e w2 ⟨g, b0, b1, rfl, hk⟩
    have HK := hid hk
    clear hk
    go_wp2
    go_loopw [4] (fun i w' => ∃ m : Nat, m ≤ n ∧ i = .int .i64 m ∧ Rel w1 w' g b0 b1 ss m) (fun i _ => n - (intOf i).toNat)
    case atStart => exact ⟨0, by omega, rfl, K.zero, HK.out, rfl, rfl, fun h => absurd h (by omega)⟩
    case round =>
      clear HK
      obtain ⟨m, hm, rfl, k, hks, hcur, hend, hlast⟩ := hrel
      have HKS := hid hks
      have HC := hid hcur
      have HE := hid hend
      have HL := hid hlast
      clear hks hcur hend hlast
      by_cases hlt : m < n
      · have hri : RdS wr A ss := (HR.out.fr0 HF1.out).fr0 HKS.out.fr
        obtain ⟨ad, rfl, _, hc⟩ := hri m (by rw [HN.out]; exact hlt)
        have hsz : (ss.getD m ByteArray.empty).size ≤ 9223372036854775807 := by
          rw [List.getD_eq_getElem?_getD, List.getElem?_eq_getElem (show m < ss.length by rw [HN.out]; exact hlt)]
          exact HB.out _ (List.getElem_mem _)
        obtain ⟨s, hs⟩ : ∃ s, ss.getD m ByteArray.empty = s := ⟨_, rfl⟩
        rw [hs] at hc hsz
        have HS := hid hs
        have HRI := hid hri
        clear hs hri
        by_cases h100 : 100 < s.size
        · go_wp2
          go_ret
          exact ⟨rfl, hid (HF1.out.then_ HKS.out.fr (fun _ _ h => h))⟩
        · go_wp2
          go_loopw [5] (fun i w' => ∃ j : Nat, j ≤ s.size ∧ i = .int .i64 j ∧ Rel2 w1 w' g b0 b1 k s j) (fun i _ => s.size - (intOf i).toNat)
          case atStart => exact ⟨0, by omega, rfl, k, HKS.out, HC.out, rfl, rfl⟩
          case round =>
            obtain ⟨j, hj, rfl, k', hks', hcur', hend', hlast'⟩ := hrel
            have HKS' := hid hks'
            have HC' := hid hcur'
            have HE' := hid hend'
            have HL' := hid hlast'
            clear hks' hcur' hend' hlast'
            obtain ⟨_, he, hb1, _⟩ := (HR.out.fr0 HF1.out) m (by rw [HN.out]; exact hlt)
            injection he with he
            subst he
            obtain ⟨_, he, hb2, hc'⟩ := ((HR.out.fr0 HF1.out).fr0 HKS'.out.fr) m (by rw [HN.out]; exact hlt)
            injection he with he
            subst he
            rw [HS.out] at hc'
            by_cases hjs : j < s.size
            · have hlen : k'.cur.length = j := by rw [HC'.out, List.length_take, byt_length]; omega
              have hz := s[j].toNat_lt
              go_wp2_with fail
              refine (byte_ks _ (by omega) (by omega) HKS'.out).mono ?_
              rw [hlen, decide_eq_true (show j < 100 by omega)]
              rintro e w4 ⟨rfl, hk4, _⟩
              have HK4 := hid hk4
              have HLEN := hid hlen
              clear hk4 hlen
              go_wp2
              go_roundw
              case rel =>
                obtain ⟨p1, p2, p3⟩ := push_more k' (s[j].toNat : Int) 100 (by rw [HLEN.out]; omega)
                exact ⟨j + 1, by omega, by go_num, _, HK4.out, by rw [p1, HC'.out, byt_take_snoc s j hjs], by rw [p3, HE'.out], by rw [p2, HL'.out]⟩
              case measure => simp [intOf]; omega
            · have hcur : k'.cur = byt s := by rw [HC'.out, List.take_of_length_le (by rw [byt_length]; omega)]
              have HCUR := hid hcur
              clear hcur
              by_cases hm0 : m = 0
              · have e0 : ((m : Int) == 0) = true := beq_iff_eq.2 (by omega)
                have e1 : decide (0 < m) = false := decide_eq_false (by omega)
                have hok : okB k' = true := by unfold okB; rw [HE'.out, HE.out, e1]; rfl
                have HOK := hid hok
                have HM := hid hm0
                clear hok hm0
                go_wp2
                go_quiet (fail)
                go_wp2_with fail
                refine (end_ks (HKS'.out.drewN _)).mono ?_
                rw [HOK.out]
                rintro e w5 ⟨rfl, hk5, _⟩
                have HK5 := hid hk5
                clear hk5
                go_wp2
                go_roundw
                case rel =>
                  obtain ⟨p1, p2, p3⟩ := endK_cur k'
                  refine ⟨m + 1, by omega, by go_num, _, HK5.out, p1, by rw [p3]; simp, fun _ => ⟨?_, ?_⟩⟩
                  · rw [p2, HCUR.out, Nat.add_sub_cancel, HS.out]
                  · rw [Nat.add_sub_cancel, HS.out]; omega
                case measure => simp [intOf]; omega
              · have hm1 : 0 < m := by omega
                obtain ⟨hlp, hps⟩ := HL.out hm1
                obtain ⟨ad', he, _, hcp⟩ := ((HR.out.fr0 HF1.out).fr0 HKS'.out.fr) (m - 1) (by rw [HN.out]; omega)
                injection he with he
                subst he
                obtain ⟨p, hp⟩ : ∃ p, ss.getD (m - 1) ByteArray.empty = p := ⟨_, rfl⟩
                rw [hp] at hlp hps hcp
                obtain ⟨v, hv⟩ : ∃ v, lessL (byt p) (byt s) = v := ⟨_, rfl⟩
                obtain ⟨v2, hv2⟩ : ∃ v, lessL (byt s) (byt p) = v := ⟨_, rfl⟩
                have e0 : ((m : Int) == 0) = false := beq_eq_false_iff_ne.2 (by omega)
                have hok : okB k' = v := by
                  unfold okB K.last K.cur
                  have h1 := HL'.out
                  have h2 := HCUR.out
                  unfold K.last at h1
                  unfold K.cur at h2
                  rw [HE'.out, HE.out, h1, h2, decide_eq_true hm1]
                  have h3 := hlp
                  unfold K.last at h3
                  rw [h3, ← hv]; rfl
                have HV := hid hv
                have HV2 := hid hv2
                have HOK := hid hok
                have HP := hid hp
                have HLP := hid hlp
                clear hv hv2 hok hp hm0 hlp
                go_wp2
                go_quiet ((go_at_call 32; exact less_q p s v _ _ (by omega) (by omega) HV))
                go_wp2_with fail
                refine (end_ks (HKS'.out.drewN _)).mono ?_
                rw [HOK.out]
                rintro e w5 ⟨rfl, hk5, hf5⟩
                have HK5 := hid hk5
                clear hk5
                have hcs : w5.cell? (ad.add m) = some (.string s) := in_cell (by obtain ⟨_, he, _, hq⟩ := (HR.out.fr0 HF1.out) m (by rw [HN.out]; exact hlt); injection he with he; subst he; rw [← HS.out]; exact hq) HK5.out
                have hcp5 : w5.cell? (ad.add (m - 1)) = some (.string p) := in_cell (by obtain ⟨_, he, _, hq⟩ := (HR.out.fr0 HF1.out) (m - 1) (by rw [HN.out]; omega); injection he with he; subst he; rw [← HP.out]; exact hq) HK5.out
                clear hf5
                have hcv := fun (w : World) (s : ByteArray) => Lib.run_convert_string_bytes (P := Try.prog) w 9 28 5 s Try.underlying9 Try.underlying28 Try.underlying5
                have i1 : IntKind.i64.wrap ((m : Int) - 1) = (m : Int) - 1 := by rw [IntKind.wrap_i64]; omega
                have i2 : 0 ≤ (m : Int) - 1 := by omega
                have i3 : ((m : Int) - 1).toNat = m - 1 := by omega
                have i4 : (m : Int) - 1 < n := by omega
                go_wp2
                have z1 : ∀ q, (Lib.bytesWorld w5.drew 5 q).cell? (ad.add m) = some (.string s) := fun q => bw_cell q hcs
                have z2 : ∀ q, (Lib.bytesWorld w5.drew 5 q).cell? (ad.add (m - 1)) = some (.string p) := fun q => bw_cell q hcp5
                go_region
                · have RA := hid ((bw_rd w5.drew p).fr0 (bw_fr (Lib.bytesWorld w5.drew 5 p) s))
                  have RB := hid (bw_rd (Lib.bytesWorld w5.drew 5 p) s)
                  have KW := hid (ks_fr0 HK5.out (((Fr.refl (fun _ => False) w5).drew.then_ (bw_fr w5.drew p) (fun _ _ h => h)).then_ (bw_fr (Lib.bytesWorld w5.drew 5 p) s) (fun _ _ h => h)))
                  have ZM := bw_cell s (z1 p)
                  have ZP := bw_cell s (z2 p)
                  clear z1 z2 hcs hcp5 hcv
                  generalize hWW : Lib.bytesWorld (Lib.bytesWorld w5.drew 5 p) 5 s = W at *
                  clear hWW
                  have HAA := hid (lessL_self (byt p))
                  go_wp2
                  go_quiet ((first
                    | (go_at_call 33; first | exact ahead_q _ _ _ _ _ _ _ _ v W _ (byt_length p) (byt_length s) RA.out RB.out (bytesL p) (bytesL s) HV | exact ahead_q _ _ _ _ _ _ _ _ v2 W _ (byt_length s) (byt_length p) RB.out RA.out (bytesL s) (bytesL p) HV2 | exact ahead_q _ _ _ _ _ _ _ _ false W _ (byt_length p) (byt_length p) RA.out RA.out (bytesL p) (bytesL p) HAA)
                    | (go_at_call 32; exact less_q s p v2 W _ (by omega) (by omega) HV2)))
                  go_wp2
                  go_roundw
                  case rel =>
                    obtain ⟨p1, p2, p3⟩ := endK_cur k'
                    refine ⟨m + 1, by omega, by go_num, _, KW.out.drewN _, p1, by rw [p3]; simp, fun _ => ⟨?_, ?_⟩⟩
                    · rw [p2, HCUR.out, Nat.add_sub_cancel, HS.out]
                    · rw [Nat.add_sub_cancel, HS.out]; omega
                  case measure => simp [intOf]; omega
                · have RA := hid (bw_rd (Lib.bytesWorld w5.drew 5 s) p)
                  have RB := hid ((bw_rd w5.drew s).fr0 (bw_fr (Lib.bytesWorld w5.drew 5 s) p))
                  have KW := hid (ks_fr0 HK5.out (((Fr.refl (fun _ => False) w5).drew.then_ (bw_fr w5.drew s) (fun _ _ h => h)).then_ (bw_fr (Lib.bytesWorld w5.drew 5 s) p) (fun _ _ h => h)))
                  have ZM := bw_cell p (z1 s)
                  have ZP := bw_cell p (z2 s)
                  clear z1 z2 hcs hcp5 hcv
                  generalize hWW : Lib.bytesWorld (Lib.bytesWorld w5.drew 5 s) 5 p = W at *
                  clear hWW
                  have HAA := hid (lessL_self (byt p))
                  go_wp2
                  go_quiet ((first
                    | (go_at_call 33; first | exact ahead_q _ _ _ _ _ _ _ _ v W _ (byt_length p) (byt_length s) RA.out RB.out (bytesL p) (bytesL s) HV | exact ahead_q _ _ _ _ _ _ _ _ v2 W _ (byt_length s) (byt_length p) RB.out RA.out (bytesL s) (bytesL p) HV2 | exact ahead_q _ _ _ _ _ _ _ _ false W _ (byt_length p) (byt_length p) RA.out RA.out (bytesL p) (bytesL p) HAA)
                    | (go_at_call 32; exact less_q s p v2 W _ (by omega) (by omega) HV2)))
                  go_wp2
                  go_roundw
                  case rel =>
                    obtain ⟨p1, p2, p3⟩ := endK_cur k'
                    refine ⟨m + 1, by omega, by go_num, _, KW.out.drewN _, p1, by rw [p3]; simp, fun _ => ⟨?_, ?_⟩⟩
                    · rw [p2, HCUR.out, Nat.add_sub_cancel, HS.out]
                    · rw [Nat.add_sub_cancel, HS.out]; omega
                  case measure => simp [intOf]; omega
      · go_wp2_with (first
          | ((with_reducible refine (reset_nil _).mono ?_); rintro e w4 ⟨rfl, rfl⟩)
          | ((with_reducible refine (end_nil _).mono ?_); rintro e w4 ⟨rfl, rfl⟩)
          | ((with_reducible refine (len_nil _).mono ?_); rintro e w4 ⟨rfl, rfl⟩)
          | ((with_reducible refine (cap_nil _).mono ?_); rintro e w4 ⟨rfl, rfl⟩)
          | ((with_reducible refine (byte_nil _ _).mono ?_); rintro e w4 ⟨rfl, nn, rfl⟩))
        go_ret
        exact ⟨rfl, hid ((HF1.out.then_ HKS.out.fr (fun _ _ h => h)).drewN _)⟩

end Go.Proofs.Ytcbogkpgkdijaaa.OrdRises
