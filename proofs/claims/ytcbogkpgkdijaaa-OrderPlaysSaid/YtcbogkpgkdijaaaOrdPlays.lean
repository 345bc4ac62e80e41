/- OrderPlays: the law's walk. -/
import Derived.Test.YtcbogkpgkdijaaaOrdE
namespace Go.Proofs.Ytcbogkpgkdijaaa.OrdPlays
open Go.RowKit Go.Proofs.Ytcbogkpgkdijaaa.Mem Go.Proofs.Ytcbogkpgkdijaaa.Num Go.Proofs.Ytcbogkpgkdijaaa.OrdA Go.Proofs.Ytcbogkpgkdijaaa.OrdB Go.Proofs.Ytcbogkpgkdijaaa.OrdC Go.Proofs.Ytcbogkpgkdijaaa.OrdD Go.Proofs.Ytcbogkpgkdijaaa.OrdE

/-- The keys beside the document's. -/
structure Play (w0 w : World) (g b0 b1 cap : Nat) (k : K) (x : Nat) (last now : ByteArray) : Prop where
  ks : KS w0 w g b0 b1 cap k
  ref : RefAt w x last now k.ended cap
  x0 : w0.heap.size ≤ x
  cap_le : cap ≤ 1024
  cur : byt now = k.cur
  lst : k.ended = true → byt last = k.last
  ls : last.size ≤ 1024

theorem Play.now_size {w0 w : World} {g b0 b1 cap : Nat} {k : K} {x : Nat} {last now : ByteArray} (h : Play w0 w g b0 b1 cap k x last now) : now.size = k.cur.length ∧ now.size ≤ 1024 := by
  have h1 := byt_length now
  rw [h.cur] at h1
  have := h.ks.cur_le.1
  have := h.cap_le
  omega
theorem ref_ne {w : World} {x : Nat} {last now : ByteArray} {ended : Bool} {most g b0 b1 cap : Nat} {k : K} (h : RefAt w x last now ended most) (hk : KeyAt w g b0 b1 cap k) : ¬ x = g ∧ ¬ x = b0 ∧ ¬ x = b1 := by
  refine ⟨Blk.ne_ h hk.blk (by decide), fun e => ?_, fun e => ?_⟩
  · obtain ⟨_, hb, _⟩ := hk.r0; exact Blk.ne_ h hb (by decide) e
  · obtain ⟨_, hb, _⟩ := hk.r1; exact Blk.ne_ h hb (by decide) e

theorem Play.drewN {w0 w : World} {g b0 b1 cap : Nat} {k : K} {x : Nat} {last now : ByteArray} (h : Play w0 w g b0 b1 cap k x last now) (n : Nat) : Play w0 (w.drewN n) g b0 b1 cap k x last now :=
  ⟨h.ks.drewN n, Blk.drewN h.ref n, h.x0, h.cap_le, h.cur, h.lst, h.ls⟩

theorem Play.drew {w0 w : World} {g b0 b1 cap : Nat} {k : K} {x : Nat} {last now : ByteArray} (h : Play w0 w g b0 b1 cap k x last now) : Play w0 w.drew g b0 b1 cap k x last now := h.drewN 1

/-- What lies ahead of all that the call made stays. -/
theorem far_cell {N : Nat} {W w' : World} {p : Addr} {v : Value} (hf : Fr (fun i => N ≤ i) W w') (hb : p.block < N) (hN : N ≤ W.heap.size) (hc : W.cell? p = some v) : w'.cell? p = some v :=
  (hf.cell (Nat.lt_of_lt_of_le hb hN) (by omega)).trans hc

/-- Between a deed of the keys and the document's. -/
structure Half (w0 w : World) (g b0 b1 cap : Nat) (k k' : K) (x : Nat) (last now : ByteArray) : Prop where
  ks : KS w0 w g b0 b1 cap k'
  ref : RefAt w x last now k.ended cap
  x0 : w0.heap.size ≤ x
  cap_le : cap ≤ 1024
  cur : byt now = k.cur
  lst : k.ended = true → byt last = k.last
  ls : last.size ≤ 1024
  ns : now.size = k.cur.length ∧ now.size ≤ 1024

theorem play_byte {w0 w : World} {g b0 b1 cap : Nat} {k : K} {x : Nat} {last now : ByteArray} (c : Int) (h0 : 0 ≤ c) (h1 : c ≤ 255) (h : Play w0 w g b0 b1 cap k x last now) :
    Calls Try.prog 26 #[.pointer (some ⟨g, 0, none⟩), .int .u8 c] w fun e w' => e = .returned (.bool (decide (k.cur.length < cap))) ∧ Half w0 w' g b0 b1 cap k (byteK k cap c) x last now ∧ Fr (fun i => w0.heap.size ≤ i) w w' := by
  have hne := ref_ne h.ref h.ks.at_
  refine (byte_ks c h0 h1 h.ks).mono fun e w' ⟨he, hk, hf⟩ => ⟨he, ⟨hk, Blk.fr h.ref hf (by have := hne; omega), h.x0, h.cap_le, h.cur, h.lst, h.ls, h.now_size⟩, hf.mono (fun i _ e => ?_)⟩
  have := h.ks.g0; have := h.ks.h0; have := h.ks.h1; omega

theorem push_cur (k : K) (c : Int) : (k.push c).cur = k.cur ++ [c] ∧ (k.push c).last = k.last ∧ (k.push c).ended = k.ended := by
  obtain ⟨k0, k1, now, ended⟩ := k
  cases now <;> exact ⟨rfl, rfl, rfl⟩
theorem end_cur (k : K) : (endK k).cur = [] ∧ (endK k).last = k.cur ∧ (endK k).ended = true := by
  obtain ⟨k0, k1, now, ended⟩ := k
  cases now <;> exact ⟨rfl, rfl, rfl⟩

theorem half_byte {w0 w : World} {g b0 b1 cap : Nat} {k : K} {x : Nat} {last now : ByteArray} (c : Int) (h0 : 0 ≤ c) (h1 : c ≤ 255) (h : Half w0 w g b0 b1 cap k (byteK k cap c) x last now) :
    Calls Try.prog 27 #[.pointer (some ⟨x, 0, none⟩), .int .u8 c] w fun e w' => e = .returned (.bool (decide (k.cur.length < cap))) ∧ (∃ now', Play w0 w' g b0 b1 cap (byteK k cap c) x last now') ∧ Fr (fun i => w0.heap.size ≤ i) w w' := by
  by_cases hlt : k.cur.length < cap
  · rw [decide_eq_true hlt]
    refine (refbyte_calls x last now k.ended cap c w h0 h1 h.cap_le h.ref (by have := h.ns.1; omega)).mono fun e w' ⟨he, hr, hf⟩ => ⟨he, ⟨now ++ strOfNums [c], ?_⟩, hf.mono (fun i _ e => by have := h.x0; omega)⟩
    have hp := push_cur k c
    have hb : byteK k cap c = k.push c := by unfold byteK; rw [if_pos hlt]
    refine ⟨h.ks.other h.ref (by decide) (by decide) h.x0 hf, ?_, h.x0, h.cap_le, ?_, ?_, h.ls⟩
    · rw [hb, hp.2.2]; exact hr
    · rw [hb, hp.1, byt_append, byt_one c h0 h1, h.cur]
    · rw [hb, hp.2.2, hp.2.1]; exact h.lst
  · rw [decide_eq_false hlt]
    have hb : byteK k cap c = k := by unfold byteK; rw [if_neg hlt]
    refine (refbyte_full x last now k.ended cap c w h.cap_le h.ref (by have := h.ns.1; omega) (by have := h.ns.2; omega)).mono fun e w' ⟨he, n, hw⟩ => ⟨he, ⟨now, ?_⟩, by rw [hw]; exact (Fr.refl _ _).drewN n⟩
    rw [hw, hb]
    have hks := h.ks
    rw [hb] at hks
    exact ⟨hks.drewN n, Blk.drewN h.ref n, h.x0, h.cap_le, h.cur, h.lst, h.ls⟩

theorem play_end {w0 w : World} {g b0 b1 cap : Nat} {k : K} {x : Nat} {last now : ByteArray} (h : Play w0 w g b0 b1 cap k x last now) :
    Calls Try.prog 28 #[.pointer (some ⟨g, 0, none⟩)] w fun e w' => e = .returned (.bool (okB k)) ∧ Half w0 w' g b0 b1 cap k (endK k) x last now ∧ Fr (fun i => w0.heap.size ≤ i) w w' := by
  have hne := ref_ne h.ref h.ks.at_
  refine (end_ks h.ks).mono fun e w' ⟨he, hk, hf⟩ => ⟨he, ⟨hk, Blk.fr h.ref hf (by have := hne; omega), h.x0, h.cap_le, h.cur, h.lst, h.ls, h.now_size⟩, hf.mono (fun i _ e => by have := h.ks.g0; omega)⟩
theorem half_end {w0 w : World} {g b0 b1 cap : Nat} {k : K} {x : Nat} {last now : ByteArray} (h : Half w0 w g b0 b1 cap k (endK k) x last now) :
    Calls Try.prog 29 #[.pointer (some ⟨x, 0, none⟩)] w fun e w' => e = .returned (.bool (okB k)) ∧ (∃ last' now', Play w0 w' g b0 b1 cap (endK k) x last' now') ∧ Fr (fun i => w0.heap.size ≤ i) w w' := by
  have hok : (!k.ended || lessL (byt last) (byt now)) = okB k := by
    unfold okB
    rw [h.cur]
    cases he : k.ended
    · rfl
    · rw [h.lst he]
  have hp := end_cur k
  refine (refend_calls x last now k.ended cap w h.ls h.ns.2 h.ref).mono fun e w' ⟨he, hr, hf⟩ => ⟨by rw [he, hok], ⟨now, ⟨#[]⟩, h.ks.other h.ref (by decide) (by decide) h.x0 hf, ?_, h.x0, h.cap_le, ?_, ?_, h.ns.2⟩, hf.mono (fun i _ e => by have := h.x0; omega)⟩
  · rw [hp.2.2]; exact hr
  · rw [hp.1]; rfl
  · intro _; rw [hp.2.1]; exact h.cur

theorem len_q {w0 w : World} {g b0 b1 cap : Nat} {k : K} (n : Nat) (m : Int) (hm : Hid ((k.cur.length : Int) = m)) (h : KS w0 w g b0 b1 cap k) :
    Calls Try.prog 31 #[.pointer (some ⟨g, 0, none⟩)] (w.drewN n) fun e w' => e = .returned (.int .i64 m) ∧ ∃ j, w' = w.drewN j :=
  (len_calls g b0 b1 cap k (w.drewN n) (h.drewN n).at_).mono fun _ _ ⟨he, j, hw⟩ => ⟨by rw [he, hm.out], n + j, by rw [hw, World.drewN_drewN]⟩
theorem cap_q {w0 w : World} {g b0 b1 cap : Nat} {k : K} (n : Nat) (hc : cap ≤ 1024) (m : Int) (hm : Hid (((cap + cap : Nat) : Int) = m)) (h : KS w0 w g b0 b1 cap k) :
    Calls Try.prog 25 #[.pointer (some ⟨g, 0, none⟩)] (w.drewN n) fun e w' => e = .returned (.int .i64 m) ∧ ∃ j, w' = w.drewN j :=
  (cap_calls g b0 b1 cap k (w.drewN n) hc (h.drewN n).at_).mono fun _ _ ⟨he, j, hw⟩ => ⟨by rw [he, hm.out], n + j, by rw [hw, World.drewN_drewN]⟩

set_option maxRecDepth 100000 in
set_option maxHeartbeats 8000000 in
theorem law (most : Int) (A : Option Addr) (cap0 : Nat) (xs : List Int) (w : World) (_ : (Lit.int .i64 most).wf = true) (hcap : xs.length ≤ cap0) (hl : xs.length * 2 ≤ 140737488351232) (hr : RdI .u16 w A xs) (hb : ∀ n ∈ xs, (Lit.int .u16 n).wf = true) :
    Calls Try.prog 5 #[.int .i64 most, .slice A xs.length cap0] w fun e w' => e = .returned (.bool true) ∧ Below w.heap.size w w' := by
  suffices h : Calls Try.prog 5 #[.int .i64 most, .slice A xs.length cap0] w fun e w' => e = .returned (.bool true) ∧ Hid (Fr (fun _ => False) w w') from
    h.mono fun _ _ ⟨he, h⟩ => ⟨he, h.out.toBelow (fun _ _ h => h)⟩
  have HR := hid hr
  have HB := hid hb
  obtain ⟨n, hn⟩ : ∃ n, n = xs.length := ⟨_, rfl⟩
  rw [← hn] at hcap hl ⊢
  have HN := hid hn.symm
  clear hr hb hn
  by_cases hlen : 500 < n
  · go_enter Try.func5, Try.ntmps5
    go_wp2_with ((with_reducible refine (awake_calls _).mono ?_); rintro e w1 ⟨rfl, hf⟩; have HF := hid hf; clear hf)
    go_ret
    exact ⟨rfl, HF⟩
  · obtain ⟨cap, hcapm⟩ : ∃ c, c = capM most := ⟨_, rfl⟩
    have hcl := capM_le most
    rw [← hcapm] at hcl
    have HC := hid hcapm.symm
    obtain ⟨room, hroom⟩ : ∃ r : Int, ((cap + cap : Nat) : Int) = r := ⟨_, rfl⟩
    have r0 : 0 ≤ room := by omega
    have r1 : room ≤ 2 * (cap : Int) := by omega
    have HROOM := hid hroom
    clear hcapm hroom
    go_enter Try.func5, Try.ntmps5
    go_wp2_with fail
    refine (awake_calls _).mono ?_
    rintro e w1 ⟨rfl, hf⟩
    have HF1 := hid hf
    clear hf
    go_wp2_with fail
    refine (new_ks most _).mono ?_
    rw [HC.out]
    rintro e w2 ⟨g, b0, b1, rfl, hk⟩
    have HK := hid hk
    clear hk
    go_wp2_with fail
    refine (refnew_calls most _).mono ?_
    rw [HC.out]
    rintro e w3 ⟨x, rfl, hx0, hrf, hf⟩
    have hpl : Play w1 w3 g b0 b1 cap K.zero x ⟨#[]⟩ ⟨#[]⟩ := by
      have h := HK.out
      exact ⟨⟨KeyAt.fr h.at_ hf (fun h => h) (fun h => h) (fun h => h), h.g0, h.h0, h.h1, h.fr.then_ hf (fun _ _ h => h), h.le⟩, hrf, Nat.le_trans h.fr.size hx0, hcl, rfl, (fun h => absurd h (by decide)), by decide⟩
    have HP := hid hpl
    clear hrf hf hpl HK
    go_wp2_with fail
    refine (cap_q 0 hcl room HROOM HP.out.ks).mono ?_
    rintro e w' ⟨rfl, j, rfl⟩
    have hx3 : (w3.drewN j).cell? ⟨x, 3, none⟩ = some (.int .i64 cap) := by have := Blk.cell (HP.out.ref.drewN j) 3; simpa using this
    go_wp2
    go_loopw [6, 8] (fun xp i w' => ∃ (m : Nat) (k : K) (x : Nat) (last now : ByteArray), m ≤ n ∧ i = .int .i64 m ∧ xp = .pointer (some ⟨x, 0, none⟩) ∧ Play w1 w' g b0 b1 cap k x last now) (fun _ i _ => n - (intOf i).toNat)
    case atStart => exact ⟨0, K.zero, x, _, _, by omega, rfl, rfl, HP.out.drewN j⟩
    case round =>
      clear hx3 HP
      obtain ⟨m, k, x, last, now, hm, rfl, rfl, hp⟩ := hrel
      have HP := hid hp
      clear hp
      by_cases hlt : m < n
      · have hri : RdI .u16 wr A xs := (HR.out.fr0 HF1.out).fr0 HP.out.ks.fr
        obtain ⟨ad, rfl, hb, hc⟩ := hri m (by rw [HN.out]; exact hlt)
        have hb1 : (ad.add m).block < w1.heap.size := by
          obtain ⟨ad', he, hb', _⟩ := (HR.out.fr0 HF1.out) m (by rw [HN.out]; exact hlt)
          injection he with he
          subst he
          rw [block_of_add]; exact hb'
        have hsz := HP.out.ks.fr.size
        have hv : 0 ≤ xs.getD m 0 ∧ xs.getD m 0 ≤ 65535 := by
          have h := HB.out _ (List.getElem_mem (show m < xs.length by rw [HN.out]; exact hlt))
          simp [Lit.wf, IntKind.min, IntKind.max, IntKind.bits, IntKind.signed] at h
          rw [List.getD_eq_getElem?_getD, List.getElem?_eq_getElem (show m < xs.length by rw [HN.out]; exact hlt)]
          simp
          omega
        obtain ⟨v, hvv⟩ : ∃ v, xs.getD m 0 = v := ⟨_, rfl⟩
        rw [hvv] at hc hv
        obtain ⟨v0, v1⟩ := hv
        clear hvv hri
        by_cases hv2 : v < 256
        · have v255 : v ≤ 255 := by omega
          have hw : IntKind.u8.wrap v = v := by rw [wrap_u8]; omega
          go_wp2
          go_region_held3 (fun w' => w'.cell? (ad.add m) = some (.int .u16 v)) (go_keep)
            (first
              | (go_at_call 26; refine (play_byte _ (by omega) (by omega) HP.out.drew).mono ?_; rintro e w4 ⟨rfl, hh, hf⟩; have HH := hid hh; have hc4 := far_cell hf hb1 hsz hc; clear hh hf)
              | (go_at_call 27; refine (half_byte _ (by omega) (by omega) HH.out).mono ?_; rintro e w5 ⟨rfl, ⟨now', hh⟩, hf⟩; have HH5 := hid hh; have hc5 := far_cell hf hb1 HH.out.ks.fr.size hc4; clear hh hf))
          have hx1 := Blk.cell HH5.out.ref 1
          simp at hx1
          have HM := hid (show (((byteK k cap v).cur.length : Nat) : Int) = (now'.size : Int) from by have := HH5.out.now_size.1; omega)
          have hz := HH5.out.now_size.2
          go_wp2
          go_quiet ((first | (go_at_call 31; exact len_q _ _ HM HH5.out.ks) | (go_at_call 25; exact cap_q _ hcl room HROOM HH5.out.ks)))
          go_wp2
          go_roundw
          case rel => exact ⟨m + 1, _, x, last, now', by omega, by go_num, rfl, HH5.out.drewN _⟩
          case measure => simp [intOf]; omega
        · by_cases hv3 : v = 256
          · have e1 : (v == 256) = true := beq_iff_eq.2 hv3
            have e2 : (v == 257) = false := beq_eq_false_iff_ne.2 (by omega)
            clear hv3
            go_wp2_with fail
            refine (play_end HP.out).mono ?_
            rintro e w4 ⟨rfl, hh, _⟩
            have HH := hid hh
            clear hh
            go_wp2_with fail
            refine (half_end HH.out).mono ?_
            rintro e w5 ⟨rfl, ⟨last', now', hh⟩, _⟩
            have HH5 := hid hh
            clear hh
            have hx1 := Blk.cell HH5.out.ref 1
            simp at hx1
            have HM := hid (show (((endK k).cur.length : Nat) : Int) = (now'.size : Int) from by have := HH5.out.now_size.1; omega)
            have hz := HH5.out.now_size.2
            go_wp2
            go_quiet ((first | (go_at_call 31; exact len_q _ _ HM HH5.out.ks) | (go_at_call 25; exact cap_q _ hcl room HROOM HH5.out.ks)))
            go_wp2
            go_roundw
            case rel => exact ⟨m + 1, _, x, last', now', by omega, by go_num, rfl, HH5.out.drewN _⟩
            case measure => simp [intOf]; omega
          · have e1 : (v == 256) = false := beq_eq_false_iff_ne.2 hv3
            by_cases hv4 : v = 257
            · have e2 : (v == 257) = true := beq_iff_eq.2 hv4
              clear hv3 hv4
              go_wp2_with fail
              refine (reset_ks hcl HP.out.ks).mono ?_
              rintro e w4 ⟨rfl, hk, hf⟩
              have HK := hid hk
              clear hk
              go_wp2_with fail
              refine (refnew_calls most _).mono ?_
              rw [HC.out]
              rintro e w5 ⟨y, rfl, hy0, hrf, hf5⟩
              have hpl : Play w1 w5 g b0 b1 cap ⟨[], [], k.now, false⟩ y ⟨#[]⟩ ⟨#[]⟩ := by
                have h := HK.out
                exact ⟨⟨KeyAt.fr h.at_ hf5 (fun h => h) (fun h => h) (fun h => h), h.g0, h.h0, h.h1, h.fr.then_ hf5 (fun _ _ h => h), h.le⟩, hrf, Nat.le_trans h.fr.size hy0, hcl, (by unfold K.cur; cases k.now <;> rfl), (fun h => absurd h (by simp)), by decide⟩
              have HH5 := hid hpl
              clear hrf hf5 hpl HK hf
              have hx1 := Blk.cell HH5.out.ref 1
              simp at hx1
              have HM := hid (show (((⟨[], [], k.now, false⟩ : K).cur.length : Nat) : Int) = ((⟨#[]⟩ : ByteArray).size : Int) from by have := HH5.out.now_size.1; omega)
              have hz := HH5.out.now_size.2
              go_wp2
              go_quiet ((first | (go_at_call 31; exact len_q _ _ HM HH5.out.ks) | (go_at_call 25; exact cap_q _ hcl room HROOM HH5.out.ks)))
              go_wp2
              go_roundw
              case rel => exact ⟨m + 1, _, y, ⟨#[]⟩, (⟨#[]⟩ : ByteArray), by omega, by go_num, rfl, HH5.out.drewN _⟩
              case measure => simp [intOf]; omega
            · have e2 : (v == 257) = false := beq_eq_false_iff_ne.2 hv4
              clear hv3 hv4
              have hx1 := Blk.cell HP.out.ref 1
              simp at hx1
              have HM := hid (show ((k.cur.length : Nat) : Int) = (now.size : Int) from by have := HP.out.now_size.1; omega)
              have hz := HP.out.now_size.2
              go_wp2
              go_quiet ((first | (go_at_call 31; exact len_q _ _ HM HP.out.ks) | (go_at_call 25; exact cap_q _ hcl room HROOM HP.out.ks)))
              go_wp2
              go_roundw
              case rel => exact ⟨m + 1, _, x, last, now, by omega, by go_num, rfl, HP.out.drewN _⟩
              case measure => simp [intOf]; omega
      · go_wp2
        go_ret
        exact ⟨rfl, hid (HF1.out.then_ HP.out.ks.fr (fun _ _ h => h))⟩

end Go.Proofs.Ytcbogkpgkdijaaa.OrdPlays
