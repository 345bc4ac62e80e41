/- Layer blake: pieces. -/
import Derived.Test.YtcbogkpgkdijaaaDoorBlaE
import Derived.Test.YtcbogkpgkdijaaaDoorSame
import Derived.Test.YtcbogkpgkdijaaaDoorRowRows
set_option linter.unusedVariables false
set_option linter.unusedSimpArgs false
namespace Go.Proofs.YtcbogkpgkdijaaaDoor.BlaG
open Go.IntWalk Go.RowKit Go.Proofs.YtcbogkpgkdijaaaDoor.Mem Go.Proofs.YtcbogkpgkdijaaaDoor.Num Go.Proofs.YtcbogkpgkdijaaaDoor.BitsA Go.Proofs.YtcbogkpgkdijaaaDoor.BitsB Go.Proofs.YtcbogkpgkdijaaaDoor.App Go.Proofs.YtcbogkpgkdijaaaDoor.BlaP Go.Proofs.YtcbogkpgkdijaaaDoor.BlaB Go.Proofs.YtcbogkpgkdijaaaDoor.BlaA Go.Proofs.YtcbogkpgkdijaaaDoor.BlaC Go.Proofs.YtcbogkpgkdijaaaDoor.BlaD Go.Proofs.YtcbogkpgkdijaaaDoor.BlaE Go.Proofs.YtcbogkpgkdijaaaDoor.Same

theorem nil_sum : sumOf [] = [14, 87, 81, 192, 38, 229, 67, 178, 232, 171, 46, 176, 96, 153, 218, 161, 209, 229, 223, 71, 119, 143, 119, 135, 250, 171, 69, 205, 241, 47, 227, 168] := by decide +kernel
theorem sumOf_length (xs : List Int) : (sumOf xs).length = 32 := by unfold sumOf sumAt; rw [little4_length, List.length_take, compress_length (blocks_length _ _)]; rfl
theorem sumOf_bytes (xs : List Int) : Bytes (sumOf xs) := bytes_little4 _

theorem awake_calls (w : World) (ht : Tabs w) : Calls Tryd.prog 25 #[] w fun e w' => e = .returned (.bool true) ∧ Fr (fun _ => False) w w' := by
  have HT := hid ht
  clear ht
  go_enter Tryd.func25, Tryd.ntmps25
  go_wp2_with fail
  refine (blake_calls none 0 0 [] _ HT.out rfl (fun i hi => by cases hi) (by unfold Bytes; simp) (by decide) (by decide)).mono ?_
  rintro e w2 ⟨v, rfl, ho, hf⟩
  have HF := hid hf
  obtain ⟨A, c, rfl, hc, hA⟩ := ho.form
  obtain ⟨hr, _⟩ := ho.rd
  rw [sumOf_length] at hc ⊢
  obtain ⟨ad, rfl, _, c0⟩ := hr 0 (by rw [sumOf_length]; decide)
  obtain ⟨ad', e1, _, c1⟩ := hr 1 (by rw [sumOf_length]; decide)
  obtain ⟨ad'', e2, _, c31⟩ := hr 31 (by rw [sumOf_length]; decide)
  injection e1 with e1
  injection e2 with e2
  subst e1 e2
  obtain ⟨g, rfl, _, _⟩ := hA _ rfl
  rw [nil_sum, add_plain] at c0 c1 c31
  simp at c0 c1 c31
  clear hr ho hA hf
  go_wp2
  go_ret
  exact ⟨rfl, HF.out⟩

theorem zero_at (w : World) : DAt (w.alloc (Obj.cells Tryd.zeroCells52 52)) w.heap.size [] := by
  refine .inr ⟨rfl, List.replicate 8 0, List.replicate 128 0, ?_, by simp, by simp, fun c hc => by rw [List.eq_of_mem_replicate hc]; decide⟩
  have := Blk.new w 52 Tryd.zeroCells52
  rw [show Tryd.zeroCells52 = (dcells (List.replicate 8 0) (List.replicate 128 0) 0 0 false).toArray by kernel_rfl] at this ⊢
  exact this
theorem own_ne_dat {w : World} {b g : Nat} {v : Value} {xs ys : List Int} (ho : Own .u8 5 w b v xs) (hd : DAt w g ys) : v.ownBlock ≠ some g := by
  intro e
  rcases ho.2 with ⟨hv, _⟩ | ⟨g', cap, cur, rfl, _, hg, _⟩
  · rw [hv] at e; cases e
  · have e := own_blk e
    subst e
    rcases hd with ⟨st, bl, op, nb, hd, _⟩ | ⟨_, st, bl, hd, _⟩
    · have hd : w.heap[g']? = _ := hd
      rw [hd] at hg
      injection hg with hg
      injection hg with _ ht
      exact absurd ht (by decide)
    · have hd : w.heap[g']? = _ := hd
      rw [hd] at hg
      injection hg with hg
      injection hg with _ ht
      exact absurd ht (by decide)
/-- The rows so far, one behind the other. -/
def allOf (pss : List (List Int)) (k : Nat) : List Int := (pss.take k).flatten
theorem allOf_succ (pss : List (List Int)) (k : Nat) (h : k < pss.length) : allOf pss (k + 1) = allOf pss k ++ pss.getD k [] := by
  unfold allOf
  rw [List.take_succ_eq_append_getElem h, List.flatten_append]
  simp [List.getD_eq_getElem?_getD, List.getElem?_eq_getElem h]

theorem len_on (g : Nat) (xs : List Int) (w : World) (h : DOn w g xs) : Calls Tryd.prog 31 #[.pointer (some ⟨g, 0, none⟩)] w fun e w' => e = .returned (.int .u64 xs.length) ∧ w = w' := by
  obtain ⟨st, bl, op, nb, hd, hr, _⟩ := h
  exact len_calls g st bl op xs.length true w hr.len8 hr.len hd
theorem len_any (g : Nat) (xs : List Int) (m : Int) (w : World) (hm : (xs.length : Int) = m) (h : DOn w g xs) : Calls Tryd.prog 31 #[.pointer (some ⟨g, 0, none⟩)] w fun e w' => e = .returned (.int .u64 m) ∧ w = w' := by
  subst hm; exact len_on g xs w h
/-- Two sums of the same bytes. -/
theorem same_sums (v v' : Value) (b b' : Nat) (xs : List Int) (w : World) (h : Own .u8 5 w b v (sumOf xs)) (h' : Own .u8 5 w b' v' (sumOf xs)) :
    Calls Tryd.prog 18 #[v, v'] w fun e w' => e = .returned (.bool true) ∧ w = w' := by
  obtain ⟨A, c, rfl, _, _⟩ := h.form
  obtain ⟨A', c', rfl, _, _⟩ := h'.form
  exact same_eq A A' _ _ c c' _ _ w rfl rfl rfl h.rd.1 h'.rd.1 (sumOf_bytes xs)
theorem bytes_app {xs ys : List Int} (h : Bytes xs) (k : Bytes ys) : Bytes (xs ++ ys) := fun c hc => by rcases List.mem_append.1 hc with h1 | h1; exact h c h1; exact k c h1
theorem own_addr {k : IntKind} {e : TypeId} {w : World} {b n c : Nat} {A : Option Addr} {xs : List Int} (h : Own k e w b (.slice A n c) xs) (g : Nat) (hne : (Value.slice A n c).ownBlock ≠ some g) : 0 < n → ∀ ad, A = some ad → ¬ ad.block = g := by
  intro _ ad he e
  subst he
  exact hne (by rw [← e]; rfl)

set_option maxRecDepth 100000 in
set_option maxHeartbeats 8000000 in
theorem chunks_calls (A : Option Addr) (n c : Nat) (pss : List (List Int)) (w : World) (ht : Tabs w) (hn : pss.length = n) (hc : n ≤ c) (hm : c ≤ maxLen) (hr : RowRows.RdRows .u8 w A pss) (hb : ∀ zs ∈ pss, Bytes zs) :
    Calls Tryd.prog 8 #[.slice A n c] w fun e w' => e = .returned (.bool true) ∧ Fr (fun _ => False) w w' := by
  unfold maxLen at hm
  have HT := hid ht
  have HN := hid hn
  have HR := hid hr
  have HB := hid hb
  clear ht hn hr hb
  go_enter Tryd.func8, Tryd.ntmps8
  go_wp2_with fail
  refine (awake_calls w HT.out).mono ?_
  rintro e w1 ⟨rfl, hf⟩
  have HF1 := hid hf
  clear hf
  go_wp2_with fail
  refine (new_calls w1).mono ?_
  rintro e w2 ⟨g, rfl, hg, hd, hf⟩
  have HF2 := hid (HF1.out.then_ hf (fun _ _ h => h))
  have HD := hid hd
  have hg0 : w.heap.size ≤ g := by have := HF1.out.size; omega
  clear hf hd
  by_cases h60 : 60 < n
  · go_wp2_with fail
    go_ret
    exact ⟨rfl, HF2.out.alloc _⟩
  · have HZ := hid (zero_at w2)
    have HF3 := hid (HF2.out.alloc (Obj.cells Tryd.zeroCells52 52))
    have HD3 := hid (HD.out.fr ((Fr.refl (fun _ => False) w2).alloc (Obj.cells Tryd.zeroCells52 52)) id)
    obtain ⟨z, hz⟩ : ∃ z, w2.heap.size = z := ⟨_, rfl⟩
    have hgz : g < z := by have := HD.out.lt; omega
    have hz0 : w.heap.size ≤ z := by omega
    rw [hz] at HZ
    have HZE := hid hz
    clear HD
    go_wp2_with fail
    clear hz
    go_loopw [3, 6] (fun v i w' => ∃ k : Nat, k ≤ n ∧ i = .int .i64 k ∧ Own .u8 5 w' w.heap.size v (allOf pss k) ∧ (allOf pss k).length ≤ 4000 ∧ DAt w' g (allOf pss k) ∧ DAt w' z (allOf pss k) ∧ Fr (fun _ => False) w w') (fun _ i _ => n - (intOf i).toNat)
    case atStart => exact ⟨0, by omega, rfl, Own.nil _ _ _ _, by simp [allOf], HD3.out, HZ.out, HF3.out⟩
    case round =>
      obtain ⟨k, hk, rfl, ho, hl4, hd, hz, hf⟩ := hrel
      have HO := hid ho
      have HDg := hid hd
      have HDz := hid hz
      have HF := hid hf
      clear ho hd hz hf
      obtain ⟨all, hall⟩ : ∃ all, allOf pss k = all := ⟨_, rfl⟩
      rw [hall] at hl4 HO HDg HDz
      have HBA := hid (show Bytes all by
        rw [← hall]
        intro x hx
        simp only [allOf, List.mem_flatten] at hx
        obtain ⟨l, hl, hx⟩ := hx
        exact HB.out l (List.mem_of_mem_take hl) x hx)
      have HALL := hid hall
      clear hall
      obtain ⟨A3, c3, rfl, hc3, hA3⟩ := HO.out.form
      have HA3 := hid hA3
      clear hA3
      by_cases hkn : k < n
      · obtain ⟨ad, A', c', rfl, hadl, hcell0, hlc, hcm, hrd0⟩ := HR.out k (by rw [HN.out]; exact hkn)
        have hcell := (HF.out.cell (p := ad.add k) (by rw [block_of_add]; exact hadl) id).trans hcell0
        obtain ⟨ps, hps⟩ : ∃ ps, pss.getD k [] = ps := ⟨_, rfl⟩
        rw [hps] at hcell hlc hrd0 hcell0
        have HC0 := hid hcell0
        clear hcell0
        have hbp : Bytes ps := by
          rw [← hps, List.getD_eq_getElem?_getD, List.getElem?_eq_getElem (by rw [HN.out]; exact hkn)]
          exact HB.out _ (List.getElem_mem _)
        have HPS := hid hps
        have HRD := hid hrd0
        have HBP := hid hbp
        unfold maxLen at hcm
        clear hps hrd0 hbp
        by_cases h2000 : 2000 < ps.length
        · go_wp2_with fail
          go_ret
          exact ⟨rfl, HF.out⟩
        · by_cases ha2000 : 2000 < all.length
          · go_wp2_with fail
            go_ret
            exact ⟨rfl, HF.out⟩
          · go_wp2_with (first
              | (refine wpList_app rfl (.tmp 35) (.tmp 39) 31 rfl 1 Tryd.underlying31 infoByte _ all rfl HO.out A' ps.length c' rfl ps rfl (HRD.out.fr0 HF.out) (by omega) HF.out.size ?_; intro v5 w5 h5; have HF5 := hid (h5.out.fr0 HO.out HF.out (Nat.le_refl _)); have hcell6 := cell_a ((HF5.out.cell (p := ad.add k) (by rw [block_of_add]; exact hadl) id).trans HC0.out) (Obj.cells #[] 5))
              | (refine wpList_app rfl (.tmp 41) (.tmp 45) 31 rfl 1 Tryd.underlying31 infoByte _ [] rfl (own_made0 .u8 5 w5) A' ps.length c' rfl ps rfl (HRD.out.fr0 (HF5.out.alloc _)) (by simp; omega) (by simp) ?_; intro v7 w7 h7))
            obtain ⟨qs, hqs⟩ : ∃ qs, all ++ ps = qs := ⟨_, rfl⟩
            have hql : qs.length ≤ 4000 := by rw [← hqs, List.length_append]; omega
            rw [hqs] at h5
            have HQS := hid hqs
            obtain ⟨A5, c5, rfl, hc5, _⟩ := h5.out.own.form
            clear hqs
            have HO5 := hid h5.out.own
            have hnd5 := own_ne_dat HO.out HDg.out
            have hnz5 := own_ne_dat HO.out HDz.out
            have HDg5 := hid (HDg.out.fr h5.out.fr hnd5)
            have HA5L := hid (fun b hb => (HO5.out.lt b hb).2)
            have HDz5 := hid (HDz.out.fr h5.out.fr hnz5)
            have HO7 := hid h7.out.own
            have HF57 := hid (((Fr.refl (fun _ => False) w5).alloc (.cells #[] 5)).then_ h7.out.fr (fun i hi e => by have := own_blk e; omega))
            clear hnd5 hnz5 h5 h7 hcell6 hcell HDg HDz HO HF HA3
            obtain ⟨A7, c7, rfl, hc7, hA7⟩ := HO7.out.form
            have HO5' := hid (HO5.out.fr HF57.out (fun _ _ h => h))
            have HDg7 := hid (HDg5.out.fr HF57.out id)
            have HDz7 := hid (HDz5.out.fr HF57.out id)
            have HF7 := hid (HF5.out.then_ HF57.out (fun _ _ h => h))
            have hlt := HT.out.lt
            have HB7 := hid hlt
            clear hA7 HDg5 HDz5 HO5 hlt
            rw [List.nil_append] at HO7 hc7 ⊢
            obtain ⟨b5, hb5⟩ : ∃ b, w5.heap.size = b := ⟨_, rfl⟩
            rw [hb5] at HO7
            have HB5 := hid hb5
            clear hb5 HF57
            refine (write_any g all ps A7 _ c7 w7 (HT.out.fr HF7.out id id) (by have := HB7.out; omega) (by have := HB7.out; omega) HDg7.out rfl HO7.out.rd.1 HBP.out (own_addr HO7.out g (own_ne_dat HO7.out HDg7.out)) (by omega) hc7).mono ?_
            rintro e w8 ⟨rfl, hd8, hf8⟩
            rw [HQS.out] at hd8
            have HD8 := hid hd8
            have HF8 := hid (HF7.out.then_ hf8 (fun i hi (e : i = g) => by omega))
            have hne7 := own_ne_dat HO7.out HDg7.out
            have hne5 := own_ne_dat HO5'.out HDg7.out
            have HO8 := hid (HO7.out.fr hf8 (fun b hb (e : b = g) => hne7 (by rw [hb, e])))
            have HA8 := hid (HO5'.out.fr hf8 (fun b hb (e : b = g) => hne5 (by rw [hb, e])))
            have HDz8 := hid (HDz7.out.fr hf8 (by omega))
            clear hd8 hf8 hne7 hne5 HDg7 HDz7 HO7 HO5'
            go_wp2_with fail
            refine (write_any z all ps A7 _ c7 w8 (HT.out.fr HF8.out id id) (by have := HB7.out; omega) (by have := HB7.out; omega) HDz8.out rfl HO8.out.rd.1 HBP.out (own_addr HO8.out z (own_ne_dat HO8.out HDz8.out)) (by omega) hc7).mono ?_
            rintro e w9 ⟨rfl, hd9, hf9⟩
            rw [HQS.out] at hd9
            have HDz9 := hid hd9
            have HF9 := hid (HF8.out.then_ hf9 (fun i hi (e : i = z) => by omega))
            have hne7 := own_ne_dat HO8.out HDz8.out
            have hne5 := own_ne_dat HA8.out HDz8.out
            have HO9 := hid (HO8.out.fr hf9 (fun b hb (e : b = z) => hne7 (by rw [hb, e])))
            have HA9 := hid (HA8.out.fr hf9 (fun b hb (e : b = z) => hne5 (by rw [hb, e])))
            have HD9 := hid (HD8.out.fr hf9 (by omega))
            clear hd9 hf9 hne7 hne5 HD8 HDz8 HO8 HA8
            go_wp2_with fail
            go_loopw [8] (fun i w' => ∃ m : Nat, ∃ zs : List Int, m ≤ ps.length ∧ i = .int .i64 m ∧ zs.length = ps.length ∧ Own .u8 5 w' b5 (.slice A7 ps.length c7) zs ∧ Fr (fun i => (Value.slice A7 ps.length c7).ownBlock = some i) w9 w') (fun i _ => ps.length - (intOf i).toNat)
            case atStart => exact ⟨0, ps, by omega, rfl, rfl, HO9.out, Fr.refl _ _⟩
            case round =>
              obtain ⟨m, zs, hm, rfl, hzl, ho, hf⟩ := hrel
              by_cases hmp : m < ps.length
              · obtain ⟨gp, rfl, hgp, hlt⟩ : ∃ gp, A7 = some ⟨gp, 0, none⟩ ∧ b5 ≤ gp ∧ gp < wr.heap.size := by
                  obtain ⟨A8, c8, hv, _, hA8⟩ := ho.form
                  injection hv with h1 _ _
                  subst h1
                  cases A7 with
                  | none => obtain ⟨_, he, _⟩ := ho.rd.1 m (by omega); cases he
                  | some a7 =>
                    obtain ⟨gp, rfl, hx, hy⟩ := hA8 _ rfl
                    exact ⟨gp, rfl, hx, hy⟩
                have hst := own_set ho m (by omega) 7
                obtain ⟨_, he, _, hcm7⟩ := ho.rd.1 m (by omega)
                injection he with he
                subst he
                rw [add_plain, Nat.zero_add] at hcm7
                have hz7 := own_froz ho m
                have HST := hid hst
                have HFS := hid (hf.setCell (p := ⟨gp, m, none⟩) (.inl rfl) (.int .u8 7))
                clear hst ho hf
                go_wp2_with fail
                go_roundw
                case rel => exact ⟨m + 1, _, by omega, by go_num, by rw [List.length_set]; exact hzl, HST.out, HFS.out⟩
                case measure => simp [intOf]; omega
              · have hne7 := own_ne_dat HO9.out (.inl HDz9.out)
                have hne8 := own_ne_dat HO9.out (.inl HD9.out)
                have HDg10 := hid (HD9.out.fr hf hne8)
                have HDz10 := hid (HDz9.out.fr hf hne7)
                have HF10 := hid (HF9.out.then_ hf (fun i hi e => by have := (HO9.out.lt i e).1; have := HB5.out; have := HF5.out.size; omega))
                have HA10 := hid (HA9.out.fr hf (fun b hb e => by have := (HO9.out.lt b e).1; have := (HA5L.out b hb); have := HB5.out; omega))
                clear hne7 hne8 ho hf HO9 HA9 HD9 HDz9
                have hltz := HDz10.out.lt
                go_wp2_with fail
                refine (sum_calls g qs wr (HT.out.fr HF10.out id id) (by have := HB7.out; omega) (by have := HB7.out; omega) (.inl HDg10.out) (by omega)).mono ?_
                rintro e w11 ⟨⟨v11, rfl, ho, hf⟩, hd⟩
                have hne := own_ne_dat HA10.out (.inl HDg10.out)
                have HD11 := hid hd
                have HO11 := hid ho
                have HF11 := hid (HF10.out.then_ hf (fun i hi (e : i = g) => by omega))
                have HA11 := hid (HA10.out.fr hf (fun b hb (e : b = g) => hne (by rw [hb, e])))
                have HDz11 := hid (HDz10.out.fr hf (by omega))
                clear hd ho hf hne HA10 HDg10 HDz10
                go_wp2_with fail
                refine (blake_calls A5 _ c5 qs w11 (HT.out.fr HF11.out id id) rfl HA11.out.rd.1 (by rw [← HQS.out]; exact bytes_app HBA.out HBP.out) (by omega) hc5).mono ?_
                rintro e w12 ⟨v12, rfl, ho, hf⟩
                have HO12 := hid ho
                have HO11' := hid (HO11.out.fr hf (fun _ _ h => h))
                have HF12 := hid (HF11.out.then_ hf (fun _ _ h => h))
                have HA12 := hid (HA11.out.fr hf (fun _ _ h => h))
                have HD12 := hid (HD11.out.fr hf id)
                have HDz12 := hid (HDz11.out.fr hf id)
                clear ho hf HA11 HD11 HDz11 HO11
                go_wp2_with fail
                refine (same_sums v11 v12 _ _ qs w12 HO11'.out HO12.out).mono ?_
                rintro e w13 ⟨rfl, rfl⟩
                go_wp2_with fail
                refine (len_any g qs _ w12 rfl HD12.out).mono ?_
                rintro e w13 ⟨rfl, rfl⟩
                go_wp2_with fail
                go_roundw
                case rel =>
                  have hs : allOf pss (k + 1) = qs := by rw [allOf_succ _ _ (by rw [HN.out]; exact hkn), HALL.out, HPS.out, HQS.out]
                  rw [← hs] at HA12 hql HD12 HDz12 ⊢
                  exact ⟨k + 1, by omega, by go_num, HA12.out, hql, .inl HD12.out, .inl HDz12.out, HF12.out⟩
                case measure => simp [intOf]; omega
      · have hlt := HT.out.lt
        have HB7 := hid hlt
        have hltg := HDg.out.lt
        have hltz := HDz.out.lt
        clear hlt HA3
        have hbl := HBA.out
        have hNE := own_ne_dat HO.out HDg.out
        have hNZ := own_ne_dat HO.out HDz.out
        have HNE := hid hNE
        have HNZ := hid hNZ
        clear hNE hNZ hbl
        go_wp2_with fail
        refine (write_nil A3 _ c3 wr).mono ?_
        rintro e w5 ⟨rfl, rfl⟩
        go_wp2_with fail
        refine (sum_calls g all wr (HT.out.fr HF.out id id) (by have := HB7.out; omega) (by have := HB7.out; omega) HDg.out (by omega)).mono ?_
        rintro e w11 ⟨⟨v11, rfl, ho, hf⟩, hd⟩
        have HD11 := hid hd
        have HO11 := hid ho
        have HF11 := hid (HF.out.then_ hf (fun i hi (e : i = g) => by omega))
        have HA11 := hid (HO.out.fr hf (fun b hb (e : b = g) => HNE.out (by rw [hb, e])))
        have HDz11 := hid (HDz.out.fr hf (by omega))
        clear hd ho hf HO HDg HDz
        go_wp2_with fail
        refine (blake_calls A3 _ c3 all w11 (HT.out.fr HF11.out id id) rfl HA11.out.rd.1 HBA.out (by omega) hc3).mono ?_
        rintro e w12 ⟨v12, rfl, ho, hf⟩
        have HO12 := hid ho
        have HO11' := hid (HO11.out.fr hf (fun _ _ h => h))
        have HF12 := hid (HF11.out.then_ hf (fun _ _ h => h))
        have HA12 := hid (HA11.out.fr hf (fun _ _ h => h))
        have HD12 := hid (HD11.out.fr hf id)
        have HDz12 := hid (HDz11.out.fr hf id)
        clear ho hf HA11 HD11 HDz11 HO11
        go_wp2_with fail
        refine (same_sums v11 v12 _ _ all w12 HO11'.out HO12.out).mono ?_
        rintro e w13 ⟨rfl, rfl⟩
        clear HO11' HO12
        go_wp2_with fail
        refine (sum_calls z all w12 (HT.out.fr HF12.out id id) (by have := HB7.out; omega) (by have := HB7.out; omega) HDz12.out (by omega)).mono ?_
        rintro e w14 ⟨⟨v14, rfl, ho, hf⟩, hd⟩
        have HO14 := hid ho
        have HF14 := hid (HF12.out.then_ hf (fun i hi (e : i = z) => by omega))
        have HA14 := hid (HA12.out.fr hf (fun b hb (e : b = z) => HNZ.out (by rw [hb, e])))
        have HD14 := hid (HD12.out.fr hf (by omega))
        clear hd ho hf HA12 HD12 HDz12
        go_wp2_with fail
        refine (blake_calls A3 _ c3 all w14 (HT.out.fr HF14.out id id) rfl HA14.out.rd.1 HBA.out (by omega) hc3).mono ?_
        rintro e w15 ⟨v15, rfl, ho, hf⟩
        have HO15 := hid ho
        have HO14' := hid (HO14.out.fr hf (fun _ _ h => h))
        have HF15 := hid (HF14.out.then_ hf (fun _ _ h => h))
        have HD15 := hid (HD14.out.fr hf id)
        clear ho hf HA14 HD14 HO14
        go_wp2_with fail
        refine (same_sums v14 v15 _ _ all w15 HO14'.out HO15.out).mono ?_
        rintro e w16 ⟨rfl, rfl⟩
        clear HO14' HO15
        go_wp2_with fail
        refine (sum_calls g all w15 (HT.out.fr HF15.out id id) (by have := HB7.out; omega) (by have := HB7.out; omega) (.inl HD15.out) (by omega)).mono ?_
        rintro e w17 ⟨⟨v17, rfl, ho, hf⟩, hd⟩
        have HD17 := hid hd
        have HO17 := hid ho
        have HF17 := hid (HF15.out.then_ hf (fun i hi (e : i = g) => by omega))
        clear hd ho hf HD15
        go_wp2_with fail
        refine (sum_calls g all w17 (HT.out.fr HF17.out id id) (by have := HB7.out; omega) (by have := HB7.out; omega) (.inl HD17.out) (by omega)).mono ?_
        rintro e w18 ⟨⟨v18, rfl, ho, hf⟩, hd⟩
        have hne := own_ne_dat HO17.out (.inl HD17.out)
        have HO18 := hid ho
        have HO17' := hid (HO17.out.fr hf (fun b hb (e : b = g) => hne (by rw [hb, e])))
        have HF18 := hid (HF17.out.then_ hf (fun i hi (e : i = g) => by omega))
        clear hd ho hf HD17 HO17 hne
        go_wp2_with fail
        refine (same_sums v17 v18 _ _ all w18 HO17'.out HO18.out).mono ?_
        rintro e w19 ⟨rfl, rfl⟩
        go_wp2_with fail
        refine (sum_nil w18).mono ?_
        rintro e w19 ⟨rfl, rfl⟩
        go_wp2_with fail
        refine (len_nil w18).mono ?_
        rintro e w19 ⟨rfl, rfl⟩
        go_wp2_with fail
        go_ret
        exact ⟨rfl, HF18.out⟩
end Go.Proofs.YtcbogkpgkdijaaaDoor.BlaG
