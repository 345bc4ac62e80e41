/- Layer blake: the digest of all at once is the document's. -/
import Derived.Test.YtcbogkpgkdijaaaDoorBlaG
import Derived.Test.YtcbogkpgkdijaaaDoorBlaH
set_option linter.unusedVariables false
set_option linter.unusedSimpArgs false
namespace Go.Proofs.YtcbogkpgkdijaaaDoor.BlaS
open Go.RowKit Go.Proofs.YtcbogkpgkdijaaaDoor.Mem Go.Proofs.YtcbogkpgkdijaaaDoor.Num Go.Proofs.YtcbogkpgkdijaaaDoor.BitsA Go.Proofs.YtcbogkpgkdijaaaDoor.App Go.Proofs.YtcbogkpgkdijaaaDoor.BlaP Go.Proofs.YtcbogkpgkdijaaaDoor.BlaB Go.Proofs.YtcbogkpgkdijaaaDoor.BlaC Go.Proofs.YtcbogkpgkdijaaaDoor.BlaD Go.Proofs.YtcbogkpgkdijaaaDoor.BlaE Go.Proofs.YtcbogkpgkdijaaaDoor.BlaG
theorem sums_calls (A : Option Addr) (n c : Nat) (xs : List Int) (w : World) (ht : Tabs w) (hn : xs.length = n) (hr : RdI .u8 w A xs) (hb : Bytes xs) (hc : n ≤ c) (hl : n ≤ 140737488351232) :
    Calls Tryd.prog 7 #[.slice A n c] w fun e w' => e = .returned (.bool true) ∧ Fr (fun _ => False) w w' := by
  have HT := hid ht
  have HN := hid hn
  have HR := hid hr
  have HB := hid hb
  clear ht hn hr hb
  go_enter Tryd.func7, Tryd.ntmps7
  go_wp2_with fail
  refine (awake_calls w HT.out).mono ?_
  rintro e w1 ⟨rfl, hf⟩
  have HF1 := hid hf
  clear hf
  by_cases h4 : 800 < n
  · go_wp2_with fail
    go_ret
    exact ⟨rfl, HF1.out⟩
  · go_wp2_with fail
    refine (blake_calls A n c xs w1 (HT.out.fr HF1.out id id) HN.out (HR.out.fr0 HF1.out) HB.out (by omega) hc).mono ?_
    rintro e w2 ⟨v2, rfl, ho, hf⟩
    have HO2 := hid ho
    have HF2 := hid (HF1.out.then_ hf (fun _ _ h => h))
    clear ho hf
    go_wp2_with fail
    refine (BlaH.ref_sum A n c xs w2 HN.out (HR.out.fr0 HF2.out) HB.out (by omega)).mono ?_
    rintro e w3 ⟨v3, rfl, ho, hf⟩
    have HO3 := hid ho
    have HO2' := hid (HO2.out.fr hf (fun _ _ h => h))
    have HF3 := hid (HF2.out.then_ hf (fun _ _ h => h))
    clear ho hf HO2
    go_wp2_with fail
    refine (same_sums v2 v3 _ _ xs w3 HO2'.out HO3.out).mono ?_
    rintro e w4 ⟨rfl, rfl⟩
    go_wp2_with fail
    go_ret
    exact ⟨rfl, HF3.out⟩
end Go.Proofs.YtcbogkpgkdijaaaDoor.BlaS
