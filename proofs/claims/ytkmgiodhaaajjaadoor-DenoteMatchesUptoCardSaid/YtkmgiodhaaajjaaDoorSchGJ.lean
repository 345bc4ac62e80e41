/- Layer schema: a node with the fields of its kind alone. Layer schema: what is wrong with keys (a map of the keys that were seen). Layer schema: what is wrong with a node; whether a schema is well-formed. Layer schema: whether a schema is well-formed; whether two are the same. -/
import Derived.Test.YtkmgiodhaaajjaaDoorSchF
import Derived.Test.YtkmgiodhaaajjaaDoorItemS
import Derived.Laws.ResultCell
import Derived.RegionTactic
import Derived.ChangeAlike
import Derived.Test.YtkmgiodhaaajjaaDoorSchE
import Derived.Test.YtkmgiodhaaajjaaDoorUtfB
import Derived.Test.YtkmgiodhaaajjaaDoorRange
import Derived.Maps.OwnOps
import Derived.Maps.OwnSet
import Derived.Maps.Views
set_option linter.unusedVariables false
set_option linter.unusedSimpArgs false
namespace Go.Proofs.YtkmgiodhaaajjaaDoor.SchG
open Go.IntWalk Go.RowKit Go.Proofs.YtkmgiodhaaajjaaDoor.Mem Go.Proofs.YtkmgiodhaaajjaaDoor.App Go.Proofs.YtkmgiodhaaajjaaDoor.FloatB Go.Proofs.YtkmgiodhaaajjaaDoor.ItemP Go.Proofs.YtkmgiodhaaajjaaDoor.ItemM Go.Proofs.YtkmgiodhaaajjaaDoor.ItemS Go.Proofs.YtkmgiodhaaajjaaDoor.SchP Go.Proofs.YtkmgiodhaaajjaaDoor.SchM Go.Proofs.YtkmgiodhaaajjaaDoor.SchA Go.Proofs.YtkmgiodhaaajjaaDoor.SchC Go.Proofs.YtkmgiodhaaajjaaDoor.SchF

theorem results_row_tmp {P : Program} {fn : Func} {p u : Tmp} {ty : TypeId} (h : fn.results = #[.cell p ty, .tmp u]) (tmps : Array Value) (w : World) (g : Nat) (t : TypeId) (cs : Array Value) (fr : Nat × Nat) (d : TypeDesc)
    (hp : tmps.getD p undef = .pointer (some ⟨g, 0, none⟩)) (hg : w.heap[g]? = some (.cells cs t fr))
    (hu : P.underlying ty = some d) (hd : (match d with | .struct _ | .array _ _ => true | _ => false) = true) (hi : (P.info? ty).map (·.size) = some cs.size) :
    (results fn tmps).run P w = .ok (.tuple #[.agg cs, tmps.getD u undef]) w := by
  rw [results_cell_tmp h, hp]
  simp [asAddr, run_loadVar_row w g t ty cs fr d hg hu hd hi]
theorem sizeNode : (Tryd.prog.info? 54).map (·.size) = some 9 := by kernel_rfl
/-- A node of which some parts are left out. -/
theorem NdR.sub {w : World} {h : Nat} {n : Nod} {Av Al Af : Option Addr} {cv cl cf : Nat} (H : NdR w h n Av cv Al cl Af cf) (m : Nod) {A1 A2 A3 : Option Addr} {c1 c2 c3 : Nat} (hk : m.k = n.k) (hlo : m.lo = n.lo ∨ m.lo = 0) (hhi : m.hi = n.hi ∨ m.hi = 0)
    (hv : (m.v = n.v ∧ A1 = Av ∧ c1 = cv) ∨ (m.v = noIt ∧ A1 = none ∧ c1 = 0)) (hl : (m.l = n.l ∧ A2 = Al ∧ c2 = cl) ∨ (m.l = [] ∧ A2 = none ∧ c2 = 0)) (hf : (m.f = n.f ∧ A3 = Af ∧ c3 = cf) ∨ (m.f = [] ∧ A3 = none ∧ c3 = 0)) : NdR w h m A1 c1 A2 c2 A3 c3 := by
  refine ⟨H.hh, ?_, ?_, ?_, ?_, ?_, ?_, ?_, ?_, by rw [hk]; exact H.kr, ?_, ?_, ?_⟩
  · rcases hv with ⟨e, rfl, rfl⟩ | ⟨e, rfl, rfl⟩
    · rw [e]; exact H.v
    · rw [e]; exact noIt_at w h
  · rcases hl with ⟨e, rfl, rfl⟩ | ⟨e, rfl, rfl⟩
    · rw [e]; exact H.l
    · rw [e]; exact rdI_nil _ _ _
  · rcases hf with ⟨e, rfl, rfl⟩ | ⟨e, rfl, rfl⟩
    · rw [e]; exact H.f
    · rw [e]; exact RdF.nil _ _
  · rcases hl with ⟨e, rfl, rfl⟩ | ⟨e, rfl, rfl⟩
    · rw [e]; exact H.lc
    · rw [e]; simp
  · rcases hf with ⟨e, rfl, rfl⟩ | ⟨e, rfl, rfl⟩
    · rw [e]; exact H.fc
    · rw [e]; simp
  · rcases hl with ⟨e, _⟩ | ⟨e, _⟩
    · rw [e]; exact H.lm
    · rw [e]; simp
  · rcases hf with ⟨e, _⟩ | ⟨e, _⟩
    · rw [e]; exact H.fm
    · rw [e]; simp
  · rcases hv with ⟨e, _⟩ | ⟨e, _⟩
    · rw [e]; exact H.vm
    · rw [e]; decide
  · rcases hlo with e | e
    · rw [e]; exact H.lor
    · rw [e]; omega
  · rcases hhi with e | e
    · rw [e]; exact H.hir
    · rw [e]; omega
  · rcases hl with ⟨e, _⟩ | ⟨e, _⟩
    · rw [e]; exact H.ln
    · rw [e]; simp
theorem blk_2 (w : World) (o : Obj) (cs : Array Value) (t : TypeId) (o' : Obj) : Blk (((w.alloc o).alloc (.cells cs t)).alloc o') (w.heap.size + 1) t cs := by
  have := (Blk.new (w.alloc o) t cs).alloc o'
  rwa [World.size_alloc] at this
theorem fr_3 (w : World) (a b c : Obj) : Fr (fun _ => False) w (((w.alloc a).alloc b).alloc c) := (((Fr.refl _ w).alloc _).alloc _).alloc _
/-- What bare hands back. -/
def Bare (w : World) (h : Nat) (n : Nod) (e : Ending) (w' : World) : Prop :=
  ∃ (Av : Option Addr) (cv : Nat) (Al : Option Addr) (cl : Nat) (Af : Option Addr) (cf : Nat), e = .returned (.tuple #[.agg (ndC n.bare Av cv Al cl Af cf), .bool n.ok]) ∧ NdR w' h n.bare Av cv Al cl Af cf ∧ Fr (fun _ => False) w w'
theorem bare_mk {w w' : World} {h : Nat} {n m : Nod} {b : Bool} {e : Ending} {Av Al Af : Option Addr} {cv cl cf : Nat} (hm : n.bare = m) (hb : n.ok = b) (he : e = .returned (.tuple #[.agg (ndC m Av cv Al cl Af cf), .bool b])) (hr : NdR w' h m Av cv Al cl Af cf) (hf : Fr (fun _ => False) w w') : Bare w h n e w' := by
  subst hm hb
  exact ⟨Av, cv, Al, cl, Af, cf, he, hr, hf⟩

set_option maxRecDepth 100000 in
set_option maxHeartbeats 4000000 in
theorem bare_k8 (k lo hi : Int) (v : It) (l : List Int) (f : List Fld) (hk : k = 8) (h : Nat) (Av Al Af : Option Addr) (cv cl cf : Nat) (w : World) (hD : Dbl w) (H : NdR w h ⟨k, lo, hi, v, l, f⟩ Av cv Al cl Af cf) :
    Calls Tryd.prog 100 #[.agg (ndC ⟨k, lo, hi, v, l, f⟩ Av cv Al cl Af cf)] w fun e w' => Bare w h ⟨k, lo, hi, v, l, f⟩ e w' := by
  have HR := hid H
  have HDD := hid hD
  rw [ndC_eq]
  simp only
  obtain ⟨x3, hx3⟩ : ∃ x, v.k = x := ⟨_, rfl⟩
  obtain ⟨x4, hx4⟩ : ∃ x, v.n = x := ⟨_, rfl⟩
  obtain ⟨x5, hx5⟩ : ∃ x, v.s = x := ⟨_, rfl⟩
  obtain ⟨x6, hx6⟩ : ∃ x, v.l.length = x := ⟨_, rfl⟩
  obtain ⟨x7, hx7⟩ : ∃ x, l.length = x := ⟨_, rfl⟩
  obtain ⟨x8, hx8⟩ : ∃ x, f.length = x := ⟨_, rfl⟩
  have HX3 := hid hx3
  have HX4 := hid hx4
  have HX5 := hid hx5
  have HX6 := hid hx6
  have HX7 := hid hx7
  have HX8 := hid hx8
  rw [hx3, hx4, hx5, hx6, hx7, hx8]
  clear hx3 hx4 hx5 hx6 hx7 hx8 H hD
  obtain ⟨b0, hb0⟩ : ∃ b, ((x7 : Int) == 0) = b := ⟨_, rfl⟩
  have HB0 := hid (show decide (l.length = 0) = b0 by rw [HX7.out, ← hb0, Bool.eq_iff_iff]; simp)

  have HBARE := hid (show (⟨k, lo, hi, v, l, f⟩ : Nod).bare = ⟨8, 0, 0, noIt, [], f⟩ by subst hk; simp [Nod.bare])
  have HOK := hid (show (⟨k, lo, hi, v, l, f⟩ : Nod).ok = b0 by subst hk; rw [← HB0.out]; simp [Nod.ok])
  subst hk
  go_enter Tryd.func100, Tryd.ntmps100
  go_wp2_with fail
  all_goals
    refine bodyPost_ret (results_row_tmp rfl _ _ (w.heap.size + 1) 54 _ (0, 0) _ rfl (by first | exact blk_2 _ _ _ _ _ | exact (blk_2 _ _ _ _ _).drew) Tryd.underlying54 rfl (by exact sizeNode)) rfl ?_
    refine bare_mk HBARE.out HOK.out ?_ ((NdR.sub HR.out ⟨8, 0, 0, noIt, [], f⟩ rfl (.inr rfl) (.inr rfl) (.inr ⟨rfl, rfl, rfl⟩) (.inr ⟨rfl, rfl, rfl⟩) (.inl ⟨rfl, rfl, rfl⟩)).fr0 (by first | exact fr_3 _ _ _ _ | exact (fr_3 _ _ _ _).drew)) (by first | exact fr_3 _ _ _ _ | exact (fr_3 _ _ _ _).drew)
    rw [ndC_eq]
    simp only [HX3.out, HX4.out, HX5.out, HX6.out, HX7.out, HX8.out, noIt, It.k, It.n, It.s, It.l, List.length_nil]
    rfl

set_option maxRecDepth 100000 in
set_option maxHeartbeats 4000000 in
theorem bare_k7 (k lo hi : Int) (v : It) (l : List Int) (f : List Fld) (hk : k = 7) (h : Nat) (Av Al Af : Option Addr) (cv cl cf : Nat) (w : World) (hD : Dbl w) (H : NdR w h ⟨k, lo, hi, v, l, f⟩ Av cv Al cl Af cf) :
    Calls Tryd.prog 100 #[.agg (ndC ⟨k, lo, hi, v, l, f⟩ Av cv Al cl Af cf)] w fun e w' => Bare w h ⟨k, lo, hi, v, l, f⟩ e w' := by
  have HR := hid H
  have HDD := hid hD
  rw [ndC_eq]
  simp only
  obtain ⟨x3, hx3⟩ : ∃ x, v.k = x := ⟨_, rfl⟩
  obtain ⟨x4, hx4⟩ : ∃ x, v.n = x := ⟨_, rfl⟩
  obtain ⟨x5, hx5⟩ : ∃ x, v.s = x := ⟨_, rfl⟩
  obtain ⟨x6, hx6⟩ : ∃ x, v.l.length = x := ⟨_, rfl⟩
  obtain ⟨x7, hx7⟩ : ∃ x, l.length = x := ⟨_, rfl⟩
  obtain ⟨x8, hx8⟩ : ∃ x, f.length = x := ⟨_, rfl⟩
  have HX3 := hid hx3
  have HX4 := hid hx4
  have HX5 := hid hx5
  have HX6 := hid hx6
  have HX7 := hid hx7
  have HX8 := hid hx8
  rw [hx3, hx4, hx5, hx6, hx7, hx8]
  clear hx3 hx4 hx5 hx6 hx7 hx8 H hD
  obtain ⟨b0, hb0⟩ : ∃ b, ((x7 : Int) == 0) = b := ⟨_, rfl⟩
  have HB0 := hid (show decide (l.length = 0) = b0 by rw [HX7.out, ← hb0, Bool.eq_iff_iff]; simp)

  have HBARE := hid (show (⟨k, lo, hi, v, l, f⟩ : Nod).bare = ⟨7, 0, 0, noIt, l, []⟩ by subst hk; simp [Nod.bare])
  have HOK := hid (show (⟨k, lo, hi, v, l, f⟩ : Nod).ok = true by subst hk; simp [Nod.ok])
  subst hk
  go_enter Tryd.func100, Tryd.ntmps100
  go_wp2_with fail
  all_goals
    refine bodyPost_ret (results_row_tmp rfl _ _ (w.heap.size + 1) 54 _ (0, 0) _ rfl (by first | exact blk_2 _ _ _ _ _ | exact (blk_2 _ _ _ _ _).drew) Tryd.underlying54 rfl (by exact sizeNode)) rfl ?_
    refine bare_mk HBARE.out HOK.out ?_ ((NdR.sub HR.out ⟨7, 0, 0, noIt, l, []⟩ rfl (.inr rfl) (.inr rfl) (.inr ⟨rfl, rfl, rfl⟩) (.inl ⟨rfl, rfl, rfl⟩) (.inr ⟨rfl, rfl, rfl⟩)).fr0 (by first | exact fr_3 _ _ _ _ | exact (fr_3 _ _ _ _).drew)) (by first | exact fr_3 _ _ _ _ | exact (fr_3 _ _ _ _).drew)
    rw [ndC_eq]
    simp only [HX3.out, HX4.out, HX5.out, HX6.out, HX7.out, HX8.out, noIt, It.k, It.n, It.s, It.l, List.length_nil]
    rfl

set_option maxRecDepth 100000 in
set_option maxHeartbeats 4000000 in
theorem bare_k10 (k lo hi : Int) (v : It) (l : List Int) (f : List Fld) (hk : k = 10) (h : Nat) (Av Al Af : Option Addr) (cv cl cf : Nat) (w : World) (hD : Dbl w) (H : NdR w h ⟨k, lo, hi, v, l, f⟩ Av cv Al cl Af cf) :
    Calls Tryd.prog 100 #[.agg (ndC ⟨k, lo, hi, v, l, f⟩ Av cv Al cl Af cf)] w fun e w' => Bare w h ⟨k, lo, hi, v, l, f⟩ e w' := by
  have HR := hid H
  have HDD := hid hD
  rw [ndC_eq]
  simp only
  obtain ⟨x3, hx3⟩ : ∃ x, v.k = x := ⟨_, rfl⟩
  obtain ⟨x4, hx4⟩ : ∃ x, v.n = x := ⟨_, rfl⟩
  obtain ⟨x5, hx5⟩ : ∃ x, v.s = x := ⟨_, rfl⟩
  obtain ⟨x6, hx6⟩ : ∃ x, v.l.length = x := ⟨_, rfl⟩
  obtain ⟨x7, hx7⟩ : ∃ x, l.length = x := ⟨_, rfl⟩
  obtain ⟨x8, hx8⟩ : ∃ x, f.length = x := ⟨_, rfl⟩
  have HX3 := hid hx3
  have HX4 := hid hx4
  have HX5 := hid hx5
  have HX6 := hid hx6
  have HX7 := hid hx7
  have HX8 := hid hx8
  rw [hx3, hx4, hx5, hx6, hx7, hx8]
  clear hx3 hx4 hx5 hx6 hx7 hx8 H hD
  obtain ⟨b0, hb0⟩ : ∃ b, ((x7 : Int) == 0) = b := ⟨_, rfl⟩
  have HB0 := hid (show decide (l.length = 0) = b0 by rw [HX7.out, ← hb0, Bool.eq_iff_iff]; simp)
  obtain ⟨b1, hb1⟩ : ∃ b, decide (0 < x7) = b := ⟨_, rfl⟩
  have HB1' := hid (show decide (0 < l.length) = b1 by rw [HX7.out, ← hb1])
  have HBARE := hid (show (⟨k, lo, hi, v, l, f⟩ : Nod).bare = ⟨10, 0, 0, noIt, l, []⟩ by subst hk; simp [Nod.bare])
  have HOK := hid (show (⟨k, lo, hi, v, l, f⟩ : Nod).ok = b1 by subst hk; rw [← HB1'.out]; simp [Nod.ok])
  subst hk
  go_enter Tryd.func100, Tryd.ntmps100
  go_wp2_with fail
  all_goals
    refine bodyPost_ret (results_row_tmp rfl _ _ (w.heap.size + 1) 54 _ (0, 0) _ rfl (by first | exact blk_2 _ _ _ _ _ | exact (blk_2 _ _ _ _ _).drew) Tryd.underlying54 rfl (by exact sizeNode)) rfl ?_
    refine bare_mk HBARE.out HOK.out ?_ ((NdR.sub HR.out ⟨10, 0, 0, noIt, l, []⟩ rfl (.inr rfl) (.inr rfl) (.inr ⟨rfl, rfl, rfl⟩) (.inl ⟨rfl, rfl, rfl⟩) (.inr ⟨rfl, rfl, rfl⟩)).fr0 (by first | exact fr_3 _ _ _ _ | exact (fr_3 _ _ _ _).drew)) (by first | exact fr_3 _ _ _ _ | exact (fr_3 _ _ _ _).drew)
    rw [ndC_eq]
    simp only [HX3.out, HX4.out, HX5.out, HX6.out, HX7.out, HX8.out, noIt, It.k, It.n, It.s, It.l, List.length_nil]
    rfl

set_option maxRecDepth 100000 in
set_option maxHeartbeats 4000000 in
theorem bare_k9 (k lo hi : Int) (v : It) (l : List Int) (f : List Fld) (hk : k = 9) (h : Nat) (Av Al Af : Option Addr) (cv cl cf : Nat) (w : World) (hD : Dbl w) (H : NdR w h ⟨k, lo, hi, v, l, f⟩ Av cv Al cl Af cf) :
    Calls Tryd.prog 100 #[.agg (ndC ⟨k, lo, hi, v, l, f⟩ Av cv Al cl Af cf)] w fun e w' => Bare w h ⟨k, lo, hi, v, l, f⟩ e w' := by
  have HR := hid H
  have HDD := hid hD
  rw [ndC_eq]
  simp only
  obtain ⟨x3, hx3⟩ : ∃ x, v.k = x := ⟨_, rfl⟩
  obtain ⟨x4, hx4⟩ : ∃ x, v.n = x := ⟨_, rfl⟩
  obtain ⟨x5, hx5⟩ : ∃ x, v.s = x := ⟨_, rfl⟩
  obtain ⟨x6, hx6⟩ : ∃ x, v.l.length = x := ⟨_, rfl⟩
  obtain ⟨x7, hx7⟩ : ∃ x, l.length = x := ⟨_, rfl⟩
  obtain ⟨x8, hx8⟩ : ∃ x, f.length = x := ⟨_, rfl⟩
  have HX3 := hid hx3
  have HX4 := hid hx4
  have HX5 := hid hx5
  have HX6 := hid hx6
  have HX7 := hid hx7
  have HX8 := hid hx8
  rw [hx3, hx4, hx5, hx6, hx7, hx8]
  clear hx3 hx4 hx5 hx6 hx7 hx8 H hD
  obtain ⟨b0, hb0⟩ : ∃ b, ((x7 : Int) == 0) = b := ⟨_, rfl⟩
  have HB0 := hid (show decide (l.length = 0) = b0 by rw [HX7.out, ← hb0, Bool.eq_iff_iff]; simp)
  obtain ⟨b1, hb1⟩ : ∃ b, ((x7 : Int) == 1) = b := ⟨_, rfl⟩
  have HB1' := hid (show decide (l.length = 1) = b1 by rw [HX7.out, ← hb1, Bool.eq_iff_iff]; simp <;> omega)
  have HBARE := hid (show (⟨k, lo, hi, v, l, f⟩ : Nod).bare = ⟨9, lo, 0, noIt, l, []⟩ by subst hk; simp [Nod.bare])
  have HOK := hid (show (⟨k, lo, hi, v, l, f⟩ : Nod).ok = b1 by subst hk; rw [← HB1'.out]; simp [Nod.ok])
  subst hk
  go_enter Tryd.func100, Tryd.ntmps100
  go_wp2_with fail
  go_region
  all_goals
    go_wp2_with fail
    refine bodyPost_ret (results_row_tmp rfl _ _ (w.heap.size + 1) 54 _ (0, 0) _ rfl (by first | exact blk_2 _ _ _ _ _ | exact (blk_2 _ _ _ _ _).drew) Tryd.underlying54 rfl (by exact sizeNode)) rfl ?_
    refine bare_mk HBARE.out HOK.out ?_ ((NdR.sub HR.out ⟨9, lo, 0, noIt, l, []⟩ rfl (.inl rfl) (.inr rfl) (.inr ⟨rfl, rfl, rfl⟩) (.inl ⟨rfl, rfl, rfl⟩) (.inr ⟨rfl, rfl, rfl⟩)).fr0 (by first | exact fr_3 _ _ _ _ | exact (fr_3 _ _ _ _).drew)) (by first | exact fr_3 _ _ _ _ | exact (fr_3 _ _ _ _).drew)
    rw [ndC_eq]
    simp only [HX3.out, HX4.out, HX5.out, HX6.out, HX7.out, HX8.out, noIt, It.k, It.n, It.s, It.l, List.length_nil]
    rfl

set_option maxRecDepth 100000 in
set_option maxHeartbeats 4000000 in
theorem bare_k6 (k lo hi : Int) (v : It) (l : List Int) (f : List Fld) (hk : k = 6) (h : Nat) (Av Al Af : Option Addr) (cv cl cf : Nat) (w : World) (hD : Dbl w) (H : NdR w h ⟨k, lo, hi, v, l, f⟩ Av cv Al cl Af cf) :
    Calls Tryd.prog 100 #[.agg (ndC ⟨k, lo, hi, v, l, f⟩ Av cv Al cl Af cf)] w fun e w' => Bare w h ⟨k, lo, hi, v, l, f⟩ e w' := by
  have HR := hid H
  have HDD := hid hD
  rw [ndC_eq]
  simp only
  obtain ⟨x3, hx3⟩ : ∃ x, v.k = x := ⟨_, rfl⟩
  obtain ⟨x4, hx4⟩ : ∃ x, v.n = x := ⟨_, rfl⟩
  obtain ⟨x5, hx5⟩ : ∃ x, v.s = x := ⟨_, rfl⟩
  obtain ⟨x6, hx6⟩ : ∃ x, v.l.length = x := ⟨_, rfl⟩
  obtain ⟨x7, hx7⟩ : ∃ x, l.length = x := ⟨_, rfl⟩
  obtain ⟨x8, hx8⟩ : ∃ x, f.length = x := ⟨_, rfl⟩
  have HX3 := hid hx3
  have HX4 := hid hx4
  have HX5 := hid hx5
  have HX6 := hid hx6
  have HX7 := hid hx7
  have HX8 := hid hx8
  rw [hx3, hx4, hx5, hx6, hx7, hx8]
  clear hx3 hx4 hx5 hx6 hx7 hx8 H hD
  obtain ⟨b0, hb0⟩ : ∃ b, ((x7 : Int) == 0) = b := ⟨_, rfl⟩
  have HB0 := hid (show decide (l.length = 0) = b0 by rw [HX7.out, ← hb0, Bool.eq_iff_iff]; simp)
  obtain ⟨b1, hb1⟩ : ∃ b, ((x7 : Int) == 1) = b := ⟨_, rfl⟩
  have HB1' := hid (show decide (l.length = 1) = b1 by rw [HX7.out, ← hb1, Bool.eq_iff_iff]; simp <;> omega)
  have HBARE := hid (show (⟨k, lo, hi, v, l, f⟩ : Nod).bare = ⟨6, lo, hi, noIt, l, []⟩ by subst hk; simp [Nod.bare])
  have HOK := hid (show (⟨k, lo, hi, v, l, f⟩ : Nod).ok = b1 by subst hk; rw [← HB1'.out]; simp [Nod.ok])
  subst hk
  go_enter Tryd.func100, Tryd.ntmps100
  go_wp2_with fail
  go_region
  all_goals
    go_wp2_with fail
    refine bodyPost_ret (results_row_tmp rfl _ _ (w.heap.size + 1) 54 _ (0, 0) _ rfl (by first | exact blk_2 _ _ _ _ _ | exact (blk_2 _ _ _ _ _).drew) Tryd.underlying54 rfl (by exact sizeNode)) rfl ?_
    refine bare_mk HBARE.out HOK.out ?_ ((NdR.sub HR.out ⟨6, lo, hi, noIt, l, []⟩ rfl (.inl rfl) (.inl rfl) (.inr ⟨rfl, rfl, rfl⟩) (.inl ⟨rfl, rfl, rfl⟩) (.inr ⟨rfl, rfl, rfl⟩)).fr0 (by first | exact fr_3 _ _ _ _ | exact (fr_3 _ _ _ _).drew)) (by first | exact fr_3 _ _ _ _ | exact (fr_3 _ _ _ _).drew)
    rw [ndC_eq]
    simp only [HX3.out, HX4.out, HX5.out, HX6.out, HX7.out, HX8.out, noIt, It.k, It.n, It.s, It.l, List.length_nil]
    rfl

set_option maxRecDepth 100000 in
set_option maxHeartbeats 4000000 in
theorem bare_k1 (k lo hi : Int) (v : It) (l : List Int) (f : List Fld) (hk : k = 1) (h : Nat) (Av Al Af : Option Addr) (cv cl cf : Nat) (w : World) (hD : Dbl w) (H : NdR w h ⟨k, lo, hi, v, l, f⟩ Av cv Al cl Af cf) :
    Calls Tryd.prog 100 #[.agg (ndC ⟨k, lo, hi, v, l, f⟩ Av cv Al cl Af cf)] w fun e w' => Bare w h ⟨k, lo, hi, v, l, f⟩ e w' := by
  have HR := hid H
  have HDD := hid hD
  rw [ndC_eq]
  simp only
  obtain ⟨x3, hx3⟩ : ∃ x, v.k = x := ⟨_, rfl⟩
  obtain ⟨x4, hx4⟩ : ∃ x, v.n = x := ⟨_, rfl⟩
  obtain ⟨x5, hx5⟩ : ∃ x, v.s = x := ⟨_, rfl⟩
  obtain ⟨x6, hx6⟩ : ∃ x, v.l.length = x := ⟨_, rfl⟩
  obtain ⟨x7, hx7⟩ : ∃ x, l.length = x := ⟨_, rfl⟩
  obtain ⟨x8, hx8⟩ : ∃ x, f.length = x := ⟨_, rfl⟩
  have HX3 := hid hx3
  have HX4 := hid hx4
  have HX5 := hid hx5
  have HX6 := hid hx6
  have HX7 := hid hx7
  have HX8 := hid hx8
  rw [hx3, hx4, hx5, hx6, hx7, hx8]
  clear hx3 hx4 hx5 hx6 hx7 hx8 H hD
  obtain ⟨b0, hb0⟩ : ∃ b, ((x7 : Int) == 0) = b := ⟨_, rfl⟩
  have HB0 := hid (show decide (l.length = 0) = b0 by rw [HX7.out, ← hb0, Bool.eq_iff_iff]; simp)

  have HBARE := hid (show (⟨k, lo, hi, v, l, f⟩ : Nod).bare = ⟨1, lo, hi, noIt, [], []⟩ by subst hk; simp [Nod.bare])
  have HOK := hid (show (⟨k, lo, hi, v, l, f⟩ : Nod).ok = b0 by subst hk; rw [← HB0.out]; simp [Nod.ok])
  subst hk
  go_enter Tryd.func100, Tryd.ntmps100
  go_wp2_with fail
  go_region
  all_goals
    go_wp2_with fail
    refine bodyPost_ret (results_row_tmp rfl _ _ (w.heap.size + 1) 54 _ (0, 0) _ rfl (by first | exact blk_2 _ _ _ _ _ | exact (blk_2 _ _ _ _ _).drew) Tryd.underlying54 rfl (by exact sizeNode)) rfl ?_
    refine bare_mk HBARE.out HOK.out ?_ ((NdR.sub HR.out ⟨1, lo, hi, noIt, [], []⟩ rfl (.inl rfl) (.inl rfl) (.inr ⟨rfl, rfl, rfl⟩) (.inr ⟨rfl, rfl, rfl⟩) (.inr ⟨rfl, rfl, rfl⟩)).fr0 (by first | exact fr_3 _ _ _ _ | exact (fr_3 _ _ _ _).drew)) (by first | exact fr_3 _ _ _ _ | exact (fr_3 _ _ _ _).drew)
    rw [ndC_eq]
    simp only [HX3.out, HX4.out, HX5.out, HX6.out, HX7.out, HX8.out, noIt, It.k, It.n, It.s, It.l, List.length_nil]
    rfl

set_option maxRecDepth 100000 in
set_option maxHeartbeats 4000000 in
theorem bare_k2 (k lo hi : Int) (v : It) (l : List Int) (f : List Fld) (hk : k = 2) (h : Nat) (Av Al Af : Option Addr) (cv cl cf : Nat) (w : World) (hD : Dbl w) (H : NdR w h ⟨k, lo, hi, v, l, f⟩ Av cv Al cl Af cf) :
    Calls Tryd.prog 100 #[.agg (ndC ⟨k, lo, hi, v, l, f⟩ Av cv Al cl Af cf)] w fun e w' => Bare w h ⟨k, lo, hi, v, l, f⟩ e w' := by
  have HR := hid H
  have HDD := hid hD
  rw [ndC_eq]
  simp only
  obtain ⟨x3, hx3⟩ : ∃ x, v.k = x := ⟨_, rfl⟩
  obtain ⟨x4, hx4⟩ : ∃ x, v.n = x := ⟨_, rfl⟩
  obtain ⟨x5, hx5⟩ : ∃ x, v.s = x := ⟨_, rfl⟩
  obtain ⟨x6, hx6⟩ : ∃ x, v.l.length = x := ⟨_, rfl⟩
  obtain ⟨x7, hx7⟩ : ∃ x, l.length = x := ⟨_, rfl⟩
  obtain ⟨x8, hx8⟩ : ∃ x, f.length = x := ⟨_, rfl⟩
  have HX3 := hid hx3
  have HX4 := hid hx4
  have HX5 := hid hx5
  have HX6 := hid hx6
  have HX7 := hid hx7
  have HX8 := hid hx8
  rw [hx3, hx4, hx5, hx6, hx7, hx8]
  clear hx3 hx4 hx5 hx6 hx7 hx8 H hD
  obtain ⟨b0, hb0⟩ : ∃ b, ((x7 : Int) == 0) = b := ⟨_, rfl⟩
  have HB0 := hid (show decide (l.length = 0) = b0 by rw [HX7.out, ← hb0, Bool.eq_iff_iff]; simp)

  have HBARE := hid (show (⟨k, lo, hi, v, l, f⟩ : Nod).bare = ⟨2, lo, hi, noIt, [], []⟩ by subst hk; simp [Nod.bare])
  have HOK := hid (show (⟨k, lo, hi, v, l, f⟩ : Nod).ok = b0 by subst hk; rw [← HB0.out]; simp [Nod.ok])
  subst hk
  go_enter Tryd.func100, Tryd.ntmps100
  go_wp2_with fail
  go_region
  all_goals
    go_wp2_with fail
    refine bodyPost_ret (results_row_tmp rfl _ _ (w.heap.size + 1) 54 _ (0, 0) _ rfl (by first | exact blk_2 _ _ _ _ _ | exact (blk_2 _ _ _ _ _).drew) Tryd.underlying54 rfl (by exact sizeNode)) rfl ?_
    refine bare_mk HBARE.out HOK.out ?_ ((NdR.sub HR.out ⟨2, lo, hi, noIt, [], []⟩ rfl (.inl rfl) (.inl rfl) (.inr ⟨rfl, rfl, rfl⟩) (.inr ⟨rfl, rfl, rfl⟩) (.inr ⟨rfl, rfl, rfl⟩)).fr0 (by first | exact fr_3 _ _ _ _ | exact (fr_3 _ _ _ _).drew)) (by first | exact fr_3 _ _ _ _ | exact (fr_3 _ _ _ _).drew)
    rw [ndC_eq]
    simp only [HX3.out, HX4.out, HX5.out, HX6.out, HX7.out, HX8.out, noIt, It.k, It.n, It.s, It.l, List.length_nil]
    rfl

set_option maxRecDepth 100000 in
set_option maxHeartbeats 4000000 in
theorem bare_k3 (k lo hi : Int) (v : It) (l : List Int) (f : List Fld) (hk : k = 3) (h : Nat) (Av Al Af : Option Addr) (cv cl cf : Nat) (w : World) (hD : Dbl w) (H : NdR w h ⟨k, lo, hi, v, l, f⟩ Av cv Al cl Af cf) :
    Calls Tryd.prog 100 #[.agg (ndC ⟨k, lo, hi, v, l, f⟩ Av cv Al cl Af cf)] w fun e w' => Bare w h ⟨k, lo, hi, v, l, f⟩ e w' := by
  have HR := hid H
  have HDD := hid hD
  rw [ndC_eq]
  simp only
  obtain ⟨x3, hx3⟩ : ∃ x, v.k = x := ⟨_, rfl⟩
  obtain ⟨x4, hx4⟩ : ∃ x, v.n = x := ⟨_, rfl⟩
  obtain ⟨x5, hx5⟩ : ∃ x, v.s = x := ⟨_, rfl⟩
  obtain ⟨x6, hx6⟩ : ∃ x, v.l.length = x := ⟨_, rfl⟩
  obtain ⟨x7, hx7⟩ : ∃ x, l.length = x := ⟨_, rfl⟩
  obtain ⟨x8, hx8⟩ : ∃ x, f.length = x := ⟨_, rfl⟩
  have HX3 := hid hx3
  have HX4 := hid hx4
  have HX5 := hid hx5
  have HX6 := hid hx6
  have HX7 := hid hx7
  have HX8 := hid hx8
  rw [hx3, hx4, hx5, hx6, hx7, hx8]
  clear hx3 hx4 hx5 hx6 hx7 hx8 H hD
  obtain ⟨b0, hb0⟩ : ∃ b, ((x7 : Int) == 0) = b := ⟨_, rfl⟩
  have HB0 := hid (show decide (l.length = 0) = b0 by rw [HX7.out, ← hb0, Bool.eq_iff_iff]; simp)

  have HBARE := hid (show (⟨k, lo, hi, v, l, f⟩ : Nod).bare = ⟨3, lo, hi, noIt, [], []⟩ by subst hk; simp [Nod.bare])
  have HOK := hid (show (⟨k, lo, hi, v, l, f⟩ : Nod).ok = b0 by subst hk; rw [← HB0.out]; simp [Nod.ok])
  subst hk
  go_enter Tryd.func100, Tryd.ntmps100
  go_wp2_with fail
  go_region
  all_goals
    go_wp2_with fail
    refine bodyPost_ret (results_row_tmp rfl _ _ (w.heap.size + 1) 54 _ (0, 0) _ rfl (by first | exact blk_2 _ _ _ _ _ | exact (blk_2 _ _ _ _ _).drew) Tryd.underlying54 rfl (by exact sizeNode)) rfl ?_
    refine bare_mk HBARE.out HOK.out ?_ ((NdR.sub HR.out ⟨3, lo, hi, noIt, [], []⟩ rfl (.inl rfl) (.inl rfl) (.inr ⟨rfl, rfl, rfl⟩) (.inr ⟨rfl, rfl, rfl⟩) (.inr ⟨rfl, rfl, rfl⟩)).fr0 (by first | exact fr_3 _ _ _ _ | exact (fr_3 _ _ _ _).drew)) (by first | exact fr_3 _ _ _ _ | exact (fr_3 _ _ _ _).drew)
    rw [ndC_eq]
    simp only [HX3.out, HX4.out, HX5.out, HX6.out, HX7.out, HX8.out, noIt, It.k, It.n, It.s, It.l, List.length_nil]
    rfl

set_option maxRecDepth 100000 in
set_option maxHeartbeats 4000000 in
theorem bare_other (k lo hi : Int) (v : It) (l : List Int) (f : List Fld) (hk : k ≠ 4 ∧ k ≠ 8 ∧ k ≠ 7 ∧ k ≠ 10 ∧ k ≠ 9 ∧ k ≠ 6 ∧ k ≠ 1 ∧ k ≠ 2 ∧ k ≠ 3) (h : Nat) (Av Al Af : Option Addr) (cv cl cf : Nat) (w : World) (hD : Dbl w) (H : NdR w h ⟨k, lo, hi, v, l, f⟩ Av cv Al cl Af cf) :
    Calls Tryd.prog 100 #[.agg (ndC ⟨k, lo, hi, v, l, f⟩ Av cv Al cl Af cf)] w fun e w' => Bare w h ⟨k, lo, hi, v, l, f⟩ e w' := by
  have HR := hid H
  have HDD := hid hD
  rw [ndC_eq]
  simp only
  obtain ⟨x3, hx3⟩ : ∃ x, v.k = x := ⟨_, rfl⟩
  obtain ⟨x4, hx4⟩ : ∃ x, v.n = x := ⟨_, rfl⟩
  obtain ⟨x5, hx5⟩ : ∃ x, v.s = x := ⟨_, rfl⟩
  obtain ⟨x6, hx6⟩ : ∃ x, v.l.length = x := ⟨_, rfl⟩
  obtain ⟨x7, hx7⟩ : ∃ x, l.length = x := ⟨_, rfl⟩
  obtain ⟨x8, hx8⟩ : ∃ x, f.length = x := ⟨_, rfl⟩
  have HX3 := hid hx3
  have HX4 := hid hx4
  have HX5 := hid hx5
  have HX6 := hid hx6
  have HX7 := hid hx7
  have HX8 := hid hx8
  rw [hx3, hx4, hx5, hx6, hx7, hx8]
  clear hx3 hx4 hx5 hx6 hx7 hx8 H hD
  obtain ⟨b0, hb0⟩ : ∃ b, ((x7 : Int) == 0) = b := ⟨_, rfl⟩
  have HB0 := hid (show decide (l.length = 0) = b0 by rw [HX7.out, ← hb0, Bool.eq_iff_iff]; simp)

  have HBARE := hid (show (⟨k, lo, hi, v, l, f⟩ : Nod).bare = ⟨k, 0, 0, noIt, [], []⟩ by simp [Nod.bare, hk])
  have HOK := hid (show (⟨k, lo, hi, v, l, f⟩ : Nod).ok = b0 by rw [← HB0.out]; simp [Nod.ok, hk])
  have g4 : (k == 4) = false := beq_eq_false_iff_ne.2 (by omega)
  have g8 : (k == 8) = false := beq_eq_false_iff_ne.2 (by omega)
  have g7 : (k == 7) = false := beq_eq_false_iff_ne.2 (by omega)
  have g10 : (k == 10) = false := beq_eq_false_iff_ne.2 (by omega)
  have g9 : (k == 9) = false := beq_eq_false_iff_ne.2 (by omega)
  have g6 : (k == 6) = false := beq_eq_false_iff_ne.2 (by omega)
  have g1 : (k == 1) = false := beq_eq_false_iff_ne.2 (by omega)
  have g2 : (k == 2) = false := beq_eq_false_iff_ne.2 (by omega)
  have g3 : (k == 3) = false := beq_eq_false_iff_ne.2 (by omega)
  have HK := hid hk
  clear hk
  go_enter Tryd.func100, Tryd.ntmps100
  go_wp2_with fail
  all_goals
    refine bodyPost_ret (results_row_tmp rfl _ _ (w.heap.size + 1) 54 _ (0, 0) _ rfl (by first | exact blk_2 _ _ _ _ _ | exact (blk_2 _ _ _ _ _).drew) Tryd.underlying54 rfl (by exact sizeNode)) rfl ?_
    refine bare_mk HBARE.out HOK.out ?_ ((NdR.sub HR.out ⟨k, 0, 0, noIt, [], []⟩ rfl (.inr rfl) (.inr rfl) (.inr ⟨rfl, rfl, rfl⟩) (.inr ⟨rfl, rfl, rfl⟩) (.inr ⟨rfl, rfl, rfl⟩)).fr0 (by first | exact fr_3 _ _ _ _ | exact (fr_3 _ _ _ _).drew)) (by first | exact fr_3 _ _ _ _ | exact (fr_3 _ _ _ _).drew)
    rw [ndC_eq]
    simp only [HX3.out, HX4.out, HX5.out, HX6.out, HX7.out, HX8.out, noIt, It.k, It.n, It.s, It.l, List.length_nil]
    rfl

theorem froz9 {w : World} {g : Nat} {t : TypeId} {cs : Array Value} (h : Blk w g t cs) : w.frozen? ⟨g, 0, none⟩ = false ∧ w.frozen? ⟨g, 1, none⟩ = false ∧ w.frozen? ⟨g, 2, none⟩ = false ∧ w.frozen? ⟨g, 3, none⟩ = false ∧ w.frozen? ⟨g, 4, none⟩ = false ∧ w.frozen? ⟨g, 5, none⟩ = false ∧ w.frozen? ⟨g, 6, none⟩ = false ∧ w.frozen? ⟨g, 7, none⟩ = false ∧ w.frozen? ⟨g, 8, none⟩ = false :=
  ⟨h.frozen 0, h.frozen 1, h.frozen 2, h.frozen 3, h.frozen 4, h.frozen 5, h.frozen 6, h.frozen 7, h.frozen 8⟩
theorem sets9 {W : World} {g : Nat} {t : TypeId} {z0 z1 z2 z3 z4 z5 z6 z7 z8 : Value} (h : Blk W g t #[z0, z1, z2, z3, z4, z5, z6, z7, z8]) (a0 a1 a2 a3 a4 a5 a6 a7 a8 : Value) : Blk (((((((((W.setCell ⟨g, 0, none⟩ a0).setCell ⟨g, 1, none⟩ a1).setCell ⟨g, 2, none⟩ a2).setCell ⟨g, 3, none⟩ a3).setCell ⟨g, 4, none⟩ a4).setCell ⟨g, 5, none⟩ a5).setCell ⟨g, 6, none⟩ a6).setCell ⟨g, 7, none⟩ a7).setCell ⟨g, 8, none⟩ a8) g t #[a0, a1, a2, a3, a4, a5, a6, a7, a8] := by
  have := ((((((((h.set_ 0 a0).set_ 1 a1).set_ 2 a2).set_ 3 a3).set_ 4 a4).set_ 5 a5).set_ 6 a6).set_ 7 a7).set_ 8 a8
  simpa using this
theorem frsets9 {w0 W : World} (h : Fr (fun _ => False) w0 W) {g : Nat} (hg : w0.heap.size ≤ g) (a0 a1 a2 a3 a4 a5 a6 a7 a8 : Value) : Fr (fun _ => False) w0 (((((((((W.setCell ⟨g, 0, none⟩ a0).setCell ⟨g, 1, none⟩ a1).setCell ⟨g, 2, none⟩ a2).setCell ⟨g, 3, none⟩ a3).setCell ⟨g, 4, none⟩ a4).setCell ⟨g, 5, none⟩ a5).setCell ⟨g, 6, none⟩ a6).setCell ⟨g, 7, none⟩ a7).setCell ⟨g, 8, none⟩ a8) :=
  ((((((((h.setCell (.inr hg) a0).setCell (.inr hg) a1).setCell (.inr hg) a2).setCell (.inr hg) a3).setCell (.inr hg) a4).setCell (.inr hg) a5).setCell (.inr hg) a6).setCell (.inr hg) a7).setCell (.inr hg) a8
theorem blk_3 (w : World) (o o' : Obj) (cs : Array Value) (t : TypeId) : Blk (((w.alloc o).alloc o').alloc (.cells cs t)) (w.heap.size + 1 + 1) t cs := by
  have := Blk.new ((w.alloc o).alloc o') t cs
  rwa [World.size_alloc, World.size_alloc] at this
set_option maxRecDepth 100000 in
set_option maxHeartbeats 4000000 in
theorem bare_k4 (k lo hi : Int) (v : It) (l : List Int) (f : List Fld) (hk : k = 4) (h : Nat) (Av Al Af : Option Addr) (cv cl cf : Nat) (w : World) (hD : Dbl w) (H : NdR w h ⟨k, lo, hi, v, l, f⟩ Av cv Al cl Af cf) :
    Calls Tryd.prog 100 #[.agg (ndC ⟨k, lo, hi, v, l, f⟩ Av cv Al cl Af cf)] w fun e w' => Bare w h ⟨k, lo, hi, v, l, f⟩ e w' := by
  have HR := hid H
  have HDD := hid hD
  rw [ndC_eq]
  simp only
  obtain ⟨x3, hx3⟩ : ∃ x, v.k = x := ⟨_, rfl⟩
  obtain ⟨x4, hx4⟩ : ∃ x, v.n = x := ⟨_, rfl⟩
  obtain ⟨x5, hx5⟩ : ∃ x, v.s = x := ⟨_, rfl⟩
  obtain ⟨x6, hx6⟩ : ∃ x, v.l.length = x := ⟨_, rfl⟩
  obtain ⟨x7, hx7⟩ : ∃ x, l.length = x := ⟨_, rfl⟩
  obtain ⟨x8, hx8⟩ : ∃ x, f.length = x := ⟨_, rfl⟩
  have HX3 := hid hx3
  have HX4 := hid hx4
  have HX5 := hid hx5
  have HX6 := hid hx6
  have HX7 := hid hx7
  have HX8 := hid hx8
  rw [hx3, hx4, hx5, hx6, hx7, hx8]
  clear hx3 hx4 hx5 hx6 hx7 hx8 H hD
  obtain ⟨b0, hb0⟩ : ∃ b, ((x7 : Int) == 0) = b := ⟨_, rfl⟩
  have HB0 := hid (show decide (l.length = 0) = b0 by rw [HX7.out, ← hb0, Bool.eq_iff_iff]; simp)
  have HBARE := hid (show (⟨k, lo, hi, v, l, f⟩ : Nod).bare = ⟨4, 0, 0, v, [], []⟩ by subst hk; simp [Nod.bare])
  have HOK := hid (show (⟨k, lo, hi, v, l, f⟩ : Nod).ok = (b0 && decide (x3 ≠ 4 ∧ x3 ≠ 5 ∧ x3 ≠ 6 ∧ x3 ≠ 8) && decide (v.check = 0)) by subst hk; rw [← HB0.out, ← HX3.out]; simp only [Nod.ok, if_true])
  subst hk
  have hcase : (b0 = false ∨ (b0 = true ∧ (x3 = 4 ∨ x3 = 5 ∨ x3 = 6 ∨ x3 = 8))) ∨ (b0 = true ∧ x3 ≠ 4 ∧ x3 ≠ 5 ∧ x3 ≠ 6 ∧ x3 ≠ 8) := by
    cases b0
    · exact .inl (.inl rfl)
    · by_cases h : x3 = 4 ∨ x3 = 5 ∨ x3 = 6 ∨ x3 = 8
      · exact .inl (.inr ⟨rfl, h⟩)
      · exact .inr ⟨rfl, by omega, by omega, by omega, by omega⟩
  rcases hcase with hc | ⟨rfl, n4, n5, n6, n8⟩
  · have HOF := hid (show (⟨4, lo, hi, v, l, f⟩ : Nod).ok = false by
      rw [HOK.out]
      rcases hc with rfl | ⟨rfl, hc⟩
      · rfl
      · rw [decide_eq_false (p := x3 ≠ 4 ∧ x3 ≠ 5 ∧ x3 ≠ 6 ∧ x3 ≠ 8) (by omega)]; rfl)
    rcases hc with rfl | ⟨rfl, rfl | rfl | rfl | rfl⟩
    all_goals
      go_enter Tryd.func100, Tryd.ntmps100
      go_wp2_with fail
      refine bodyPost_ret (results_row_tmp rfl _ _ (w.heap.size + 1) 54 _ (0, 0) _ rfl (by exact blk_2 _ _ _ _ _) Tryd.underlying54 rfl (by exact sizeNode)) rfl ?_
      refine bare_mk HBARE.out HOF.out ?_ ((NdR.sub HR.out ⟨4, 0, 0, v, [], []⟩ rfl (.inr rfl) (.inr rfl) (.inl ⟨rfl, rfl, rfl⟩) (.inr ⟨rfl, rfl, rfl⟩) (.inr ⟨rfl, rfl, rfl⟩)).fr0 (fr_3 _ _ _ _)) (fr_3 _ _ _ _)
      rw [ndC_eq]
      simp only [HX3.out, HX4.out, HX5.out, HX6.out, List.length_nil]
      rfl
  · have q4 : (x3 != 4) = true := bne_iff_ne.2 n4
    have q5 : (x3 != 5) = true := bne_iff_ne.2 n5
    have q6 : (x3 != 6) = true := bne_iff_ne.2 n6
    have q8 : (x3 != 8) = true := bne_iff_ne.2 n8
    obtain ⟨b3, hb3⟩ : ∃ b, (v.check == 0) = b := ⟨_, rfl⟩
    have HOT := hid (show (⟨4, lo, hi, v, l, f⟩ : Nod).ok = b3 by
      rw [HOK.out, ← hb3, decide_eq_true (p := x3 ≠ 4 ∧ x3 ≠ 5 ∧ x3 ≠ 6 ∧ x3 ≠ 8) ⟨n4, n5, n6, n8⟩, Bool.eq_iff_iff]
      simp)
    have HRV := hid (show ItAt w 0 h v [.int .i64 x3, .int .u64 x4, .string x5, .slice Av x6 cv] by
      have := HR.out.v
      simp only [HX3.out, HX4.out, HX5.out, HX6.out] at this
      exact this)
    clear n4 n5 n6 n8
    have HCK := hid hb3
    obtain ⟨ck, hck⟩ : ∃ c, v.check = c := ⟨_, rfl⟩
    rw [hck] at hb3
    have HCE := hid hck
    clear hck
    go_enter Tryd.func100, Tryd.ntmps100
    go_wp2_with fail
    refine (check_calls v (by have := HR.out.vm; simp only at this; omega) 0 h _ _ (by exact Nat.le_trans HR.out.hh (fr_3 _ _ _ _).size) (by exact HDD.out.fr0 (fr_3 _ _ _ _)) (by exact HRV.out.fr0 (fr_3 _ _ _ _) HR.out.hh)).mono ?_
    rintro e w2 ⟨rfl, hf⟩
    rw [HCE.out]
    have HF2 := hid ((fr_3 _ _ _ _).then_ hf (fun _ _ h => h))
    have HBR := hid ((blk_2 w _ #[.int .i64 0, .int .i64 0, .int .i64 0, .int .i64 0, .int .u64 0, .string { data := #[] }, .slice none 0 0, .slice none 0 0, .slice none 0 0] 54 _).fr hf (fun h => h))
    have HBO := hid ((blk_3 w _ _ #[.int .i64 4, .int .i64 0, .int .i64 0, .int .i64 x3, .int .u64 x4, .string x5, .slice Av x6 cv, .slice none 0 0, .slice none 0 0] 54).fr hf (fun h => h))
    obtain ⟨o0, o1, o2, o3, o4, o5, o6, o7, o8⟩ := blk9 HBO.out
    obtain ⟨r0, r1, r2, r3, r4, r5, r6, r7, r8⟩ := blk9 HBR.out
    obtain ⟨f0, f1, f2, f3, f4, f5, f6, f7, f8⟩ := froz9 HBR.out
    clear hf
    go_wp2_with fail
    have HB7 := hid (sets9 HBR.out (.int .i64 4) (.int .i64 0) (.int .i64 0) (.int .i64 x3) (.int .u64 x4) (.string x5) (.slice Av x6 cv) (.slice none 0 0) (.slice none 0 0))
    have HF7 := hid (show Fr (fun _ => False) w _ from frsets9 HF2.out (g := w.heap.size + 1) (by omega) (.int .i64 4) (.int .i64 0) (.int .i64 0) (.int .i64 x3) (.int .u64 x4) (.string x5) (.slice Av x6 cv) (.slice none 0 0) (.slice none 0 0))
    refine bodyPost_ret (results_row_tmp rfl _ _ (w.heap.size + 1) 54 _ (0, 0) _ rfl HB7.out Tryd.underlying54 rfl (by exact sizeNode)) rfl ?_
    refine bare_mk HBARE.out HOT.out ?_ ((NdR.sub HR.out ⟨4, 0, 0, v, [], []⟩ rfl (.inr rfl) (.inr rfl) (.inl ⟨rfl, rfl, rfl⟩) (.inr ⟨rfl, rfl, rfl⟩) (.inr ⟨rfl, rfl, rfl⟩)).fr0 HF7.out) HF7.out
    rw [ndC_eq]
    simp only [HX3.out, HX4.out, HX5.out, HX6.out, List.length_nil]
    rfl

/-- A node, whatever its kind. -/
theorem bare_calls (n : Nod) (h : Nat) (Av Al Af : Option Addr) (cv cl cf : Nat) (w : World) (hD : Dbl w) (H : NdR w h n Av cv Al cl Af cf) :
    Calls Tryd.prog 100 #[.agg (ndC n Av cv Al cl Af cf)] w fun e w' => Bare w h n e w' := by
  obtain ⟨k, lo, hi, v, l, f⟩ := n
  by_cases h4 : k = 4
  · exact bare_k4 k lo hi v l f h4 h Av Al Af cv cl cf w hD H
  by_cases h8 : k = 8
  · exact bare_k8 k lo hi v l f h8 h Av Al Af cv cl cf w hD H
  by_cases h7 : k = 7
  · exact bare_k7 k lo hi v l f h7 h Av Al Af cv cl cf w hD H
  by_cases h10 : k = 10
  · exact bare_k10 k lo hi v l f h10 h Av Al Af cv cl cf w hD H
  by_cases h9 : k = 9
  · exact bare_k9 k lo hi v l f h9 h Av Al Af cv cl cf w hD H
  by_cases h6 : k = 6
  · exact bare_k6 k lo hi v l f h6 h Av Al Af cv cl cf w hD H
  by_cases h1 : k = 1
  · exact bare_k1 k lo hi v l f h1 h Av Al Af cv cl cf w hD H
  by_cases h2 : k = 2
  · exact bare_k2 k lo hi v l f h2 h Av Al Af cv cl cf w hD H
  by_cases h3 : k = 3
  · exact bare_k3 k lo hi v l f h3 h Av Al Af cv cl cf w hD H
  exact bare_other k lo hi v l f ⟨h4, h8, h7, h10, h9, h6, h1, h2, h3⟩ h Av Al Af cv cl cf w hD H
end Go.Proofs.YtkmgiodhaaajjaaDoor.SchG

namespace Go.Proofs.YtkmgiodhaaajjaaDoor.SchH
open Go Go.IntWalk Go.RowKit Go.Maps Go.Proofs.YtkmgiodhaaajjaaDoor.Mem Go.Proofs.YtkmgiodhaaajjaaDoor.App Go.Proofs.YtkmgiodhaaajjaaDoor.UtfP Go.Proofs.YtkmgiodhaaajjaaDoor.UtfB Go.Proofs.YtkmgiodhaaajjaaDoor.ItemP Go.Proofs.YtkmgiodhaaajjaaDoor.Range Go.Proofs.YtkmgiodhaaajjaaDoor.SchP Go.Proofs.YtkmgiodhaaajjaaDoor.SchM

theorem plainElem_bool_inv {H : Type} {P : Program} {e : TypeId} (he : P.underlying e = some .bool) {v : Value} {z : DataW H × List MemPlace} (h : plainElem P e v = some z) : ∃ b, v = .bool b ∧ z = (.lit (.bool b), []) := by
  unfold plainElem at h
  rw [he] at h
  cases v <;> simp at h
  exact ⟨_, rfl, h.symm⟩
/-- 'm[k]' without ok, of truths. -/
theorem wpList_lookup_bool {H : Type} {P : Program} (w : World) {ops : Array Oper} {rest : List Oper} {o : Oper} {a : Act} {Q : Exit → Act → World → Prop}
    (hg : o.guard = none) (m x : Operand) (t : TypeId) (hop : o.op = Op.lookup t m x false)
    (k e : TypeId) (K : Keyed P k) (ht : P.underlying t = some (.map k e)) (he : P.underlying e = some .bool) (hz : (zeroValue e).run P w = .ok (.bool false) w) (b n : Nat) (D : DataW H)
    (hm : a.eval m = .map (some b)) (hown : w.ownsMap P k (plainElem P e) b n D) (key : Value) (kl : Lit) (hx : a.eval x = key) (hkey : keyOf P k key = some kl)
    (hK : ∀ c : Bool, D.atKey kl (.lit (.bool false)) = .lit (.bool c) → wpList P ops Q rest (a.put o.dst (.bool c)) w) :
    wpList P ops Q (o :: rest) a w := by
  refine wpList_plain hg fun K' hK' => ?_
  obtain ⟨v, ps, hrun, hv⟩ := hown.lookup K ht hz (plainElem_bool he false) hkey
  obtain ⟨c, rfl, hc⟩ := plainElem_bool_inv he hv
  simp only [Prod.mk.injEq] at hc
  unfold Oper.wp
  simp [execOp, hop, hm, hx, hrun, Result.andThen]
  exact hK' _ _ (hK c hc.1)
theorem zeroBool (w : World) : (zeroValue 4).run Tryd.prog w = .ok (.bool false) w := by kernel_rfl
/-- A map that tells which keys were seen. -/
def Seen (w : World) (b n : Nat) (seen : List ByteArray) : Prop :=
  ∃ D : DataW Unit, w.ownsMap Tryd.prog 9 (plainElem Tryd.prog 4) b n D ∧ ∀ s : ByteArray, D.atKey (.string s.data.toList) (.lit (.bool false)) = .lit (.bool (seen.any fun x => decide (x = s)))
theorem Seen.grown {w w' : World} {b n : Nat} {seen : List ByteArray} (h : Seen w b n seen) (hf : Fr (fun _ => False) w w') : Seen w' b n seen := by
  obtain ⟨D, h1, h2⟩ := h
  exact ⟨D, h1.kept (grown_of_fr hf) (by simp), h2⟩
theorem seen_new (w : World) : Seen (w.alloc (.map #[] 0)) w.heap.size 0 [] :=
  ⟨_, World.ownsMap_made _ _ _ _, fun s => rfl⟩
theorem toList_ne {a b : ByteArray} (h : a ≠ b) : a.data.toList ≠ b.data.toList := by
  intro e
  obtain ⟨⟨l⟩⟩ := a
  obtain ⟨⟨l'⟩⟩ := b
  simp at e
  exact h (by rw [e])
theorem Seen.put {w w' : World} {b n : Nat} {seen : List ByteArray} {D : DataW Unit} (hm : IsMap D) (hD : ∀ s : ByteArray, D.atKey (.string s.data.toList) (.lit (.bool false)) = .lit (.bool (seen.any fun x => decide (x = s)))) (k : ByteArray)
    (ho : w'.ownsMap Tryd.prog 9 (plainElem Tryd.prog 4) b n (D.put (.string k.data.toList) (.lit (.bool true)))) : Seen w' b n (seen ++ [k]) := by
  refine ⟨_, ho, fun s => ?_⟩
  by_cases h : k = s
  · subst h
    rw [atKey_put_same hm (by trivial)]
    simp
  · rw [atKey_put_other (fun e => toList_ne (Ne.symm h) (by injection e)), hD]
    simp [h]
theorem keysE_step (f : Fld) (l : List Fld) (seen : List ByteArray) : keysE seen (f :: l) = if validS f.key = false then 6 else if 1021 < f.key.size then 4 else if seen.any (fun s => decide (s = f.key)) = true then 14 else keysE (seen ++ [f.key]) l := rfl

set_option maxRecDepth 20000 in
set_option maxHeartbeats 4000000 in
theorem keys_calls (A : Option Addr) (n c : Nat) (l : List Fld) (w : World) (hn : l.length = n) (hc : n ≤ c) (hl : n ≤ 1048576) (hx : RdF w A l) :
    Calls Tryd.prog 102 #[.slice A n c] w fun e w' => e = .returned (.int .i64 (keysE [] l)) ∧ Fr (fun _ => False) w w' := by
  have HN := hid hn
  have HX := hid hx
  have hmm := @run_makeMap Tryd.prog
  obtain ⟨r, hr⟩ : ∃ r, keysE [] l = r := ⟨_, rfl⟩
  have HR := hid hr
  rw [hr]
  clear hn hx hr
  go_enter Tryd.func102, Tryd.ntmps102
  go_wp2_with fail
  go_loopw [9] (fun i wr => ∃ j : Nat, j ≤ n ∧ i = .int .i64 j ∧ Hid (Seen wr w.heap.size j ((l.take j).map Fld.key)) ∧ Hid (r = keysE ((l.take j).map Fld.key) (l.drop j)) ∧ Hid (Fr (fun _ => False) w wr)) (fun i _ => n - (intOf i).toNat)
  case atStart => exact ⟨0, Nat.zero_le _, rfl, hid (seen_new w), hid HR.out.symm, hid ((Fr.refl _ w).alloc _)⟩
  case round =>
    obtain ⟨j, hj, rfl, HS, HE, HF⟩ := hrel
    clear hmm
    by_cases hlt : j < n
    · obtain ⟨ad, rfl, _, hks, _, f0, f1, f2⟩ := HX.out.fr0 HF.out j (by rw [HN.out]; exact hlt)
      have HTK := hid (List.take_succ_eq_append_getElem (show j < l.length by rw [HN.out]; exact hlt))
      have HDR := hid (List.drop_eq_getElem_cons (show j < l.length by rw [HN.out]; exact hlt))
      obtain ⟨x, hx⟩ : ∃ x, l[j]'(by rw [HN.out]; exact hlt) = x := ⟨_, rfl⟩
      rw [hx] at HTK HDR f0 f1 f2 hks
      obtain ⟨key, node, opt⟩ := x
      simp only at f0 f1 f2 hks
      have HE2 := hid (show r = _ by rw [HE.out, HDR.out, keysE_step])
      simp only at HE2
      have hj0 : (0 : Int) ≤ (j : Int) := by omega
      have hjm : (j : Int) < (n : Int) := by omega
      have hjc : (j : Int) < (c : Int) := by omega
      obtain ⟨w1, hw1⟩ : ∃ w1, wr.alloc (.cells #[.string key, .int .i64 node, .bool opt] 111) = w1 := ⟨_, rfl⟩
      have HF1 := hid (show Fr (fun _ => False) wr w1 by rw [← hw1]; exact (Fr.refl _ wr).alloc _)
      have HB1 := hid (show Blk w1 wr.heap.size 111 #[.string key, .int .i64 node, .bool opt] by rw [← hw1]; exact Blk.new wr _ _)
      have HW1 := hid hw1
      have HKS := hid hks
      clear hw1 hx hks
      go_wp2_with fail
      rw [HW1.out]
      refine (valid_calls key w1 HKS.out).mono ?_
      rintro e w2 ⟨rfl, hf⟩
      have HF2 := hid (HF1.out.then_ hf (fun _ _ h => h))
      obtain ⟨c0, c1, c2⟩ := blk3 (HB1.out.fr hf (fun h => h))
      obtain ⟨v, hv⟩ : ∃ v, validS key = v := ⟨_, rfl⟩
      have HV := hid hv
      rw [hv]
      clear hf hv f0 f1 f2
      cases v with
      | false =>
        go_wp2_with fail
        go_ret
        refine ⟨?_, HF.out.then_ HF2.out (fun _ _ h => h)⟩
        rw [HE2.out, if_pos HV.out]
        rfl
      | true =>
        by_cases hz : 1021 < key.size
        · have hz' : (1021 : Int) < (key.size : Int) := by omega
          have HZ := hid hz
          clear hz
          go_wp2_with fail
          go_ret
          refine ⟨?_, HF.out.then_ HF2.out (fun _ _ h => h)⟩
          rw [HE2.out, if_neg (by rw [HV.out]; simp), if_pos HZ.out]
          rfl
        · have hz' : ¬ (1021 : Int) < (key.size : Int) := by omega
          have HZ := hid hz
          clear hz
          have hkey := WideMaps.keyOf_string_mk (P := Tryd.prog) Tryd.underlying9 (show key.size ≤ maxLen by have := HKS.out; unfold maxLen; omega)
          have HKEY := hid hkey
          obtain ⟨D, hown, hD⟩ := HS.out.grown HF2.out
          have HOWN := hid hown
          have HDD := hid hD
          clear hkey hown hD
          go_wp2_with (first
            | (at_lookup; refine wpList_lookup_bool _ rfl _ _ 177 rfl 9 4 (string_keyed Tryd.underlying9) Tryd.underlying177 Tryd.underlying4 (zeroBool _) w.heap.size j D rfl HOWN.out _ _ rfl HKEY.out ?_; intro q hq; have HQ := hid hq; clear hq)
            | (at_mapUpdate; refine wpList_mapUpdate_own _ rfl _ _ _ 177 rfl 9 4 (string_keyed Tryd.underlying9) Tryd.underlying177 (plainElem Tryd.prog 4) w.heap.size j D rfl HOWN.out (by unfold maxLen; omega) _ _ _ rfl rfl HKEY.out (.lit (.bool true)) [] (plainElem_bool Tryd.underlying4 true) ?_; intro w3 hown3 hg3; have HG3 := hid hg3; have HO3 := hid hown3; clear hg3 hown3))
          · have HQ2 := hid (show (((l.take j).map Fld.key).any fun s => decide (s = key)) = true by
              have h := HQ.out
              rw [HDD.out] at h
              injection h with h
              injection h with h
              exact h.trans (by assumption))
            go_ret
            refine ⟨?_, HF.out.then_ HF2.out (fun _ _ h => h)⟩
            rw [HE2.out, if_neg (by rw [HV.out]; simp), if_neg HZ.out, if_pos HQ2.out]
            rfl
          · have HQ2 := hid (show (((l.take j).map Fld.key).any fun s => decide (s = key)) = false by
              have h := HQ.out
              rw [HDD.out] at h
              injection h with h
              injection h with h
              exact h.trans (by assumption))
            have HF3 := hid (show Fr (fun _ => False) w w3 from (HF.out.then_ HF2.out (fun _ _ h => h)).then_ (Fr.grown (S := fun k => k = w.heap.size) HG3.out rfl) (fun i hi h => by omega))
            go_roundw
            case rel => exact ⟨j + 1, by omega, by go_num, hid (by
              rw [HTK.out, List.map_append]
              exact Seen.put (w := w2) (World.ownsMap.isMap HOWN.out) HDD.out key HO3.out), hid (by
              rw [HE2.out, if_neg (by rw [HV.out]; simp), if_neg HZ.out, if_neg (by rw [HQ2.out]; simp), HTK.out, List.map_append]
              rfl), HF3⟩
            case measure => simp [intOf]; omega
    · obtain rfl : j = n := by omega
      go_wp2_with fail
      go_ret
      refine ⟨?_, HF.out⟩
      rw [HE.out, List.drop_of_length_le (by rw [HN.out]; omega)]
      rfl
end Go.Proofs.YtkmgiodhaaajjaaDoor.SchH

namespace Go.Proofs.YtkmgiodhaaajjaaDoor.SchI
open Go.IntWalk Go.RowKit Go.Proofs.YtkmgiodhaaajjaaDoor.Mem Go.Proofs.YtkmgiodhaaajjaaDoor.App Go.Proofs.YtkmgiodhaaajjaaDoor.FloatB Go.Proofs.YtkmgiodhaaajjaaDoor.ItemP Go.Proofs.YtkmgiodhaaajjaaDoor.ItemM Go.Proofs.YtkmgiodhaaajjaaDoor.SchP Go.Proofs.YtkmgiodhaaajjaaDoor.SchM Go.Proofs.YtkmgiodhaaajjaaDoor.SchA Go.Proofs.YtkmgiodhaaajjaaDoor.SchB Go.Proofs.YtkmgiodhaaajjaaDoor.SchC Go.Proofs.YtkmgiodhaaajjaaDoor.SchD Go.Proofs.YtkmgiodhaaajjaaDoor.SchE Go.Proofs.YtkmgiodhaaajjaaDoor.SchF Go.Proofs.YtkmgiodhaaajjaaDoor.SchG Go.Proofs.YtkmgiodhaaajjaaDoor.SchH

theorem blk_1of3 (w : World) (a : Array Value) (t : TypeId) (o o' : Obj) : Blk (((w.alloc (.cells a t)).alloc o).alloc o') w.heap.size t a := ((Blk.new w t a).alloc _).alloc _

set_option maxRecDepth 100000 in
set_option maxHeartbeats 8000000 in
theorem swrong_calls (ns : List Nod) (i : Nat) (A : Option Addr) (M c h : Nat) (w : World) (hM : ns.length = M) (hc : M ≤ c) (hMm : M ≤ 1048576) (hi : i < M) (hD : Dbl w) (H : RdN w h A ns) :
    Calls Tryd.prog 74 #[.agg #[.slice A M c], .int .i64 i] w fun e w' => e = .returned (.int .i64 ((ns[i]'(by rw [hM]; exact hi)).wrong i M)) ∧ Fr (fun _ => False) w w' := by
  obtain ⟨ad, Av, cv, Al, cl, Af, cf, rfl, hab, hnine, hr⟩ := RdN.at_ H i (by rw [hM]; exact hi)
  obtain ⟨n, hn⟩ : ∃ n, ns[i]'(by rw [hM]; exact hi) = n := ⟨_, rfl⟩
  rw [hn] at hnine hr ⊢
  have HR := hid hr
  have HDD := hid hD
  obtain ⟨n0, n1, n2, n3, n4, n5, n6, n7, n8⟩ := hnine
  obtain ⟨r, hrr⟩ : ∃ r, n.wrong i M = r := ⟨_, rfl⟩
  have HRR := hid hrr
  rw [hrr]
  clear hrr hr hD H hn hM hab
  have HND := hid (ndC_eq n Av cv Al cl Af cf)
  have hfl := HR.out.fc
  have hfm := HR.out.fm
  have hll := HR.out.lc
  have hlm := HR.out.lm
  obtain ⟨k, lo, hi', v, l, f⟩ := n
  simp only at n0 n1 n2 n3 n4 n5 n6 n7 n8 HND hfl hfm hll hlm
  obtain ⟨x3, hx3⟩ : ∃ x, v.k = x := ⟨_, rfl⟩
  obtain ⟨x4, hx4⟩ : ∃ x, v.n = x := ⟨_, rfl⟩
  obtain ⟨x5, hx5⟩ : ∃ x, v.s = x := ⟨_, rfl⟩
  obtain ⟨x6, hx6⟩ : ∃ x, v.l.length = x := ⟨_, rfl⟩
  obtain ⟨x7, hx7⟩ : ∃ x, l.length = x := ⟨_, rfl⟩
  obtain ⟨x8, hx8⟩ : ∃ x, f.length = x := ⟨_, rfl⟩
  rw [hx3] at n3 HND
  rw [hx4] at n4 HND
  rw [hx5] at n5 HND
  rw [hx6] at n6 HND
  rw [hx7] at n7 HND hll hlm
  rw [hx8] at n8 HND hfl hfm
  have HX8 := hid hx8
  have m0 := fun o o' => cell_a (cell_a n0 o) o'
  have m1 := fun o o' => cell_a (cell_a n1 o) o'
  have m2 := fun o o' => cell_a (cell_a n2 o) o'
  have m3 := fun o o' => cell_a (cell_a n3 o) o'
  have m4 := fun o o' => cell_a (cell_a n4 o) o'
  have m5 := fun o o' => cell_a (cell_a n5 o) o'
  have m6 := fun o o' => cell_a (cell_a n6 o) o'
  have m7 := fun o o' => cell_a (cell_a n7 o) o'
  have m8 := fun o o' => cell_a (cell_a n8 o) o'
  clear n0 n1 n2 n3 n4 n5 n6 n7 n8
  clear hx3 hx4 hx5 hx6 hx7 hx8
  have hi0 : (0 : Int) ≤ (i : Int) := by omega
  have him : (i : Int) < (M : Int) := by omega
  have hic : (i : Int) < (c : Int) := by omega
  obtain ⟨w1, hw1⟩ : ∃ w1, ((w.alloc (.cells #[.slice (some ad) M c] 42)).alloc (.cells #[.int .i64 i] 3)).alloc (.cells #[.int .i64 k, .int .i64 lo, .int .i64 hi', .int .i64 x3, .int .u64 x4, .string x5, .slice Av x6 cv, .slice Al x7 cl, .slice Af x8 cf] 54) = w1 := ⟨_, rfl⟩
  have HF1 := hid (show Fr (fun _ => False) w w1 by rw [← hw1]; exact fr_3 _ _ _ _)
  have HBS := hid (show Blk w1 w.heap.size 42 #[.slice (some ad) M c] by rw [← hw1]; exact blk_1of3 _ _ _ _ _)
  have HBI := hid (show Blk w1 (w.heap.size + 1) 3 #[.int .i64 i] by rw [← hw1]; exact blk_2 _ _ _ _ _)
  have HBN := hid (show Blk w1 (w.heap.size + 1 + 1) 54 #[.int .i64 k, .int .i64 lo, .int .i64 hi', .int .i64 x3, .int .u64 x4, .string x5, .slice Av x6 cv, .slice Al x7 cl, .slice Af x8 cf] by rw [← hw1]; exact blk_3 _ _ _ _ _)
  have HW1 := hid hw1
  clear hw1
  have hkk : (k < 0 ∨ (¬ k < 0 ∧ 10 < k)) ∨ (¬ k < 0 ∧ ¬ 10 < k) := by omega
  rcases hkk with hkk | ⟨hk0, hk10⟩
  · have HE := hid (show r = 18 by rw [← HRR.out, Nod.wrong, if_pos (show k < 0 ∨ 10 < k by omega)])
    rcases hkk with hk0 | ⟨hk0, hk10⟩
    all_goals
      go_enter Tryd.func74, Tryd.ntmps74
      go_wp2_with fail
      rw [HW1.out]
      go_ret
      exact ⟨by rw [HE.out]; rfl, HF1.out⟩
  have HKK := hid (show ¬ (k < 0 ∨ 10 < k) by omega)
  go_enter Tryd.func74, Tryd.ntmps74
  go_wp2_with fail
  rw [HW1.out, ← HND.out]
  clear m0 m1 m2 m3 m4 m5 m6 m7 m8
  refine (bare_calls ⟨k, lo, hi', v, l, f⟩ h Av Al Af cv cl cf w1 (by exact HDD.out.fr0 HF1.out) (by exact HR.out.fr0 HF1.out)).mono ?_
  rintro e w2 ⟨Bv, dv, Bl, dl, Bf, df, rfl, hb, hf⟩
  have HB := hid hb
  have HF2 := hid hf
  obtain ⟨ok, hok⟩ : ∃ b, (⟨k, lo, hi', v, l, f⟩ : Nod).ok = b := ⟨_, rfl⟩
  have HOK := hid hok
  rw [hok]
  obtain ⟨m, hm⟩ : ∃ m, (⟨k, lo, hi', v, l, f⟩ : Nod).bare = m := ⟨_, rfl⟩
  have HM := hid hm
  rw [hm] at HB ⊢
  have HNM := hid (ndC_eq m Bv dv Bl dl Bf df)
  rw [ndC_eq]
  clear hb hf hok hm
  obtain ⟨mk, mlo, mhi, mv, ml, mf⟩ := m
  simp only at HNM ⊢
  obtain ⟨y3, hy3⟩ : ∃ x, mv.k = x := ⟨_, rfl⟩
  obtain ⟨y4, hy4⟩ : ∃ x, mv.n = x := ⟨_, rfl⟩
  obtain ⟨y5, hy5⟩ : ∃ x, mv.s = x := ⟨_, rfl⟩
  obtain ⟨y6, hy6⟩ : ∃ x, mv.l.length = x := ⟨_, rfl⟩
  obtain ⟨y7, hy7⟩ : ∃ x, ml.length = x := ⟨_, rfl⟩
  obtain ⟨y8, hy8⟩ : ∃ x, mf.length = x := ⟨_, rfl⟩
  rw [hy3, hy4, hy5, hy6, hy7, hy8] at HNM ⊢
  clear hy3 hy4 hy5 hy6 hy7 hy8
  obtain ⟨w3, hw3⟩ : ∃ w3, w2.alloc (.cells #[.int .i64 mk, .int .i64 mlo, .int .i64 mhi, .int .i64 y3, .int .u64 y4, .string y5, .slice Bv y6 dv, .slice Bl y7 dl, .slice Bf y8 df] 54) = w3 := ⟨_, rfl⟩
  have HF3 := hid (show Fr (fun _ => False) w1 w3 by rw [← hw3]; exact HF2.out.alloc _)
  have HF23 := hid (show Fr (fun _ => False) w2 w3 by rw [← hw3]; exact (Fr.refl _ _).alloc _)
  have HBM := hid (show Blk w3 w2.heap.size 54 #[.int .i64 mk, .int .i64 mlo, .int .i64 mhi, .int .i64 y3, .int .u64 y4, .string y5, .slice Bv y6 dv, .slice Bl y7 dl, .slice Bf y8 df] by rw [← hw3]; exact Blk.new _ _ _)
  have HW3 := hid hw3
  clear hw3
  have HC3 := hid (show ∀ w', Fr (fun _ => False) w1 w' → w'.cell? ⟨w.heap.size, 0, none⟩ = some (.slice (some ad) M c) ∧ w'.cell? ⟨w.heap.size + 1, 0, none⟩ = some (.int .i64 i) ∧ Blk w' (w.heap.size + 1 + 1) 54 #[.int .i64 k, .int .i64 lo, .int .i64 hi', .int .i64 x3, .int .u64 x4, .string x5, .slice Av x6 cv, .slice Al x7 cl, .slice Af x8 cf] from fun w' hf => ⟨(blk1 (HBS.out.fr hf (fun h => h))).1, (blk1 (HBI.out.fr hf (fun h => h))).1, HBN.out.fr hf (fun h => h)⟩)
  obtain ⟨c0, c1, c2, c3, c4, c5, c6, c7, c8⟩ := blk9 (HC3.out _ HF2.out).2.2
  have d0 := fun o => cell_a c0 o
  have d1 := fun o => cell_a c1 o
  have d2 := fun o => cell_a c2 o
  have d3 := fun o => cell_a c3 o
  have d4 := fun o => cell_a c4 o
  have d5 := fun o => cell_a c5 o
  have d6 := fun o => cell_a c6 o
  have d7 := fun o => cell_a c7 o
  have d8 := fun o => cell_a c8 o
  clear c0 c1 c2 c3 c4 c5 c6 c7 c8
  have HFB := hid (show (⟨k, lo, hi', v, l, f⟩ : Nod).formB = (ok && decide ((⟨mk, mlo, mhi, mv, ml, mf⟩ : Nod) = ⟨k, lo, hi', v, l, f⟩)) by rw [Nod.formB, HOK.out, HM.out])
  cases ok with
  | false =>
    have HE := hid (show r = 11 by rw [← HRR.out, Nod.wrong, if_neg HKK.out, if_pos (by rw [HFB.out]; rfl)])
    go_wp2_with fail
    rw [HW3.out]
    go_ret
    exact ⟨by rw [HE.out]; rfl, HF1.out.trans HF3.out⟩
  | true =>
  go_wp2_with fail
  rw [HW3.out, ← HND.out, ← HNM.out]
  refine (nsame_calls ⟨mk, mlo, mhi, mv, ml, mf⟩ ⟨k, lo, hi', v, l, f⟩ h h Bv Bl Bf Av Al Af dv dl df cv cl cf w3 (by exact HB.out.fr0 HF23.out) (by exact (HR.out.fr0 HF1.out).fr0 HF3.out)).mono ?_
  rintro e w4 ⟨rfl, hf⟩
  have HF4 := hid (HF3.out.then_ hf (fun _ _ h => h))
  obtain ⟨fb, hfb⟩ : ∃ b, decide ((⟨mk, mlo, mhi, mv, ml, mf⟩ : Nod) = ⟨k, lo, hi', v, l, f⟩) = b := ⟨_, rfl⟩
  rw [hfb] at HFB ⊢
  clear hf hfb d0 d1 d2 d3 d4 d5 d6 d7 d8
  cases fb with
  | false =>
    have HE := hid (show r = 11 by rw [← HRR.out, Nod.wrong, if_neg HKK.out, if_pos (by rw [HFB.out]; rfl)])
    go_wp2_with fail
    go_ret
    exact ⟨by rw [HE.out]; rfl, HF1.out.trans HF4.out⟩
  | true =>
  have HFT := hid (show ¬ (⟨k, lo, hi', v, l, f⟩ : Nod).formB = false by rw [HFB.out]; simp)
  obtain ⟨c0, c1, c2, c3, c4, c5, c6, c7, c8⟩ := blk9 (HC3.out _ HF4.out).2.2
  go_wp2_with fail
  rw [← HND.out]
  refine (bounds_calls ⟨k, lo, hi', v, l, f⟩ Av cv Al cl Af cf w4).mono ?_
  rintro e w5 ⟨rfl, hf⟩
  have HF5 := hid (HF4.out.then_ hf (fun _ _ h => h))
  obtain ⟨bb, hbb⟩ : ∃ b, (⟨k, lo, hi', v, l, f⟩ : Nod).bounds = b := ⟨_, rfl⟩
  have HBB := hid hbb
  rw [hbb]
  clear hf hbb c0 c1 c2 c3 c4 c5 c6 c7 c8
  cases bb with
  | false =>
    have HE := hid (show r = 15 by rw [← HRR.out, Nod.wrong, if_neg HKK.out, if_neg HFT.out, if_pos HBB.out])
    go_wp2_with fail
    go_ret
    exact ⟨by rw [HE.out]; rfl, HF1.out.trans HF5.out⟩
  | true =>
  have HBT := hid (show ¬ (⟨k, lo, hi', v, l, f⟩ : Nod).bounds = false by rw [HBB.out]; simp)
  obtain ⟨_, _, _, _, _, _, _, _, c8⟩ := blk9 (HC3.out _ HF5.out).2.2
  go_wp2_with fail
  refine (keys_calls Af x8 cf f w5 HX8.out hfl hfm (by exact (HR.out.f.fr0 HF1.out).fr0 HF5.out)).mono ?_
  rintro e w6 ⟨rfl, hf⟩
  have HF6 := hid (HF5.out.then_ hf (fun _ _ h => h))
  obtain ⟨ke, hke⟩ : ∃ b, keysE [] f = b := ⟨_, rfl⟩
  have HKE := hid hke
  rw [hke]
  clear hf hke c8
  by_cases hk : ke = 0
  · subst hk
    obtain ⟨cs, ci, hcn⟩ := HC3.out _ HF6.out
    obtain ⟨c0, c1, c2, c3, c4, c5, c6, c7, c8⟩ := blk9 hcn
    clear hcn cs ci
    go_wp2_with fail
    rw [← HND.out]
    refine (named_calls ⟨k, lo, hi', v, l, f⟩ h Av cv Al cl Af cf w6 (by exact (HR.out.fr0 HF1.out).fr0 HF6.out)).mono ?_
    rintro e w7 ⟨A7, c7', rfl, ho, hf⟩
    have HF7 := hid (HF6.out.then_ hf (fun _ _ h => h))
    have HO := hid ho
    obtain ⟨nm, hnm⟩ : ∃ x, (⟨k, lo, hi', v, l, f⟩ : Nod).named = x := ⟨_, rfl⟩
    have HNM2 := hid hnm
    rw [hnm] at HO ⊢
    obtain ⟨q, hq⟩ : ∃ q, nm.length = q := ⟨_, rfl⟩
    have HQ := hid hq
    rw [hq] at HO ⊢
    have hq2 : q ≤ 2097152 := by
      have h1 := HQ.out
      have h2 := HNM2.out
      have h3 := HR.out.lm
      have h4 := HR.out.fm
      rw [← h1, ← h2]
      simp only [Nod.named, List.length_append, List.length_map] at h3 h4 ⊢
      omega
    have hqc : q ≤ c7' := by
      obtain ⟨A', c', e1, e2, _⟩ := HO.out.form
      injection e1 with _ e1 e3
      omega
    clear ho hf hnm hq c0 c1 c2 c3 c4 c5 c6 c7 c8
    go_wp2_with fail
    refine (contains_calls A7 q c7' nm i M c (w.heap.size + 1) w.heap.size (some ad) w7 HQ.out hqc (by omega) HO.out.rd.1 (HC3.out _ HF7.out).2.1 (HC3.out _ HF7.out).1).mono ?_
    rintro e w8 ⟨rfl, rfl⟩
    obtain ⟨bn, hbn⟩ : ∃ b, nm.any (badN i M) = b := ⟨_, rfl⟩
    have HBN2 := hid hbn
    rw [hbn]
    clear hbn
    have HE := hid (show r = if bn = true then 13 else 0 by rw [← HRR.out, Nod.wrong, if_neg HKK.out, if_neg HFT.out, if_neg HBT.out, if_neg (by simp only; rw [HKE.out]; simp), HNM2.out, HBN2.out])
    cases bn with
    | true =>
      go_wp2_with fail
      go_ret
      exact ⟨by rw [HE.out]; rfl, HF1.out.trans HF7.out⟩
    | false =>
      go_wp2_with fail
      go_ret
      exact ⟨by rw [HE.out]; rfl, HF1.out.trans HF7.out⟩
  · have hkb : (ke != 0) = true := bne_iff_ne.2 hk
    have HE := hid (show r = ke by rw [← HRR.out, Nod.wrong, if_neg HKK.out, if_neg HFT.out, if_neg HBT.out, if_pos (by simp only; rw [HKE.out]; exact hk)]; exact HKE.out)
    clear hk
    go_wp2_with fail
    go_ret
    exact ⟨by rw [HE.out]; rfl, HF1.out.trans HF6.out⟩
end Go.Proofs.YtkmgiodhaaajjaaDoor.SchI

namespace Go.Proofs.YtkmgiodhaaajjaaDoor.SchJ
open Go.IntWalk Go.RowKit Go.Proofs.YtkmgiodhaaajjaaDoor.Mem Go.Proofs.YtkmgiodhaaajjaaDoor.App Go.Proofs.YtkmgiodhaaajjaaDoor.FloatB Go.Proofs.YtkmgiodhaaajjaaDoor.ItemP Go.Proofs.YtkmgiodhaaajjaaDoor.ItemM Go.Proofs.YtkmgiodhaaajjaaDoor.SchP Go.Proofs.YtkmgiodhaaajjaaDoor.SchM Go.Proofs.YtkmgiodhaaajjaaDoor.SchA Go.Proofs.YtkmgiodhaaajjaaDoor.SchB Go.Proofs.YtkmgiodhaaajjaaDoor.SchC Go.Proofs.YtkmgiodhaaajjaaDoor.SchD Go.Proofs.YtkmgiodhaaajjaaDoor.SchE Go.Proofs.YtkmgiodhaaajjaaDoor.SchF Go.Proofs.YtkmgiodhaaajjaaDoor.SchG Go.Proofs.YtkmgiodhaaajjaaDoor.SchH Go.Proofs.YtkmgiodhaaajjaaDoor.SchI

theorem ret_two {a b : Int} {p : Int × Int} (h : p = (a, b)) : Ending.returned (.tuple #[.int .i64 a, .int .i64 b]) = .returned (.tuple #[.int .i64 p.1, .int .i64 p.2]) := by rw [h]

set_option maxRecDepth 20000 in
set_option maxHeartbeats 4000000 in
theorem scheck_calls (ns : List Nod) (A : Option Addr) (M c h : Nat) (w : World) (hM : ns.length = M) (hc : M ≤ c) (hMm : M ≤ 1048576) (hD : Dbl w) (H : RdN w h A ns) :
    Calls Tryd.prog 28 #[.agg #[.slice A M c]] w fun e w' => e = .returned (.tuple #[.int .i64 (checkS ns).1, .int .i64 (checkS ns).2]) ∧ Fr (fun _ => False) w w' := by
  have HR := hid H
  have HDD := hid hD
  have HM := hid hM
  clear H hD hM
  obtain ⟨w1, hw1⟩ : ∃ w1, w.alloc (.cells #[.slice A M c] 42) = w1 := ⟨_, rfl⟩
  have HF1 := hid (show Fr (fun _ => False) w w1 by rw [← hw1]; exact (Fr.refl _ w).alloc _)
  have HBS := hid (show Blk w1 w.heap.size 42 #[.slice A M c] by rw [← hw1]; exact Blk.new w _ _)
  have HW1 := hid hw1
  clear hw1
  have hbad : (M < 1 ∨ (¬ M < 1 ∧ 256 < M)) ∨ (¬ M < 1 ∧ ¬ 256 < M) := by omega
  rcases hbad with hbad | ⟨h1, h2⟩
  · have HE := hid (show checkS ns = (0, 16) by rw [checkS, if_pos (by rw [HM.out]; omega)])
    rcases hbad with h1 | ⟨h1, h2⟩
    all_goals
      go_enter Tryd.func28, Tryd.ntmps28
      go_wp2_with fail
      rw [HW1.out]
      go_ret2
      exact ⟨ret_two HE.out, HF1.out⟩
  · have HE := hid (show checkS ns = checkFrom ns 0 M by rw [checkS, if_neg (by rw [HM.out]; omega), HM.out])
    go_enter Tryd.func28, Tryd.ntmps28
    go_wp2_with fail
    rw [HW1.out]
    go_loopw [19] (fun i wr => ∃ j : Nat, j ≤ M ∧ i = .int .i64 j ∧ Hid (∀ q (hq : q < ns.length), q < j → (ns[q]).wrong q M = 0) ∧ Hid (Fr (fun _ => False) w1 wr)) (fun i _ => M - (intOf i).toNat)
    case atStart => exact ⟨0, Nat.zero_le _, rfl, hid (fun q hq h => by omega), hid (Fr.refl _ _)⟩
    case round =>
      obtain ⟨j, hj, rfl, HA, HF⟩ := hrel
      obtain ⟨c0, _⟩ := blk1 (HBS.out.fr HF.out (fun h => h))
      by_cases hlt : j < M
      · have hj0 : (0 : Int) ≤ (j : Int) := by omega
        have hjm : (j : Int) < (M : Int) := by omega
        go_wp2_with fail
        refine (swrong_calls ns j A M c h wr HM.out hc hMm hlt (by exact (HDD.out.fr0 HF1.out).fr0 HF.out) (by exact (HR.out.fr0 HF1.out).fr0 HF.out)).mono ?_
        rintro e w2 ⟨rfl, hf⟩
        have HF2 := hid (HF.out.then_ hf (fun _ _ h => h))
        obtain ⟨x, hx⟩ : ∃ x, (ns[j]'(by rw [HM.out]; exact hlt)).wrong j M = x := ⟨_, rfl⟩
        have HX := hid hx
        rw [hx]
        clear hf hx c0
        by_cases h0 : x = 0
        · subst h0
          go_wp2_with fail
          go_roundw
          case rel => exact ⟨j + 1, by omega, by go_num, hid (fun q hq h => by
            by_cases h3 : q < j
            · exact HA.out q hq h3
            · obtain rfl : q = j := by omega
              exact HX.out), HF2⟩
          case measure => simp [intOf]; omega
        · have hb : (x != 0) = true := bne_iff_ne.2 h0
          have HX0 := hid h0
          clear h0
          go_wp2_with fail
          go_ret2
          refine ⟨ret_two ?_, HF1.out.trans HF2.out⟩
          rw [HE.out, checkFrom_at ns 0 M j (by rw [HM.out]; exact hlt) (fun k hk => by
            have := HA.out k (by rw [HM.out]; omega) hk
            simpa using this) (by
            have := HX.out
            simp only [Nat.zero_add]
            rw [this]
            exact HX0.out)]
          simp only [Nat.zero_add, HX.out]
      · obtain rfl : j = M := by omega
        go_wp2_with fail
        go_ret2
        refine ⟨ret_two ?_, HF1.out.trans HF.out⟩
        rw [HE.out]
        exact checkFrom_all ns 0 j (fun q hq => by
          have := HA.out q hq (by rw [HM.out] at hq; exact hq)
          simpa using this)

set_option maxRecDepth 100000 in
set_option maxHeartbeats 8000000 in
theorem eqnodes_calls (xs ys : List Nod) (A B : Option Addr) (n m c d h h' : Nat) (w : World) (hn : xs.length = n) (hm : ys.length = m) (hc : n ≤ c) (hd : m ≤ d) (hl : n ≤ 1048576) (hx : RdN w h A xs) (hy : RdN w h' B ys) :
    Calls Tryd.prog 76 #[.slice A n c, .slice B m d, .func (.func 77) #[] #[]] w fun e w' => e = .returned (.bool (decide (xs = ys))) ∧ Fr (fun _ => False) w w' := by
  have HN := hid hn
  have HM := hid hm
  have HX := hid hx
  have HY := hid hy
  clear hn hm hx hy
  by_cases hnm : n = m
  · subst hnm
    go_enter Tryd.func76, Tryd.ntmps76
    go_wp2_with fail
    go_loopw [17] (fun i wr => ∃ j : Nat, j ≤ n ∧ i = .int .i64 j ∧ Hid (∀ i, i < j → xs[i]? = ys[i]?) ∧ Hid (Fr (fun _ => False) w wr)) (fun i _ => n - (intOf i).toNat)
    case atStart => exact ⟨0, Nat.zero_le _, rfl, hid (fun i hi => by omega), hid (Fr.refl _ _)⟩
    case round =>
      obtain ⟨j, hj, rfl, HA, HF⟩ := hrel
      by_cases hlt : j < n
      · obtain ⟨ad, Av, cv, Al, cl, Af, cf, rfl, _, hnine, hr⟩ := RdN.at_ (HX.out.fr0 HF.out) j (by rw [HN.out]; exact hlt)
        obtain ⟨be, Bv, dv, Bl, dl, Bf, df, rfl, _, hnine', hr'⟩ := RdN.at_ (HY.out.fr0 HF.out) j (by rw [HM.out]; exact hlt)
        have HGX := hid (List.getElem?_eq_getElem (show j < xs.length by rw [HN.out]; exact hlt))
        have HGY := hid (List.getElem?_eq_getElem (show j < ys.length by rw [HM.out]; exact hlt))
        obtain ⟨x, hx⟩ : ∃ x, xs[j]'(by rw [HN.out]; exact hlt) = x := ⟨_, rfl⟩
        obtain ⟨y, hy⟩ : ∃ y, ys[j]'(by rw [HM.out]; exact hlt) = y := ⟨_, rfl⟩
        rw [hx] at hnine hr HGX
        rw [hy] at hnine' hr' HGY
        have HRX := hid hr
        have HRY := hid hr'
        obtain ⟨n0, n1, n2, n3, n4, n5, n6, n7, n8⟩ := hnine
        obtain ⟨p0, p1, p2, p3, p4, p5, p6, p7, p8⟩ := hnine'
        replace p0 := fun o => cell_a p0 o
        replace p1 := fun o => cell_a p1 o
        replace p2 := fun o => cell_a p2 o
        replace p3 := fun o => cell_a p3 o
        replace p4 := fun o => cell_a p4 o
        replace p5 := fun o => cell_a p5 o
        replace p6 := fun o => cell_a p6 o
        replace p7 := fun o => cell_a p7 o
        replace p8 := fun o => cell_a p8 o
        have HDX := hid (ndC_eq x Av cv Al cl Af cf)
        have HDY := hid (ndC_eq y Bv dv Bl dl Bf df)
        have hj0 : (0 : Int) ≤ (j : Int) := by omega
        have hjm : (j : Int) < (n : Int) := by omega
        have hjc : (j : Int) < (c : Int) := by omega
        have hjd : (j : Int) < (d : Int) := by omega
        obtain ⟨x6, hx6⟩ : ∃ q, x.v.l.length = q := ⟨_, rfl⟩
        obtain ⟨x7, hx7⟩ : ∃ q, x.l.length = q := ⟨_, rfl⟩
        obtain ⟨x8, hx8⟩ : ∃ q, x.f.length = q := ⟨_, rfl⟩
        obtain ⟨y6, hy6⟩ : ∃ q, y.v.l.length = q := ⟨_, rfl⟩
        obtain ⟨y7, hy7⟩ : ∃ q, y.l.length = q := ⟨_, rfl⟩
        obtain ⟨y8, hy8⟩ : ∃ q, y.f.length = q := ⟨_, rfl⟩
        rw [hx6] at n6 HDX
        rw [hx7] at n7 HDX
        rw [hx8] at n8 HDX
        rw [hy6] at p6 HDY
        rw [hy7] at p7 HDY
        rw [hy8] at p8 HDY
        clear hx hy hr hr' hx6 hx7 hx8 hy6 hy7 hy8
        have HFA := hid (fun o o' => show Fr (fun _ => False) wr ((wr.alloc o).alloc o') from ((Fr.refl _ wr).alloc o).alloc o')
        go_wp2_with fail
        rw [← HDX.out, ← HDY.out]
        refine (nsame_calls x y h h' Av Al Af Bv Bl Bf cv cl cf dv dl df _ (by exact HRX.out.fr0 (HFA.out _ _)) (by exact HRY.out.fr0 (HFA.out _ _))).mono ?_
        rintro e w2 ⟨rfl, hf⟩
        have HF2 := hid (HF.out.then_ ((HFA.out _ _).then_ hf (fun _ _ h => h)) (fun _ _ h => h))
        obtain ⟨b, hb⟩ : ∃ b, decide (x = y) = b := ⟨_, rfl⟩
        have HB := hid hb
        rw [hb]
        clear hf hb n0 n1 n2 n3 n4 n5 n6 n7 n8 p0 p1 p2 p3 p4 p5 p6 p7 p8
        cases b with
        | true =>
          have HE := hid (of_decide_eq_true HB.out)
          go_wp2_with fail
          go_roundw
          case rel => exact ⟨j + 1, by omega, by go_num, hid (fun i hi => by
            by_cases h : i < j
            · exact HA.out i h
            · obtain rfl : i = j := by omega
              rw [HGX.out, HGY.out, HE.out]), HF2⟩
          case measure => simp [intOf]; omega
        | false =>
          have HE := hid (of_decide_eq_false HB.out)
          go_wp2_with fail
          go_ret
          refine ⟨ret_bool ?_, HF2.out⟩
          rw [decide_eq_false]
          intro h
          have h2 := HGX.out
          rw [h, HGY.out] at h2
          exact HE.out (Option.some.inj h2).symm
      · obtain rfl : j = n := by omega
        go_wp2_with fail
        go_ret
        refine ⟨ret_bool ?_, HF.out⟩
        rw [decide_eq_true]
        apply List.ext_getElem?
        intro i
        by_cases hi : i < j
        · exact HA.out i hi
        · rw [List.getElem?_eq_none (by rw [HN.out]; omega), List.getElem?_eq_none (by rw [HM.out]; omega)]
  · have hb : ((n : Int) != (m : Int)) = true := bne_iff_ne.2 (by omega)
    have HNM := hid hnm
    clear hnm
    go_enter Tryd.func76, Tryd.ntmps76
    go_wp2_with fail
    go_ret
    refine ⟨ret_bool ?_, Fr.refl _ _⟩
    rw [decide_eq_false]
    intro h
    exact HNM.out (by rw [← HN.out, ← HM.out, h])

set_option maxRecDepth 20000 in
set_option maxHeartbeats 4000000 in
theorem ssame_calls (xs ys : List Nod) (A B : Option Addr) (n m c d h h' : Nat) (w : World) (hn : xs.length = n) (hm : ys.length = m) (hc : n ≤ c) (hd : m ≤ d) (hl : n ≤ 1048576) (hx : RdN w h A xs) (hy : RdN w h' B ys) :
    Calls Tryd.prog 30 #[.agg #[.slice A n c], .agg #[.slice B m d]] w fun e w' => e = .returned (.bool (decide (xs = ys))) ∧ Fr (fun _ => False) w w' := by
  have HN := hid hn
  have HM := hid hm
  have HX := hid hx
  have HY := hid hy
  clear hn hm hx hy
  have HFA := hid (fun o o' => show Fr (fun _ => False) w ((w.alloc o).alloc o') from ((Fr.refl _ w).alloc o).alloc o')
  go_enter Tryd.func30, Tryd.ntmps30
  go_wp2_with fail
  refine (eqnodes_calls xs ys A B n m c d h h' _ HN.out HM.out hc hd hl (by exact HX.out.fr0 (HFA.out _ _)) (by exact HY.out.fr0 (HFA.out _ _))).mono ?_
  rintro e w2 ⟨rfl, hf⟩
  have HF2 := hid ((HFA.out _ _).then_ hf (fun _ _ h => h))
  clear hf
  go_wp2_with fail
  go_ret
  exact ⟨rfl, HF2.out⟩
theorem swidth_calls (A : Option Addr) (M c : Nat) (w : World) (hMm : M ≤ 1048576) :
    Calls Tryd.prog 32 #[.agg #[.slice A M c]] w fun e w' => e = .returned (.int .i64 (((M + 63) / 64 : Nat) : Int)) ∧ Fr (fun _ => False) w w' := by
  have HFA := hid (fun o => show Fr (fun _ => False) w (w.alloc o) from (Fr.refl _ w).alloc o)
  have HE := hid (show ((M : Int) + 63) / 64 = (((M + 63) / 64 : Nat) : Int) by omega)
  go_enter Tryd.func32, Tryd.ntmps32
  go_wp2_with fail
  go_ret
  exact ⟨ret_int HE.out, HFA.out _⟩
end Go.Proofs.YtkmgiodhaaajjaaDoor.SchJ
