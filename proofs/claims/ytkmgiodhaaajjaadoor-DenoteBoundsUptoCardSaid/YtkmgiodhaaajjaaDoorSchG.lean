/- Layer schema: a node with the fields of its kind alone. -/
import Derived.Test.YtkmgiodhaaajjaaDoorSchF
import Derived.Test.YtkmgiodhaaajjaaDoorItemS
import Derived.Laws.ResultCell
import Derived.RegionTactic
import Derived.ChangeAlike
set_option linter.unusedVariables false
set_option linter.unusedSimpArgs false
namespace Go.Proofs.YtkmgiodhaaajjaaDoor.SchG
open Go.IntWalk Go.RowKit Go.Proofs.YtkmgiodhaaajjaaDoor.Mem Go.Proofs.YtkmgiodhaaajjaaDoor.App Go.Proofs.YtkmgiodhaaajjaaDoor.FloatB Go.Proofs.YtkmgiodhaaajjaaDoor.ItemP Go.Proofs.YtkmgiodhaaajjaaDoor.ItemM Go.Proofs.YtkmgiodhaaajjaaDoor.ItemS Go.Proofs.YtkmgiodhaaajjaaDoor.SchP Go.Proofs.YtkmgiodhaaajjaaDoor.SchM Go.Proofs.YtkmgiodhaaajjaaDoor.SchA Go.Proofs.YtkmgiodhaaajjaaDoor.SchC Go.Proofs.YtkmgiodhaaajjaaDoor.SchF

theorem results_row_tmp {P : Program} {fn : Func} {p u : Tmp} {ty : TypeId} (h : fn.results = #[.cell p ty, .tmp u]) (tmps : Array Value) (w : World) (g : Nat) (t : TypeId) (cs : Array Value) (fr : Nat × Nat) (d : TypeDesc)
    (hp : tmps.getD p undef = .pointer (some ⟨g, 0, none⟩)) (hg : w.heap[g]? = some (.cells cs t fr))
    (hu : P.underlying ty = some d) (hd : (match d with | .struct _ | .array _ _ => true | _ => false) = true) (hi : (P.info? ty).map (·.size) = some cs.size) :
    (results fn tmps).run P w = .ok (.tuple #[.agg cs, tmps.getD u undef]) w := by
  rw [results_cell_tmp h, hp]
  simp [asAddr, run_loadVar_row w g t ty cs fr d hg hu hd hi]
theorem sizeNode : (Tryd.prog.info? 54).map (·.size) = some 9 := by kernel_rfl
/-- A node of which some parts are left out. -/
theorem NdR.sub {w : World} {h : Nat} {n : Nod} {Av Al Af : Option Addr} {cv cl cf : Nat} (H : NdR w h n Av cv Al cl Af cf) (m : Nod) {A1 A2 A3 : Option Addr} {c1 c2 c3 : Nat} (hk : m.k = n.k) (hlo : m.lo = n.lo ∨ m.lo = 0) (hhi : m.hi = n.hi ∨ m.hi = 0)
    (hv : (m.v = n.v ∧ A1 = Av ∧ c1 = cv) ∨ (m.v = noIt ∧ A1 = none ∧ c1 = 0)) (hl : (m.l = n.l ∧ A2 = Al ∧ c2 = cl) ∨ (m.l = [] ∧ A2 = none ∧ c2 = 0)) (hf : (m.f = n.f ∧ A3 = Af ∧ c3 = cf) ∨ (m.f = [] ∧ A3 = none ∧ c3 = 0)) : NdR w h m A1 c1 A2 c2 A3 c3 := by
  refine ⟨H.hh, ?_, ?_, ?_, ?_, ?_, ?_, ?_, ?_, by rw [hk]; exact H.kr, ?_, ?_, ?_⟩
  · rcases hv with ⟨e, rfl, rfl⟩ | ⟨e, rfl, rfl⟩
    · rw [e]; exact H.v
    · rw [e]; exact noIt_at w h
  · rcases hl with ⟨e, rfl, rfl⟩ | ⟨e, rfl, rfl⟩
    · rw [e]; exact H.l
    · rw [e]; exact rdI_nil _ _ _
  · rcases hf with ⟨e, rfl, rfl⟩ | ⟨e, rfl, rfl⟩
    · rw [e]; exact H.f
    · rw [e]; exact RdF.nil _ _
  · rcases hl with ⟨e, rfl, rfl⟩ | ⟨e, rfl, rfl⟩
    · rw [e]; exact H.lc
    · rw [e]; simp
  · rcases hf with ⟨e, rfl, rfl⟩ | ⟨e, rfl, rfl⟩
    · rw [e]; exact H.fc
    · rw [e]; simp
  · rcases hl with ⟨e, _⟩ | ⟨e, _⟩
    · rw [e]; exact H.lm
    · rw [e]; simp
  · rcases hf with ⟨e, _⟩ | ⟨e, _⟩
    · rw [e]; exact H.fm
    · rw [e]; simp
  · rcases hv with ⟨e, _⟩ | ⟨e, _⟩
    · rw [e]; exact H.vm
    · rw [e]; decide
  · rcases hlo with e | e
    · rw [e]; exact H.lor
    · rw [e]; omega
  · rcases hhi with e | e
    · rw [e]; exact H.hir
    · rw [e]; omega
  · rcases hl with ⟨e, _⟩ | ⟨e, _⟩
    · rw [e]; exact H.ln
    · rw [e]; simp
theorem blk_2 (w : World) (o : Obj) (cs : Array Value) (t : TypeId) (o' : Obj) : Blk (((w.alloc o).alloc (.cells cs t)).alloc o') (w.heap.size + 1) t cs := by
  have := (Blk.new (w.alloc o) t cs).alloc o'
  rwa [World.size_alloc] at this
theorem fr_3 (w : World) (a b c : Obj) : Fr (fun _ => False) w (((w.alloc a).alloc b).alloc c) := (((Fr.refl _ w).alloc _).alloc _).alloc _
/-- What bare hands back. -/
def Bare (w : World) (h : Nat) (n : Nod) (e : Ending) (w' : World) : Prop :=
  ∃ (Av : Option Addr) (cv : Nat) (Al : Option Addr) (cl : Nat) (Af : Option Addr) (cf : Nat), e = .returned (.tuple #[.agg (ndC n.bare Av cv Al cl Af cf), .bool n.ok]) ∧ NdR w' h n.bare Av cv Al cl Af cf ∧ Fr (fun _ => False) w w'
theorem bare_mk {w w' : World} {h : Nat} {n m : Nod} {b : Bool} {e : Ending} {Av Al Af : Option Addr} {cv cl cf : Nat} (hm : n.bare = m) (hb : n.ok = b) (he : e = .returned (.tuple #[.agg (ndC m Av cv Al cl Af cf), .bool b])) (hr : NdR w' h m Av cv Al cl Af cf) (hf : Fr (fun _ => False) w w') : Bare w h n e w' := by
  subst hm hb
  exact ⟨Av, cv, Al, cl, Af, cf, he, hr, hf⟩

set_option maxRecDepth 100000 in
set_option maxHeartbeats 4000000 in
theorem bare_k8 (k lo hi : Int) (v : It) (l : List Int) (f : List Fld) (hk : k = 8) (h : Nat) (Av Al Af : Option Addr) (cv cl cf : Nat) (w : World) (hD : Dbl w) (H : NdR w h ⟨k, lo, hi, v, l, f⟩ Av cv Al cl Af cf) :
    Calls Tryd.prog 100 #[.agg (ndC ⟨k, lo, hi, v, l, f⟩ Av cv Al cl Af cf)] w fun e w' => Bare w h ⟨k, lo, hi, v, l, f⟩ e w' := by
  have HR := hid H
  have HDD := hid hD
  rw [ndC_eq]
  simp only
  obtain ⟨x3, hx3⟩ : ∃ x, v.k = x := ⟨_, rfl⟩
  obtain ⟨x4, hx4⟩ : ∃ x, v.n = x := ⟨_, rfl⟩
  obtain ⟨x5, hx5⟩ : ∃ x, v.s = x := ⟨_, rfl⟩
  obtain ⟨x6, hx6⟩ : ∃ x, v.l.length = x := ⟨_, rfl⟩
  obtain ⟨x7, hx7⟩ : ∃ x, l.length = x := ⟨_, rfl⟩
  obtain ⟨x8, hx8⟩ : ∃ x, f.length = x := ⟨_, rfl⟩
  have HX3 := hid hx3
  have HX4 := hid hx4
  have HX5 := hid hx5
  have HX6 := hid hx6
  have HX7 := hid hx7
  have HX8 := hid hx8
  rw [hx3, hx4, hx5, hx6, hx7, hx8]
  clear hx3 hx4 hx5 hx6 hx7 hx8 H hD
  obtain ⟨b0, hb0⟩ : ∃ b, ((x7 : Int) == 0) = b := ⟨_, rfl⟩
  have HB0 := hid (show decide (l.length = 0) = b0 by rw [HX7.out, ← hb0, Bool.eq_iff_iff]; simp)

  have HBARE := hid (show (⟨k, lo, hi, v, l, f⟩ : Nod).bare = ⟨8, 0, 0, noIt, [], f⟩ by subst hk; simp [Nod.bare])
  have HOK := hid (show (⟨k, lo, hi, v, l, f⟩ : Nod).ok = b0 by subst hk; rw [← HB0.out]; simp [Nod.ok])
  subst hk
  go_enter Tryd.func100, Tryd.ntmps100
  go_wp2_with fail
  all_goals
    refine bodyPost_ret (results_row_tmp rfl _ _ (w.heap.size + 1) 54 _ (0, 0) _ rfl (by first | exact blk_2 _ _ _ _ _ | exact (blk_2 _ _ _ _ _).drew) Tryd.underlying54 rfl (by exact sizeNode)) rfl ?_
    refine bare_mk HBARE.out HOK.out ?_ ((NdR.sub HR.out ⟨8, 0, 0, noIt, [], f⟩ rfl (.inr rfl) (.inr rfl) (.inr ⟨rfl, rfl, rfl⟩) (.inr ⟨rfl, rfl, rfl⟩) (.inl ⟨rfl, rfl, rfl⟩)).fr0 (by first | exact fr_3 _ _ _ _ | exact (fr_3 _ _ _ _).drew)) (by first | exact fr_3 _ _ _ _ | exact (fr_3 _ _ _ _).drew)
    rw [ndC_eq]
    simp only [HX3.out, HX4.out, HX5.out, HX6.out, HX7.out, HX8.out, noIt, It.k, It.n, It.s, It.l, List.length_nil]
    rfl

set_option maxRecDepth 100000 in
set_option maxHeartbeats 4000000 in
theorem bare_k7 (k lo hi : Int) (v : It) (l : List Int) (f : List Fld) (hk : k = 7) (h : Nat) (Av Al Af : Option Addr) (cv cl cf : Nat) (w : World) (hD : Dbl w) (H : NdR w h ⟨k, lo, hi, v, l, f⟩ Av cv Al cl Af cf) :
    Calls Tryd.prog 100 #[.agg (ndC ⟨k, lo, hi, v, l, f⟩ Av cv Al cl Af cf)] w fun e w' => Bare w h ⟨k, lo, hi, v, l, f⟩ e w' := by
  have HR := hid H
  have HDD := hid hD
  rw [ndC_eq]
  simp only
  obtain ⟨x3, hx3⟩ : ∃ x, v.k = x := ⟨_, rfl⟩
  obtain ⟨x4, hx4⟩ : ∃ x, v.n = x := ⟨_, rfl⟩
  obtain ⟨x5, hx5⟩ : ∃ x, v.s = x := ⟨_, rfl⟩
  obtain ⟨x6, hx6⟩ : ∃ x, v.l.length = x := ⟨_, rfl⟩
  obtain ⟨x7, hx7⟩ : ∃ x, l.length = x := ⟨_, rfl⟩
  obtain ⟨x8, hx8⟩ : ∃ x, f.length = x := ⟨_, rfl⟩
  have HX3 := hid hx3
  have HX4 := hid hx4
  have HX5 := hid hx5
  have HX6 := hid hx6
  have HX7 := hid hx7
  have HX8 := hid hx8
  rw [hx3, hx4, hx5, hx6, hx7, hx8]
  clear hx3 hx4 hx5 hx6 hx7 hx8 H hD
  obtain ⟨b0, hb0⟩ : ∃ b, ((x7 : Int) == 0) = b := ⟨_, rfl⟩
  have HB0 := hid (show decide (l.length = 0) = b0 by rw [HX7.out, ← hb0, Bool.eq_iff_iff]; simp)

  have HBARE := hid (show (⟨k, lo, hi, v, l, f⟩ : Nod).bare = ⟨7, 0, 0, noIt, l, []⟩ by subst hk; simp [Nod.bare])
  have HOK := hid (show (⟨k, lo, hi, v, l, f⟩ : Nod).ok = true by subst hk; simp [Nod.ok])
  subst hk
  go_enter Tryd.func100, Tryd.ntmps100
  go_wp2_with fail
  all_goals
    refine bodyPost_ret (results_row_tmp rfl _ _ (w.heap.size + 1) 54 _ (0, 0) _ rfl (by first | exact blk_2 _ _ _ _ _ | exact (blk_2 _ _ _ _ _).drew) Tryd.underlying54 rfl (by exact sizeNode)) rfl ?_
    refine bare_mk HBARE.out HOK.out ?_ ((NdR.sub HR.out ⟨7, 0, 0, noIt, l, []⟩ rfl (.inr rfl) (.inr rfl) (.inr ⟨rfl, rfl, rfl⟩) (.inl ⟨rfl, rfl, rfl⟩) (.inr ⟨rfl, rfl, rfl⟩)).fr0 (by first | exact fr_3 _ _ _ _ | exact (fr_3 _ _ _ _).drew)) (by first | exact fr_3 _ _ _ _ | exact (fr_3 _ _ _ _).drew)
    rw [ndC_eq]
    simp only [HX3.out, HX4.out, HX5.out, HX6.out, HX7.out, HX8.out, noIt, It.k, It.n, It.s, It.l, List.length_nil]
    rfl

set_option maxRecDepth 100000 in
set_option maxHeartbeats 4000000 in
theorem bare_k10 (k lo hi : Int) (v : It) (l : List Int) (f : List Fld) (hk : k = 10) (h : Nat) (Av Al Af : Option Addr) (cv cl cf : Nat) (w : World) (hD : Dbl w) (H : NdR w h ⟨k, lo, hi, v, l, f⟩ Av cv Al cl Af cf) :
    Calls Tryd.prog 100 #[.agg (ndC ⟨k, lo, hi, v, l, f⟩ Av cv Al cl Af cf)] w fun e w' => Bare w h ⟨k, lo, hi, v, l, f⟩ e w' := by
  have HR := hid H
  have HDD := hid hD
  rw [ndC_eq]
  simp only
  obtain ⟨x3, hx3⟩ : ∃ x, v.k = x := ⟨_, rfl⟩
  obtain ⟨x4, hx4⟩ : ∃ x, v.n = x := ⟨_, rfl⟩
  obtain ⟨x5, hx5⟩ : ∃ x, v.s = x := ⟨_, rfl⟩
  obtain ⟨x6, hx6⟩ : ∃ x, v.l.length = x := ⟨_, rfl⟩
  obtain ⟨x7, hx7⟩ : ∃ x, l.length = x := ⟨_, rfl⟩
  obtain ⟨x8, hx8⟩ : ∃ x, f.length = x := ⟨_, rfl⟩
  have HX3 := hid hx3
  have HX4 := hid hx4
  have HX5 := hid hx5
  have HX6 := hid hx6
  have HX7 := hid hx7
  have HX8 := hid hx8
  rw [hx3, hx4, hx5, hx6, hx7, hx8]
  clear hx3 hx4 hx5 hx6 hx7 hx8 H hD
  obtain ⟨b0, hb0⟩ : ∃ b, ((x7 : Int) == 0) = b := ⟨_, rfl⟩
  have HB0 := hid (show decide (l.length = 0) = b0 by rw [HX7.out, ← hb0, Bool.eq_iff_iff]; simp)
  obtain ⟨b1, hb1⟩ : ∃ b, decide (0 < x7) = b := ⟨_, rfl⟩
  have HB1' := hid (show decide (0 < l.length) = b1 by rw [HX7.out, ← hb1])
  have HBARE := hid (show (⟨k, lo, hi, v, l, f⟩ : Nod).bare = ⟨10, 0, 0, noIt, l, []⟩ by subst hk; simp [Nod.bare])
  have HOK := hid (show (⟨k, lo, hi, v, l, f⟩ : Nod).ok = b1 by subst hk; rw [← HB1'.out]; simp [Nod.ok])
  subst hk
  go_enter Tryd.func100, Tryd.ntmps100
  go_wp2_with fail
  all_goals
    refine bodyPost_ret (results_row_tmp rfl _ _ (w.heap.size + 1) 54 _ (0, 0) _ rfl (by first | exact blk_2 _ _ _ _ _ | exact (blk_2 _ _ _ _ _).drew) Tryd.underlying54 rfl (by exact sizeNode)) rfl ?_
    refine bare_mk HBARE.out HOK.out ?_ ((NdR.sub HR.out ⟨10, 0, 0, noIt, l, []⟩ rfl (.inr rfl) (.inr rfl) (.inr ⟨rfl, rfl, rfl⟩) (.inl ⟨rfl, rfl, rfl⟩) (.inr ⟨rfl, rfl, rfl⟩)).fr0 (by first | exact fr_3 _ _ _ _ | exact (fr_3 _ _ _ _).drew)) (by first | exact fr_3 _ _ _ _ | exact (fr_3 _ _ _ _).drew)
    rw [ndC_eq]
    simp only [HX3.out, HX4.out, HX5.out, HX6.out, HX7.out, HX8.out, noIt, It.k, It.n, It.s, It.l, List.length_nil]
    rfl

set_option maxRecDepth 100000 in
set_option maxHeartbeats 4000000 in
theorem bare_k9 (k lo hi : Int) (v : It) (l : List Int) (f : List Fld) (hk : k = 9) (h : Nat) (Av Al Af : Option Addr) (cv cl cf : Nat) (w : World) (hD : Dbl w) (H : NdR w h ⟨k, lo, hi, v, l, f⟩ Av cv Al cl Af cf) :
    Calls Tryd.prog 100 #[.agg (ndC ⟨k, lo, hi, v, l, f⟩ Av cv Al cl Af cf)] w fun e w' => Bare w h ⟨k, lo, hi, v, l, f⟩ e w' := by
  have HR := hid H
  have HDD := hid hD
  rw [ndC_eq]
  simp only
  obtain ⟨x3, hx3⟩ : ∃ x, v.k = x := ⟨_, rfl⟩
  obtain ⟨x4, hx4⟩ : ∃ x, v.n = x := ⟨_, rfl⟩
  obtain ⟨x5, hx5⟩ : ∃ x, v.s = x := ⟨_, rfl⟩
  obtain ⟨x6, hx6⟩ : ∃ x, v.l.length = x := ⟨_, rfl⟩
  obtain ⟨x7, hx7⟩ : ∃ x, l.length = x := ⟨_, rfl⟩
  obtain ⟨x8, hx8⟩ : ∃ x, f.length = x := ⟨_, rfl⟩
  have HX3 := hid hx3
  have HX4 := hid hx4
  have HX5 := hid hx5
  have HX6 := hid hx6
  have HX7 := hid hx7
  have HX8 := hid hx8
  rw [hx3, hx4, hx5, hx6, hx7, hx8]
  clear hx3 hx4 hx5 hx6 hx7 hx8 H hD
  obtain ⟨b0, hb0⟩ : ∃ b, ((x7 : Int) == 0) = b := ⟨_, rfl⟩
  have HB0 := hid (show decide (l.length = 0) = b0 by rw [HX7.out, ← hb0, Bool.eq_iff_iff]; simp)
  obtain ⟨b1, hb1⟩ : ∃ b, ((x7 : Int) == 1) = b := ⟨_, rfl⟩
  have HB1' := hid (show decide (l.length = 1) = b1 by rw [HX7.out, ← hb1, Bool.eq_iff_iff]; simp <;> omega)
  have HBARE := hid (show (⟨k, lo, hi, v, l, f⟩ : Nod).bare = ⟨9, lo, 0, noIt, l, []⟩ by subst hk; simp [Nod.bare])
  have HOK := hid (show (⟨k, lo, hi, v, l, f⟩ : Nod).ok = b1 by subst hk; rw [← HB1'.out]; simp [Nod.ok])
  subst hk
  go_enter Tryd.func100, Tryd.ntmps100
  go_wp2_with fail
  go_region
  all_goals
    go_wp2_with fail
    refine bodyPost_ret (results_row_tmp rfl _ _ (w.heap.size + 1) 54 _ (0, 0) _ rfl (by first | exact blk_2 _ _ _ _ _ | exact (blk_2 _ _ _ _ _).drew) Tryd.underlying54 rfl (by exact sizeNode)) rfl ?_
    refine bare_mk HBARE.out HOK.out ?_ ((NdR.sub HR.out ⟨9, lo, 0, noIt, l, []⟩ rfl (.inl rfl) (.inr rfl) (.inr ⟨rfl, rfl, rfl⟩) (.inl ⟨rfl, rfl, rfl⟩) (.inr ⟨rfl, rfl, rfl⟩)).fr0 (by first | exact fr_3 _ _ _ _ | exact (fr_3 _ _ _ _).drew)) (by first | exact fr_3 _ _ _ _ | exact (fr_3 _ _ _ _).drew)
    rw [ndC_eq]
    simp only [HX3.out, HX4.out, HX5.out, HX6.out, HX7.out, HX8.out, noIt, It.k, It.n, It.s, It.l, List.length_nil]
    rfl

set_option maxRecDepth 100000 in
set_option maxHeartbeats 4000000 in
theorem bare_k6 (k lo hi : Int) (v : It) (l : List Int) (f : List Fld) (hk : k = 6) (h : Nat) (Av Al Af : Option Addr) (cv cl cf : Nat) (w : World) (hD : Dbl w) (H : NdR w h ⟨k, lo, hi, v, l, f⟩ Av cv Al cl Af cf) :
    Calls Tryd.prog 100 #[.agg (ndC ⟨k, lo, hi, v, l, f⟩ Av cv Al cl Af cf)] w fun e w' => Bare w h ⟨k, lo, hi, v, l, f⟩ e w' := by
  have HR := hid H
  have HDD := hid hD
  rw [ndC_eq]
  simp only
  obtain ⟨x3, hx3⟩ : ∃ x, v.k = x := ⟨_, rfl⟩
  obtain ⟨x4, hx4⟩ : ∃ x, v.n = x := ⟨_, rfl⟩
  obtain ⟨x5, hx5⟩ : ∃ x, v.s = x := ⟨_, rfl⟩
  obtain ⟨x6, hx6⟩ : ∃ x, v.l.length = x := ⟨_, rfl⟩
  obtain ⟨x7, hx7⟩ : ∃ x, l.length = x := ⟨_, rfl⟩
  obtain ⟨x8, hx8⟩ : ∃ x, f.length = x := ⟨_, rfl⟩
  have HX3 := hid hx3
  have HX4 := hid hx4
  have HX5 := hid hx5
  have HX6 := hid hx6
  have HX7 := hid hx7
  have HX8 := hid hx8
  rw [hx3, hx4, hx5, hx6, hx7, hx8]
  clear hx3 hx4 hx5 hx6 hx7 hx8 H hD
  obtain ⟨b0, hb0⟩ : ∃ b, ((x7 : Int) == 0) = b := ⟨_, rfl⟩
  have HB0 := hid (show decide (l.length = 0) = b0 by rw [HX7.out, ← hb0, Bool.eq_iff_iff]; simp)
  obtain ⟨b1, hb1⟩ : ∃ b, ((x7 : Int) == 1) = b := ⟨_, rfl⟩
  have HB1' := hid (show decide (l.length = 1) = b1 by rw [HX7.out, ← hb1, Bool.eq_iff_iff]; simp <;> omega)
  have HBARE := hid (show (⟨k, lo, hi, v, l, f⟩ : Nod).bare = ⟨6, lo, hi, noIt, l, []⟩ by subst hk; simp [Nod.bare])
  have HOK := hid (show (⟨k, lo, hi, v, l, f⟩ : Nod).ok = b1 by subst hk; rw [← HB1'.out]; simp [Nod.ok])
  subst hk
  go_enter Tryd.func100, Tryd.ntmps100
  go_wp2_with fail
  go_region
  all_goals
    go_wp2_with fail
    refine bodyPost_ret (results_row_tmp rfl _ _ (w.heap.size + 1) 54 _ (0, 0) _ rfl (by first | exact blk_2 _ _ _ _ _ | exact (blk_2 _ _ _ _ _).drew) Tryd.underlying54 rfl (by exact sizeNode)) rfl ?_
    refine bare_mk HBARE.out HOK.out ?_ ((NdR.sub HR.out ⟨6, lo, hi, noIt, l, []⟩ rfl (.inl rfl) (.inl rfl) (.inr ⟨rfl, rfl, rfl⟩) (.inl ⟨rfl, rfl, rfl⟩) (.inr ⟨rfl, rfl, rfl⟩)).fr0 (by first | exact fr_3 _ _ _ _ | exact (fr_3 _ _ _ _).drew)) (by first | exact fr_3 _ _ _ _ | exact (fr_3 _ _ _ _).drew)
    rw [ndC_eq]
    simp only [HX3.out, HX4.out, HX5.out, HX6.out, HX7.out, HX8.out, noIt, It.k, It.n, It.s, It.l, List.length_nil]
    rfl

set_option maxRecDepth 100000 in
set_option maxHeartbeats 4000000 in
theorem bare_k1 (k lo hi : Int) (v : It) (l : List Int) (f : List Fld) (hk : k = 1) (h : Nat) (Av Al Af : Option Addr) (cv cl cf : Nat) (w : World) (hD : Dbl w) (H : NdR w h ⟨k, lo, hi, v, l, f⟩ Av cv Al cl Af cf) :
    Calls Tryd.prog 100 #[.agg (ndC ⟨k, lo, hi, v, l, f⟩ Av cv Al cl Af cf)] w fun e w' => Bare w h ⟨k, lo, hi, v, l, f⟩ e w' := by
  have HR := hid H
  have HDD := hid hD
  rw [ndC_eq]
  simp only
  obtain ⟨x3, hx3⟩ : ∃ x, v.k = x := ⟨_, rfl⟩
  obtain ⟨x4, hx4⟩ : ∃ x, v.n = x := ⟨_, rfl⟩
  obtain ⟨x5, hx5⟩ : ∃ x, v.s = x := ⟨_, rfl⟩
  obtain ⟨x6, hx6⟩ : ∃ x, v.l.length = x := ⟨_, rfl⟩
  obtain ⟨x7, hx7⟩ : ∃ x, l.length = x := ⟨_, rfl⟩
  obtain ⟨x8, hx8⟩ : ∃ x, f.length = x := ⟨_, rfl⟩
  have HX3 := hid hx3
  have HX4 := hid hx4
  have HX5 := hid hx5
  have HX6 := hid hx6
  have HX7 := hid hx7
  have HX8 := hid hx8
  rw [hx3, hx4, hx5, hx6, hx7, hx8]
  clear hx3 hx4 hx5 hx6 hx7 hx8 H hD
  obtain ⟨b0, hb0⟩ : ∃ b, ((x7 : Int) == 0) = b := ⟨_, rfl⟩
  have HB0 := hid (show decide (l.length = 0) = b0 by rw [HX7.out, ← hb0, Bool.eq_iff_iff]; simp)

  have HBARE := hid (show (⟨k, lo, hi, v, l, f⟩ : Nod).bare = ⟨1, lo, hi, noIt, [], []⟩ by subst hk; simp [Nod.bare])
  have HOK := hid (show (⟨k, lo, hi, v, l, f⟩ : Nod).ok = b0 by subst hk; rw [← HB0.out]; simp [Nod.ok])
  subst hk
  go_enter Tryd.func100, Tryd.ntmps100
  go_wp2_with fail
  go_region
  all_goals
    go_wp2_with fail
    refine bodyPost_ret (results_row_tmp rfl _ _ (w.heap.size + 1) 54 _ (0, 0) _ rfl (by first | exact blk_2 _ _ _ _ _ | exact (blk_2 _ _ _ _ _).drew) Tryd.underlying54 rfl (by exact sizeNode)) rfl ?_
    refine bare_mk HBARE.out HOK.out ?_ ((NdR.sub HR.out ⟨1, lo, hi, noIt, [], []⟩ rfl (.inl rfl) (.inl rfl) (.inr ⟨rfl, rfl, rfl⟩) (.inr ⟨rfl, rfl, rfl⟩) (.inr ⟨rfl, rfl, rfl⟩)).fr0 (by first | exact fr_3 _ _ _ _ | exact (fr_3 _ _ _ _).drew)) (by first | exact fr_3 _ _ _ _ | exact (fr_3 _ _ _ _).drew)
    rw [ndC_eq]
    simp only [HX3.out, HX4.out, HX5.out, HX6.out, HX7.out, HX8.out, noIt, It.k, It.n, It.s, It.l, List.length_nil]
    rfl

set_option maxRecDepth 100000 in
set_option maxHeartbeats 4000000 in
theorem bare_k2 (k lo hi : Int) (v : It) (l : List Int) (f : List Fld) (hk : k = 2) (h : Nat) (Av Al Af : Option Addr) (cv cl cf : Nat) (w : World) (hD : Dbl w) (H : NdR w h ⟨k, lo, hi, v, l, f⟩ Av cv Al cl Af cf) :
    Calls Tryd.prog 100 #[.agg (ndC ⟨k, lo, hi, v, l, f⟩ Av cv Al cl Af cf)] w fun e w' => Bare w h ⟨k, lo, hi, v, l, f⟩ e w' := by
  have HR := hid H
  have HDD := hid hD
  rw [ndC_eq]
  simp only
  obtain ⟨x3, hx3⟩ : ∃ x, v.k = x := ⟨_, rfl⟩
  obtain ⟨x4, hx4⟩ : ∃ x, v.n = x := ⟨_, rfl⟩
  obtain ⟨x5, hx5⟩ : ∃ x, v.s = x := ⟨_, rfl⟩
  obtain ⟨x6, hx6⟩ : ∃ x, v.l.length = x := ⟨_, rfl⟩
  obtain ⟨x7, hx7⟩ : ∃ x, l.length = x := ⟨_, rfl⟩
  obtain ⟨x8, hx8⟩ : ∃ x, f.length = x := ⟨_, rfl⟩
  have HX3 := hid hx3
  have HX4 := hid hx4
  have HX5 := hid hx5
  have HX6 := hid hx6
  have HX7 := hid hx7
  have HX8 := hid hx8
  rw [hx3, hx4, hx5, hx6, hx7, hx8]
  clear hx3 hx4 hx5 hx6 hx7 hx8 H hD
  obtain ⟨b0, hb0⟩ : ∃ b, ((x7 : Int) == 0) = b := ⟨_, rfl⟩
  have HB0 := hid (show decide (l.length = 0) = b0 by rw [HX7.out, ← hb0, Bool.eq_iff_iff]; simp)

  have HBARE := hid (show (⟨k, lo, hi, v, l, f⟩ : Nod).bare = ⟨2, lo, hi, noIt, [], []⟩ by subst hk; simp [Nod.bare])
  have HOK := hid (show (⟨k, lo, hi, v, l, f⟩ : Nod).ok = b0 by subst hk; rw [← HB0.out]; simp [Nod.ok])
  subst hk
  go_enter Tryd.func100, Tryd.ntmps100
  go_wp2_with fail
  go_region
  all_goals
    go_wp2_with fail
    refine bodyPost_ret (results_row_tmp rfl _ _ (w.heap.size + 1) 54 _ (0, 0) _ rfl (by first | exact blk_2 _ _ _ _ _ | exact (blk_2 _ _ _ _ _).drew) Tryd.underlying54 rfl (by exact sizeNode)) rfl ?_
    refine bare_mk HBARE.out HOK.out ?_ ((NdR.sub HR.out ⟨2, lo, hi, noIt, [], []⟩ rfl (.inl rfl) (.inl rfl) (.inr ⟨rfl, rfl, rfl⟩) (.inr ⟨rfl, rfl, rfl⟩) (.inr ⟨rfl, rfl, rfl⟩)).fr0 (by first | exact fr_3 _ _ _ _ | exact (fr_3 _ _ _ _).drew)) (by first | exact fr_3 _ _ _ _ | exact (fr_3 _ _ _ _).drew)
    rw [ndC_eq]
    simp only [HX3.out, HX4.out, HX5.out, HX6.out, HX7.out, HX8.out, noIt, It.k, It.n, It.s, It.l, List.length_nil]
    rfl

set_option maxRecDepth 100000 in
set_option maxHeartbeats 4000000 in
theorem bare_k3 (k lo hi : Int) (v : It) (l : List Int) (f : List Fld) (hk : k = 3) (h : Nat) (Av Al Af : Option Addr) (cv cl cf : Nat) (w : World) (hD : Dbl w) (H : NdR w h ⟨k, lo, hi, v, l, f⟩ Av cv Al cl Af cf) :
    Calls Tryd.prog 100 #[.agg (ndC ⟨k, lo, hi, v, l, f⟩ Av cv Al cl Af cf)] w fun e w' => Bare w h ⟨k, lo, hi, v, l, f⟩ e w' := by
  have HR := hid H
  have HDD := hid hD
  rw [ndC_eq]
  simp only
  obtain ⟨x3, hx3⟩ : ∃ x, v.k = x := ⟨_, rfl⟩
  obtain ⟨x4, hx4⟩ : ∃ x, v.n = x := ⟨_, rfl⟩
  obtain ⟨x5, hx5⟩ : ∃ x, v.s = x := ⟨_, rfl⟩
  obtain ⟨x6, hx6⟩ : ∃ x, v.l.length = x := ⟨_, rfl⟩
  obtain ⟨x7, hx7⟩ : ∃ x, l.length = x := ⟨_, rfl⟩
  obtain ⟨x8, hx8⟩ : ∃ x, f.length = x := ⟨_, rfl⟩
  have HX3 := hid hx3
  have HX4 := hid hx4
  have HX5 := hid hx5
  have HX6 := hid hx6
  have HX7 := hid hx7
  have HX8 := hid hx8
  rw [hx3, hx4, hx5, hx6, hx7, hx8]
  clear hx3 hx4 hx5 hx6 hx7 hx8 H hD
  obtain ⟨b0, hb0⟩ : ∃ b, ((x7 : Int) == 0) = b := ⟨_, rfl⟩
  have HB0 := hid (show decide (l.length = 0) = b0 by rw [HX7.out, ← hb0, Bool.eq_iff_iff]; simp)

  have HBARE := hid (show (⟨k, lo, hi, v, l, f⟩ : Nod).bare = ⟨3, lo, hi, noIt, [], []⟩ by subst hk; simp [Nod.bare])
  have HOK := hid (show (⟨k, lo, hi, v, l, f⟩ : Nod).ok = b0 by subst hk; rw [← HB0.out]; simp [Nod.ok])
  subst hk
  go_enter Tryd.func100, Tryd.ntmps100
  go_wp2_with fail
  go_region
  all_goals
    go_wp2_with fail
    refine bodyPost_ret (results_row_tmp rfl _ _ (w.heap.size + 1) 54 _ (0, 0) _ rfl (by first | exact blk_2 _ _ _ _ _ | exact (blk_2 _ _ _ _ _).drew) Tryd.underlying54 rfl (by exact sizeNode)) rfl ?_
    refine bare_mk HBARE.out HOK.out ?_ ((NdR.sub HR.out ⟨3, lo, hi, noIt, [], []⟩ rfl (.inl rfl) (.inl rfl) (.inr ⟨rfl, rfl, rfl⟩) (.inr ⟨rfl, rfl, rfl⟩) (.inr ⟨rfl, rfl, rfl⟩)).fr0 (by first | exact fr_3 _ _ _ _ | exact (fr_3 _ _ _ _).drew)) (by first | exact fr_3 _ _ _ _ | exact (fr_3 _ _ _ _).drew)
    rw [ndC_eq]
    simp only [HX3.out, HX4.out, HX5.out, HX6.out, HX7.out, HX8.out, noIt, It.k, It.n, It.s, It.l, List.length_nil]
    rfl

set_option maxRecDepth 100000 in
set_option maxHeartbeats 4000000 in
theorem bare_other (k lo hi : Int) (v : It) (l : List Int) (f : List Fld) (hk : k ≠ 4 ∧ k ≠ 8 ∧ k ≠ 7 ∧ k ≠ 10 ∧ k ≠ 9 ∧ k ≠ 6 ∧ k ≠ 1 ∧ k ≠ 2 ∧ k ≠ 3) (h : Nat) (Av Al Af : Option Addr) (cv cl cf : Nat) (w : World) (hD : Dbl w) (H : NdR w h ⟨k, lo, hi, v, l, f⟩ Av cv Al cl Af cf) :
    Calls Tryd.prog 100 #[.agg (ndC ⟨k, lo, hi, v, l, f⟩ Av cv Al cl Af cf)] w fun e w' => Bare w h ⟨k, lo, hi, v, l, f⟩ e w' := by
  have HR := hid H
  have HDD := hid hD
  rw [ndC_eq]
  simp only
  obtain ⟨x3, hx3⟩ : ∃ x, v.k = x := ⟨_, rfl⟩
  obtain ⟨x4, hx4⟩ : ∃ x, v.n = x := ⟨_, rfl⟩
  obtain ⟨x5, hx5⟩ : ∃ x, v.s = x := ⟨_, rfl⟩
  obtain ⟨x6, hx6⟩ : ∃ x, v.l.length = x := ⟨_, rfl⟩
  obtain ⟨x7, hx7⟩ : ∃ x, l.length = x := ⟨_, rfl⟩
  obtain ⟨x8, hx8⟩ : ∃ x, f.length = x := ⟨_, rfl⟩
  have HX3 := hid hx3
  have HX4 := hid hx4
  have HX5 := hid hx5
  have HX6 := hid hx6
  have HX7 := hid hx7
  have HX8 := hid hx8
  rw [hx3, hx4, hx5, hx6, hx7, hx8]
  clear hx3 hx4 hx5 hx6 hx7 hx8 H hD
  obtain ⟨b0, hb0⟩ : ∃ b, ((x7 : Int) == 0) = b := ⟨_, rfl⟩
  have HB0 := hid (show decide (l.length = 0) = b0 by rw [HX7.out, ← hb0, Bool.eq_iff_iff]; simp)

  have HBARE := hid (show (⟨k, lo, hi, v, l, f⟩ : Nod).bare = ⟨k, 0, 0, noIt, [], []⟩ by simp [Nod.bare, hk])
  have HOK := hid (show (⟨k, lo, hi, v, l, f⟩ : Nod).ok = b0 by rw [← HB0.out]; simp [Nod.ok, hk])
  have g4 : (k == 4) = false := beq_eq_false_iff_ne.2 (by omega)
  have g8 : (k == 8) = false := beq_eq_false_iff_ne.2 (by omega)
  have g7 : (k == 7) = false := beq_eq_false_iff_ne.2 (by omega)
  have g10 : (k == 10) = false := beq_eq_false_iff_ne.2 (by omega)
  have g9 : (k == 9) = false := beq_eq_false_iff_ne.2 (by omega)
  have g6 : (k == 6) = false := beq_eq_false_iff_ne.2 (by omega)
  have g1 : (k == 1) = false := beq_eq_false_iff_ne.2 (by omega)
  have g2 : (k == 2) = false := beq_eq_false_iff_ne.2 (by omega)
  have g3 : (k == 3) = false := beq_eq_false_iff_ne.2 (by omega)
  have HK := hid hk
  clear hk
  go_enter Tryd.func100, Tryd.ntmps100
  go_wp2_with fail
  all_goals
    refine bodyPost_ret (results_row_tmp rfl _ _ (w.heap.size + 1) 54 _ (0, 0) _ rfl (by first | exact blk_2 _ _ _ _ _ | exact (blk_2 _ _ _ _ _).drew) Tryd.underlying54 rfl (by exact sizeNode)) rfl ?_
    refine bare_mk HBARE.out HOK.out ?_ ((NdR.sub HR.out ⟨k, 0, 0, noIt, [], []⟩ rfl (.inr rfl) (.inr rfl) (.inr ⟨rfl, rfl, rfl⟩) (.inr ⟨rfl, rfl, rfl⟩) (.inr ⟨rfl, rfl, rfl⟩)).fr0 (by first | exact fr_3 _ _ _ _ | exact (fr_3 _ _ _ _).drew)) (by first | exact fr_3 _ _ _ _ | exact (fr_3 _ _ _ _).drew)
    rw [ndC_eq]
    simp only [HX3.out, HX4.out, HX5.out, HX6.out, HX7.out, HX8.out, noIt, It.k, It.n, It.s, It.l, List.length_nil]
    rfl

theorem froz9 {w : World} {g : Nat} {t : TypeId} {cs : Array Value} (h : Blk w g t cs) : w.frozen? ⟨g, 0, none⟩ = false ∧ w.frozen? ⟨g, 1, none⟩ = false ∧ w.frozen? ⟨g, 2, none⟩ = false ∧ w.frozen? ⟨g, 3, none⟩ = false ∧ w.frozen? ⟨g, 4, none⟩ = false ∧ w.frozen? ⟨g, 5, none⟩ = false ∧ w.frozen? ⟨g, 6, none⟩ = false ∧ w.frozen? ⟨g, 7, none⟩ = false ∧ w.frozen? ⟨g, 8, none⟩ = false :=
  ⟨h.frozen 0, h.frozen 1, h.frozen 2, h.frozen 3, h.frozen 4, h.frozen 5, h.frozen 6, h.frozen 7, h.frozen 8⟩
theorem sets9 {W : World} {g : Nat} {t : TypeId} {z0 z1 z2 z3 z4 z5 z6 z7 z8 : Value} (h : Blk W g t #[z0, z1, z2, z3, z4, z5, z6, z7, z8]) (a0 a1 a2 a3 a4 a5 a6 a7 a8 : Value) : Blk (((((((((W.setCell ⟨g, 0, none⟩ a0).setCell ⟨g, 1, none⟩ a1).setCell ⟨g, 2, none⟩ a2).setCell ⟨g, 3, none⟩ a3).setCell ⟨g, 4, none⟩ a4).setCell ⟨g, 5, none⟩ a5).setCell ⟨g, 6, none⟩ a6).setCell ⟨g, 7, none⟩ a7).setCell ⟨g, 8, none⟩ a8) g t #[a0, a1, a2, a3, a4, a5, a6, a7, a8] := by
  have := ((((((((h.set_ 0 a0).set_ 1 a1).set_ 2 a2).set_ 3 a3).set_ 4 a4).set_ 5 a5).set_ 6 a6).set_ 7 a7).set_ 8 a8
  simpa using this
theorem frsets9 {w0 W : World} (h : Fr (fun _ => False) w0 W) {g : Nat} (hg : w0.heap.size ≤ g) (a0 a1 a2 a3 a4 a5 a6 a7 a8 : Value) : Fr (fun _ => False) w0 (((((((((W.setCell ⟨g, 0, none⟩ a0).setCell ⟨g, 1, none⟩ a1).setCell ⟨g, 2, none⟩ a2).setCell ⟨g, 3, none⟩ a3).setCell ⟨g, 4, none⟩ a4).setCell ⟨g, 5, none⟩ a5).setCell ⟨g, 6, none⟩ a6).setCell ⟨g, 7, none⟩ a7).setCell ⟨g, 8, none⟩ a8) :=
  ((((((((h.setCell (.inr hg) a0).setCell (.inr hg) a1).setCell (.inr hg) a2).setCell (.inr hg) a3).setCell (.inr hg) a4).setCell (.inr hg) a5).setCell (.inr hg) a6).setCell (.inr hg) a7).setCell (.inr hg) a8
theorem blk_3 (w : World) (o o' : Obj) (cs : Array Value) (t : TypeId) : Blk (((w.alloc o).alloc o').alloc (.cells cs t)) (w.heap.size + 1 + 1) t cs := by
  have := Blk.new ((w.alloc o).alloc o') t cs
  rwa [World.size_alloc, World.size_alloc] at this
set_option maxRecDepth 100000 in
set_option maxHeartbeats 4000000 in
theorem bare_k4 (k lo hi : Int) (v : It) (l : List Int) (f : List Fld) (hk : k = 4) (h : Nat) (Av Al Af : Option Addr) (cv cl cf : Nat) (w : World) (hD : Dbl w) (H : NdR w h ⟨k, lo, hi, v, l, f⟩ Av cv Al cl Af cf) :
    Calls Tryd.prog 100 #[.agg (ndC ⟨k, lo, hi, v, l, f⟩ Av cv Al cl Af cf)] w fun e w' => Bare w h ⟨k, lo, hi, v, l, f⟩ e w' := by
  have HR := hid H
  have HDD := hid hD
  rw [ndC_eq]
  simp only
  obtain ⟨x3, hx3⟩ : ∃ x, v.k = x := ⟨_, rfl⟩
  obtain ⟨x4, hx4⟩ : ∃ x, v.n = x := ⟨_, rfl⟩
  obtain ⟨x5, hx5⟩ : ∃ x, v.s = x := ⟨_, rfl⟩
  obtain ⟨x6, hx6⟩ : ∃ x, v.l.length = x := ⟨_, rfl⟩
  obtain ⟨x7, hx7⟩ : ∃ x, l.length = x := ⟨_, rfl⟩
  obtain ⟨x8, hx8⟩ : ∃ x, f.length = x := ⟨_, rfl⟩
  have HX3 := hid hx3
  have HX4 := hid hx4
  have HX5 := hid hx5
  have HX6 := hid hx6
  have HX7 := hid hx7
  have HX8 := hid hx8
  rw [hx3, hx4, hx5, hx6, hx7, hx8]
  clear hx3 hx4 hx5 hx6 hx7 hx8 H hD
  obtain ⟨b0, hb0⟩ : ∃ b, ((x7 : Int) == 0) = b := ⟨_, rfl⟩
  have HB0 := hid (show decide (l.length = 0) = b0 by rw [HX7.out, ← hb0, Bool.eq_iff_iff]; simp)
  have HBARE := hid (show (⟨k, lo, hi, v, l, f⟩ : Nod).bare = ⟨4, 0, 0, v, [], []⟩ by subst hk; simp [Nod.bare])
  have HOK := hid (show (⟨k, lo, hi, v, l, f⟩ : Nod).ok = (b0 && decide (x3 ≠ 4 ∧ x3 ≠ 5 ∧ x3 ≠ 6 ∧ x3 ≠ 8) && decide (v.check = 0)) by subst hk; rw [← HB0.out, ← HX3.out]; simp only [Nod.ok, if_true])
  subst hk
  have hcase : (b0 = false ∨ (b0 = true ∧ (x3 = 4 ∨ x3 = 5 ∨ x3 = 6 ∨ x3 = 8))) ∨ (b0 = true ∧ x3 ≠ 4 ∧ x3 ≠ 5 ∧ x3 ≠ 6 ∧ x3 ≠ 8) := by
    cases b0
    · exact .inl (.inl rfl)
    · by_cases h : x3 = 4 ∨ x3 = 5 ∨ x3 = 6 ∨ x3 = 8
      · exact .inl (.inr ⟨rfl, h⟩)
      · exact .inr ⟨rfl, by omega, by omega, by omega, by omega⟩
  rcases hcase with hc | ⟨rfl, n4, n5, n6, n8⟩
  · have HOF := hid (show (⟨4, lo, hi, v, l, f⟩ : Nod).ok = false by
      rw [HOK.out]
      rcases hc with rfl | ⟨rfl, hc⟩
      · rfl
      · rw [decide_eq_false (p := x3 ≠ 4 ∧ x3 ≠ 5 ∧ x3 ≠ 6 ∧ x3 ≠ 8) (by omega)]; rfl)
    rcases hc with rfl | ⟨rfl, rfl | rfl | rfl | rfl⟩
    all_goals
      go_enter Tryd.func100, Tryd.ntmps100
      go_wp2_with fail
      refine bodyPost_ret (results_row_tmp rfl _ _ (w.heap.size + 1) 54 _ (0, 0) _ rfl (by exact blk_2 _ _ _ _ _) Tryd.underlying54 rfl (by exact sizeNode)) rfl ?_
      refine bare_mk HBARE.out HOF.out ?_ ((NdR.sub HR.out ⟨4, 0, 0, v, [], []⟩ rfl (.inr rfl) (.inr rfl) (.inl ⟨rfl, rfl, rfl⟩) (.inr ⟨rfl, rfl, rfl⟩) (.inr ⟨rfl, rfl, rfl⟩)).fr0 (fr_3 _ _ _ _)) (fr_3 _ _ _ _)
      rw [ndC_eq]
      simp only [HX3.out, HX4.out, HX5.out, HX6.out, List.length_nil]
      rfl
  · have q4 : (x3 != 4) = true := bne_iff_ne.2 n4
    have q5 : (x3 != 5) = true := bne_iff_ne.2 n5
    have q6 : (x3 != 6) = true := bne_iff_ne.2 n6
    have q8 : (x3 != 8) = true := bne_iff_ne.2 n8
    obtain ⟨b3, hb3⟩ : ∃ b, (v.check == 0) = b := ⟨_, rfl⟩
    have HOT := hid (show (⟨4, lo, hi, v, l, f⟩ : Nod).ok = b3 by
      rw [HOK.out, ← hb3, decide_eq_true (p := x3 ≠ 4 ∧ x3 ≠ 5 ∧ x3 ≠ 6 ∧ x3 ≠ 8) ⟨n4, n5, n6, n8⟩, Bool.eq_iff_iff]
      simp)
    have HRV := hid (show ItAt w 0 h v [.int .i64 x3, .int .u64 x4, .string x5, .slice Av x6 cv] by
      have := HR.out.v
      simp only [HX3.out, HX4.out, HX5.out, HX6.out] at this
      exact this)
    clear n4 n5 n6 n8
    have HCK := hid hb3
    obtain ⟨ck, hck⟩ : ∃ c, v.check = c := ⟨_, rfl⟩
    rw [hck] at hb3
    have HCE := hid hck
    clear hck
    go_enter Tryd.func100, Tryd.ntmps100
    go_wp2_with fail
    refine (check_calls v (by have := HR.out.vm; simp only at this; omega) 0 h _ _ (by exact Nat.le_trans HR.out.hh (fr_3 _ _ _ _).size) (by exact HDD.out.fr0 (fr_3 _ _ _ _)) (by exact HRV.out.fr0 (fr_3 _ _ _ _) HR.out.hh)).mono ?_
    rintro e w2 ⟨rfl, hf⟩
    rw [HCE.out]
    have HF2 := hid ((fr_3 _ _ _ _).then_ hf (fun _ _ h => h))
    have HBR := hid ((blk_2 w _ #[.int .i64 0, .int .i64 0, .int .i64 0, .int .i64 0, .int .u64 0, .string { data := #[] }, .slice none 0 0, .slice none 0 0, .slice none 0 0] 54 _).fr hf (fun h => h))
    have HBO := hid ((blk_3 w _ _ #[.int .i64 4, .int .i64 0, .int .i64 0, .int .i64 x3, .int .u64 x4, .string x5, .slice Av x6 cv, .slice none 0 0, .slice none 0 0] 54).fr hf (fun h => h))
    obtain ⟨o0, o1, o2, o3, o4, o5, o6, o7, o8⟩ := blk9 HBO.out
    obtain ⟨r0, r1, r2, r3, r4, r5, r6, r7, r8⟩ := blk9 HBR.out
    obtain ⟨f0, f1, f2, f3, f4, f5, f6, f7, f8⟩ := froz9 HBR.out
    clear hf
    go_wp2_with fail
    have HB7 := hid (sets9 HBR.out (.int .i64 4) (.int .i64 0) (.int .i64 0) (.int .i64 x3) (.int .u64 x4) (.string x5) (.slice Av x6 cv) (.slice none 0 0) (.slice none 0 0))
    have HF7 := hid (show Fr (fun _ => False) w _ from frsets9 HF2.out (g := w.heap.size + 1) (by omega) (.int .i64 4) (.int .i64 0) (.int .i64 0) (.int .i64 x3) (.int .u64 x4) (.string x5) (.slice Av x6 cv) (.slice none 0 0) (.slice none 0 0))
    refine bodyPost_ret (results_row_tmp rfl _ _ (w.heap.size + 1) 54 _ (0, 0) _ rfl HB7.out Tryd.underlying54 rfl (by exact sizeNode)) rfl ?_
    refine bare_mk HBARE.out HOT.out ?_ ((NdR.sub HR.out ⟨4, 0, 0, v, [], []⟩ rfl (.inr rfl) (.inr rfl) (.inl ⟨rfl, rfl, rfl⟩) (.inr ⟨rfl, rfl, rfl⟩) (.inr ⟨rfl, rfl, rfl⟩)).fr0 HF7.out) HF7.out
    rw [ndC_eq]
    simp only [HX3.out, HX4.out, HX5.out, HX6.out, List.length_nil]
    rfl

/-- A node, whatever its kind. -/
theorem bare_calls (n : Nod) (h : Nat) (Av Al Af : Option Addr) (cv cl cf : Nat) (w : World) (hD : Dbl w) (H : NdR w h n Av cv Al cl Af cf) :
    Calls Tryd.prog 100 #[.agg (ndC n Av cv Al cl Af cf)] w fun e w' => Bare w h n e w' := by
  obtain ⟨k, lo, hi, v, l, f⟩ := n
  by_cases h4 : k = 4
  · exact bare_k4 k lo hi v l f h4 h Av Al Af cv cl cf w hD H
  by_cases h8 : k = 8
  · exact bare_k8 k lo hi v l f h8 h Av Al Af cv cl cf w hD H
  by_cases h7 : k = 7
  · exact bare_k7 k lo hi v l f h7 h Av Al Af cv cl cf w hD H
  by_cases h10 : k = 10
  · exact bare_k10 k lo hi v l f h10 h Av Al Af cv cl cf w hD H
  by_cases h9 : k = 9
  · exact bare_k9 k lo hi v l f h9 h Av Al Af cv cl cf w hD H
  by_cases h6 : k = 6
  · exact bare_k6 k lo hi v l f h6 h Av Al Af cv cl cf w hD H
  by_cases h1 : k = 1
  · exact bare_k1 k lo hi v l f h1 h Av Al Af cv cl cf w hD H
  by_cases h2 : k = 2
  · exact bare_k2 k lo hi v l f h2 h Av Al Af cv cl cf w hD H
  by_cases h3 : k = 3
  · exact bare_k3 k lo hi v l f h3 h Av Al Af cv cl cf w hD H
  exact bare_other k lo hi v l f ⟨h4, h8, h7, h10, h9, h6, h1, h2, h3⟩ h Av Al Af cv cl cf w hD H
end Go.Proofs.YtkmgiodhaaajjaaDoor.SchG
