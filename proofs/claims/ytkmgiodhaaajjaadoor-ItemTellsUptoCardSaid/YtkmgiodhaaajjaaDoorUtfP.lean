/- Layer utf, plainly: what the bytes come to, one by one and sign by sign. No program is named here. -/
import Derived.Test.YtkmgiodhaaajjaaDoorMem
set_option linter.unusedVariables false
set_option linter.unusedSimpArgs false
namespace Go.Proofs.YtkmgiodhaaajjaaDoor.UtfP
open Go.RowKit Go.Proofs.YtkmgiodhaaajjaaDoor.Mem

/-- begin, as the code says it -/
def beginS (c : Int) : Int × Int × Int :=
  if c ≤ 127 then (0, 128, 191) else if 194 ≤ c ∧ c ≤ 223 then (1, 128, 191) else if c = 224 then (2, 160, 191)
  else if (225 ≤ c ∧ c ≤ 236) ∨ (238 ≤ c ∧ c ≤ 239) then (2, 128, 191) else if c = 237 then (2, 128, 159)
  else if c = 240 then (3, 144, 191) else if 241 ≤ c ∧ c ≤ 243 then (3, 128, 191) else if c = 244 then (3, 128, 143) else (-1, 128, 191)

/-- A walk's four fields. -/
structure St where
  left : Int
  lo : Int
  hi : Int
  bad : Bool
def St.cells (s : St) : Array Value := #[.int .i64 s.left, .int .u8 s.lo, .int .u8 s.hi, .bool s.bad]
def St.Ok (s : St) : Prop := -1 ≤ s.left ∧ s.left ≤ 3 ∧ (0 ≤ s.left ∨ s.bad = true)

def stepS (s : St) (c : Int) : St :=
  if s.bad = true then s
  else if s.left = 0 then ⟨(beginS c).1, (beginS c).2.1, (beginS c).2.2, decide ((beginS c).1 < 0)⟩
  else if c < s.lo ∨ s.hi < c then ⟨s.left, s.lo, s.hi, true⟩
  else ⟨s.left - 1, 128, 191, false⟩

theorem beginS_bd (c : Int) : -1 ≤ (beginS c).1 ∧ (beginS c).1 ≤ 3 := by
  unfold beginS
  repeat' split
  all_goals decide

def St.zero : St := ⟨0, 0, 0, false⟩
def doneB (s : St) : Bool := !s.bad && s.left == 0


theorem step_ok {s : St} (h : s.Ok) (c : Int) : (stepS s c).Ok := by
  obtain ⟨left, lo, hi, bad⟩ := s
  obtain ⟨h1, h2, h3⟩ := h
  simp only at h1 h2 h3
  unfold stepS
  simp only
  split
  · exact ⟨h1, h2, h3⟩
  · rename_i hb
    split
    · obtain ⟨b1, b2⟩ := beginS_bd c
      refine ⟨b1, b2, ?_⟩
      by_cases h : (beginS c).1 < 0
      · exact .inr (by simp [h])
      · exact .inl (by simpa using h)
    · rename_i hl
      split
      · exact ⟨h1, h2, .inr rfl⟩
      · have := h3.resolve_right hb
        exact ⟨by simp only; omega, by simp only; omega, .inl (by simp only; omega)⟩
theorem zero_ok : St.zero.Ok := ⟨by decide, by decide, .inl (by decide)⟩

def run (s : St) (l : List Int) : St := l.foldl stepS s
theorem run_nil (s : St) : run s [] = s := rfl
theorem run_cons (s : St) (c : Int) (l : List Int) : run s (c :: l) = run (stepS s c) l := rfl
theorem run_append (s : St) (l m : List Int) : run s (l ++ m) = run (run s l) m := by simp [run]
theorem run_snoc (s : St) (l : List Int) (c : Int) : run s (l ++ [c]) = stepS (run s l) c := by simp [run]
theorem run_ok {s : St} (h : s.Ok) (l : List Int) : (run s l).Ok := by
  induction l generalizing s with
  | nil => exact h
  | cons c l ih => exact ih (step_ok h c)
theorem step_bad {s : St} (h : s.bad = true) (c : Int) : stepS s c = s := by simp [stepS, h]
theorem run_bad {s : St} (h : s.bad = true) (l : List Int) : run s l = s := by
  induction l with
  | nil => rfl
  | cons c l ih => rw [run_cons, step_bad h]; exact ih

/-- The place of the first byte that may not stand there. -/
def fb (s : St) : List Int → Nat → Int
  | [], _ => -1
  | c :: r, i => if (stepS s c).bad = true then (i : Int) else fb (stepS s c) r (i + 1)

theorem fb_range (s : St) (l : List Int) (i : Nat) : fb s l i = -1 ∨ ((i : Int) ≤ fb s l i ∧ fb s l i < i + l.length) := by
  induction l generalizing s i with
  | nil => exact .inl rfl
  | cons c l ih =>
    unfold fb
    split
    · right
      simp only [List.length_cons]
      omega
    · rcases ih (stepS s c) (i + 1) with h | h
      · exact .inl h
      · right
        simp only [List.length_cons]
        omega

/-- Bad behind k bytes just if the place is among them. -/
theorem fb_prefix (s : St) (hs : s.bad = false) (l : List Int) (i k : Nat) (hk : k ≤ l.length) : (run s (l.take k)).bad = true ↔ (0 ≤ fb s l i ∧ fb s l i < i + k) := by
  induction l generalizing s i k with
  | nil => simp [run, hs, fb]
  | cons c l ih =>
    cases k with
    | zero =>
      simp only [List.take_zero, run_nil, hs]
      rcases fb_range s (c :: l) i with h | h
      · rw [h]; simp
      · constructor
        · intro h; cases h
        · intro h'; omega
    | succ k =>
      simp only [List.take_succ_cons, run_cons]
      unfold fb
      by_cases hb : (stepS s c).bad = true
      · rw [if_pos hb, run_bad hb]
        simp [hb]
        omega
      · rw [if_neg hb, ih (stepS s c) (by simpa using hb) (i + 1) k (by simpa using hk)]
        omega

theorem fb_pos {s : St} {c : Int} (h : (stepS s c).bad = true) (l : List Int) (i : Nat) : fb s (c :: l) i = i := by simp [fb, h]
theorem fb_neg {s : St} {c : Int} (h : (stepS s c).bad = false) (l : List Int) (i : Nat) : fb s (c :: l) i = fb (stepS s c) l (i + 1) := by simp [fb, h]
theorem done_bad {s : St} (h : s.bad = true) : doneB s = false := by unfold doneB; rw [h]; rfl
theorem fb_append (s : St) (l m : List Int) (i : Nat) : fb s (l ++ m) i = if fb s l i = -1 then fb (run s l) m (i + l.length) else fb s l i := by
  induction l generalizing s i with
  | nil => simp [fb, run]
  | cons c l ih =>
    rw [List.cons_append]
    by_cases hb : (stepS s c).bad = true
    · rw [fb_pos hb, fb_pos hb, if_neg (by omega)]
    · have hb : (stepS s c).bad = false := by simpa using hb
      rw [fb_neg hb, fb_neg hb, ih, run_cons]
      simp only [List.length_cons]
      rw [show i + 1 + l.length = i + (l.length + 1) from by omega]

/-- Ahead of a sign: nothing is open. -/
def Clean (s : St) : Prop := s.left = 0 ∧ s.bad = false
theorem step_clean {s t : St} (hs : Clean s) (ht : Clean t) (c : Int) : stepS s c = stepS t c := by
  unfold stepS
  simp [hs.1, hs.2, ht.1, ht.2]
theorem fb_clean {s t : St} (hs : Clean s) (ht : Clean t) (l : List Int) (i : Nat) : fb s l i = fb t l i := by
  cases l with
  | nil => rfl
  | cons c l => unfold fb; rw [step_clean hs ht]
theorem done_clean {s t : St} (hs : Clean s) (ht : Clean t) (l : List Int) : doneB (run s l) = doneB (run t l) := by
  cases l with
  | nil => simp [run, doneB, hs.1, hs.2, ht.1, ht.2]
  | cons c l => rw [run_cons, run_cons, step_clean hs ht]
theorem zero_clean : Clean St.zero := ⟨rfl, rfl⟩
theorem clean_of_done {s : St} (h : doneB s = true) : Clean s := by
  unfold doneB at h
  simp at h
  exact ⟨h.2, by simpa using h.1⟩
theorem done_of_clean {s : St} (h : Clean s) : doneB s = true := by simp [doneB, h.1, h.2]

/-- How many following bytes there are from a place on, up to n. -/
def followS (l : List Int) : Nat → Nat → Nat
  | _, 0 => 0
  | at_, n + 1 => if at_ < l.length ∧ 128 ≤ l.getD at_ 0 ∧ l.getD at_ 0 ≤ 191 then 1 + followS l (at_ + 1) n else 0

/-- What a first byte from 128 on says: how many bytes, and between which the next one lies. -/
def kindS (c : Int) : Nat × Int × Int :=
  if 194 ≤ c ∧ c ≤ 223 then (2, 128, 191)
  else if 224 ≤ c ∧ c ≤ 239 then (3, (if c = 224 then 160 else 128), (if c = 237 then 159 else 191))
  else if 240 ≤ c ∧ c ≤ 244 then (4, (if c = 240 then 144 else 128), (if c = 244 then 143 else 191))
  else (0, 128, 191)

def signS (l : List Int) (at_ : Nat) : Nat × Nat :=
  if l.getD at_ 0 < 128 then (1, 1)
  else if (kindS (l.getD at_ 0)).1 = 0 then (0, 0)
  else if l.length ≤ at_ + 1 ∨ l.getD (at_ + 1) 0 < (kindS (l.getD at_ 0)).2.1 ∨ (kindS (l.getD at_ 0)).2.2 < l.getD (at_ + 1) 0 then ((kindS (l.getD at_ 0)).1, 1)
  else ((kindS (l.getD at_ 0)).1, 2 + followS l (at_ + 2) ((kindS (l.getD at_ 0)).1 - 2))

theorem begin_low {c : Int} (h : c < 128) : beginS c = (0, 128, 191) := by unfold beginS; rw [if_pos (by omega)]
theorem begin_kind {c : Int} (h : 128 ≤ c) : beginS c = (((kindS c).1 : Int) - 1, (kindS c).2.1, (kindS c).2.2) := by
  unfold beginS kindS
  rw [if_neg (by omega)]
  by_cases h1 : 194 ≤ c ∧ c ≤ 223
  · rw [if_pos h1, if_pos h1]; rfl
  rw [if_neg h1, if_neg h1]
  by_cases h2 : 224 ≤ c ∧ c ≤ 239
  · rw [if_pos h2]
    by_cases h3 : c = 224
    · subst h3; decide
    · by_cases h4 : c = 237
      · subst h4; decide
      · rw [if_neg h3, if_pos (by omega), if_neg h3, if_neg h4]; rfl
  rw [if_neg h2, if_neg (by omega), if_neg (by omega), if_neg (by omega)]
  by_cases h5 : 240 ≤ c ∧ c ≤ 244
  · rw [if_pos h5]
    by_cases h6 : c = 240
    · subst h6; decide
    · by_cases h7 : c = 244
      · subst h7; decide
      · rw [if_neg h6, if_pos (by omega), if_neg h6, if_neg h7]; rfl
  · rw [if_neg h5, if_neg (by omega), if_neg (by omega), if_neg (by omega)]; rfl
theorem kind_n (c : Int) : (kindS c).1 = 0 ∨ (2 ≤ (kindS c).1 ∧ (kindS c).1 ≤ 4) := by
  unfold kindS
  repeat' split
  all_goals simp

/-- In the midst of a sign: n bytes are to come, all of them following ones. -/
theorem fb_follow (l : List Int) (n : Nat) : ∀ (at_ : Nat) (s : St), s.left = n → s.bad = false → (n = 0 ∨ s.lo = 128 ∧ s.hi = 191) → at_ ≤ l.length →
    followS l at_ n ≤ n ∧ at_ + followS l at_ n ≤ l.length ∧
    (followS l at_ n = n → ∃ t, Clean t ∧ fb s (l.drop at_) at_ = fb t (l.drop (at_ + n)) (at_ + n) ∧ doneB (run s (l.drop at_)) = doneB (run t (l.drop (at_ + n)))) ∧
    (followS l at_ n < n → (at_ + followS l at_ n < l.length → fb s (l.drop at_) at_ = (at_ + followS l at_ n : Nat)) ∧ (¬ at_ + followS l at_ n < l.length → fb s (l.drop at_) at_ = -1) ∧ doneB (run s (l.drop at_)) = false) := by
  induction n with
  | zero =>
    intro at_ s h1 h2 _ hl
    simp only [followS]
    exact ⟨by omega, by omega, fun _ => ⟨s, ⟨by simpa using h1, h2⟩, rfl, rfl⟩, fun h => by omega⟩
  | succ n ih =>
    intro at_ s h1 h2 h3 hl
    obtain ⟨h3, h4⟩ := h3.resolve_left (by omega)
    by_cases hlt : at_ < l.length
    · have hd : l.drop at_ = l.getD at_ 0 :: l.drop (at_ + 1) := by
        rw [List.drop_eq_getElem_cons hlt, List.getD_eq_getElem?_getD, List.getElem?_eq_getElem hlt]
        rfl
      by_cases hc : 128 ≤ l.getD at_ 0 ∧ l.getD at_ 0 ≤ 191
      · have hf : followS l at_ (n + 1) = 1 + followS l (at_ + 1) n := by
          simp only [followS]
          rw [if_pos ⟨hlt, hc⟩]
        have hst : stepS s (l.getD at_ 0) = ⟨(n : Int), 128, 191, false⟩ := by
          unfold stepS
          rw [if_neg (by simp [h2]), if_neg (by omega), if_neg (by omega), h1]
          simp
        obtain ⟨i1, i2, i3, i4⟩ := ih (at_ + 1) ⟨(n : Int), 128, 191, false⟩ rfl rfl (.inr ⟨rfl, rfl⟩) hlt
        have e1 : fb s (l.drop at_) at_ = fb ⟨(n : Int), 128, 191, false⟩ (l.drop (at_ + 1)) (at_ + 1) := by
          rw [hd, fb, hst]; simp
        have e2 : run s (l.drop at_) = run ⟨(n : Int), 128, 191, false⟩ (l.drop (at_ + 1)) := by rw [hd, run_cons, hst]
        rw [hf, e1, e2, show at_ + (1 + followS l (at_ + 1) n) = at_ + 1 + followS l (at_ + 1) n from by omega, show at_ + (n + 1) = at_ + 1 + n from by omega]
        exact ⟨by omega, i2, fun h => i3 (by omega), fun h => i4 (by omega)⟩
      · have hf : followS l at_ (n + 1) = 0 := by
          simp only [followS]
          rw [if_neg (fun h => hc h.2)]
        have hst : (stepS s (l.getD at_ 0)).bad = true := by
          unfold stepS
          rw [if_neg (by simp [h2]), if_neg (by omega), if_pos (by omega)]
        rw [hf]
        refine ⟨by omega, by omega, fun h => by omega, fun _ => ⟨fun _ => ?_, fun h => absurd hlt (by simpa using h), ?_⟩⟩
        · rw [hd, fb, if_pos hst]; simp
        · rw [hd, run_cons, run_bad hst, done_bad hst]
    · have hf : followS l at_ (n + 1) = 0 := by
        simp only [followS]
        rw [if_neg (fun h => hlt h.1)]
      have hd : l.drop at_ = [] := List.drop_eq_nil_of_le (by omega)
      rw [hf, hd]
      refine ⟨by omega, by omega, fun h => by omega, fun _ => ⟨fun h => absurd h (by omega), fun _ => rfl, ?_⟩⟩
      simp only [run_nil, doneB, h1, h2]
      rw [Bool.and_eq_false_iff]
      right
      rw [beq_eq_false_iff_ne]
      omega

theorem sign_arith (q n a : Nat) (h : q ≤ n - 2) (hn : 2 ≤ n) : a + (2 + q) = a + 2 + q ∧ (2 + q = n → q = n - 2) ∧ 2 + q ≤ n ∧ a + 2 + (n - 2) = a + n ∧ (2 + q < n → q < n - 2) := by omega
/-- What the document says of a sign, held against the bytes. -/
theorem sign_says (l : List Int) (at_ : Nat) (s : St) (hs : Clean s) (hlt : at_ < l.length) :
    (signS l at_).2 ≤ (signS l at_).1 ∧ at_ + (signS l at_).2 ≤ l.length ∧
    ((signS l at_).1 = 0 → fb s (l.drop at_) at_ = (at_ : Int) ∧ doneB (run s (l.drop at_)) = false) ∧
    ((signS l at_).1 ≠ 0 → (signS l at_).2 = (signS l at_).1 → ∃ t, Clean t ∧ fb s (l.drop at_) at_ = fb t (l.drop (at_ + (signS l at_).1)) (at_ + (signS l at_).1) ∧ doneB (run s (l.drop at_)) = doneB (run t (l.drop (at_ + (signS l at_).1)))) ∧
    ((signS l at_).2 < (signS l at_).1 → (at_ + (signS l at_).2 < l.length → fb s (l.drop at_) at_ = (at_ + (signS l at_).2 : Nat)) ∧ (¬ at_ + (signS l at_).2 < l.length → fb s (l.drop at_) at_ = -1) ∧ doneB (run s (l.drop at_)) = false) := by
  have hd : l.drop at_ = l.getD at_ 0 :: l.drop (at_ + 1) := by
    rw [List.drop_eq_getElem_cons hlt, List.getD_eq_getElem?_getD, List.getElem?_eq_getElem hlt]
    rfl
  have hst : stepS s (l.getD at_ 0) = ⟨(beginS (l.getD at_ 0)).1, (beginS (l.getD at_ 0)).2.1, (beginS (l.getD at_ 0)).2.2, decide ((beginS (l.getD at_ 0)).1 < 0)⟩ := by
    unfold stepS
    rw [if_neg (by simp [hs.2]), if_pos hs.1]
  by_cases h0 : l.getD at_ 0 < 128
  · have hsg : signS l at_ = (1, 1) := by unfold signS; rw [if_pos h0]
    rw [begin_low h0] at hst
    rw [hsg]
    refine ⟨Nat.le_refl _, by simp only; omega, (fun h => absurd h (by decide)), (fun _ _ => ⟨⟨0, 128, 191, false⟩, ⟨rfl, rfl⟩, ?_, ?_⟩), (fun h => absurd h (by decide))⟩
    · rw [hd, fb, hst]; simp
    · rw [hd, run_cons, hst]; simp
  · rw [begin_kind (by omega)] at hst
    rcases kind_n (l.getD at_ 0) with hk | ⟨hk1, hk2⟩
    · have hsg : signS l at_ = (0, 0) := by unfold signS; rw [if_neg h0, if_pos hk]
      rw [hk] at hst
      have hbad : (stepS s (l.getD at_ 0)).bad = true := by rw [hst]; simp
      rw [hsg]
      refine ⟨Nat.le_refl _, by simp only; omega, (fun _ => ⟨?_, ?_⟩), (fun h => absurd rfl h), (fun h => absurd h (by decide))⟩
      · rw [hd, fb, if_pos hbad]
      · rw [hd, run_cons, run_bad hbad, done_bad hbad]
    · have hk0 : (kindS (l.getD at_ 0)).1 ≠ 0 := by omega
      have hsg : signS l at_ = if l.length ≤ at_ + 1 ∨ l.getD (at_ + 1) 0 < (kindS (l.getD at_ 0)).2.1 ∨ (kindS (l.getD at_ 0)).2.2 < l.getD (at_ + 1) 0 then ((kindS (l.getD at_ 0)).1, 1)
          else ((kindS (l.getD at_ 0)).1, 2 + followS l (at_ + 2) ((kindS (l.getD at_ 0)).1 - 2)) := by
        unfold signS
        rw [if_neg h0, if_neg hk0]
      generalize kindS (l.getD at_ 0) = q at *
      obtain ⟨n, lo, hi⟩ := q
      simp only at hst hk1 hk2 hk0 hsg
      have hnb : decide ((n : Int) - 1 < 0) = false := decide_eq_false (by omega)
      rw [hnb] at hst
      have e1 : fb s (l.drop at_) at_ = fb ⟨(n : Int) - 1, lo, hi, false⟩ (l.drop (at_ + 1)) (at_ + 1) := by rw [hd, fb, hst]; simp
      have e2 : run s (l.drop at_) = run ⟨(n : Int) - 1, lo, hi, false⟩ (l.drop (at_ + 1)) := by rw [hd, run_cons, hst]
      by_cases h1 : l.length ≤ at_ + 1
      · rw [if_pos (.inl h1)] at hsg
        have hd1 : l.drop (at_ + 1) = [] := List.drop_eq_nil_of_le h1
        rw [hd1] at e1 e2
        rw [hsg, e1, e2]
        refine ⟨by simp only; omega, by simp only; omega, fun h => absurd h hk0, fun _ h => absurd h (by simp only; omega), fun _ => ⟨fun h => absurd h (by simp only; omega), fun _ => rfl, ?_⟩⟩
        unfold doneB run
        rw [Bool.and_eq_false_iff]
        exact .inr (beq_eq_false_iff_ne.2 (by simp only [List.foldl_nil]; omega))
      have hlt1 : at_ + 1 < l.length := by omega
      have hd1 : l.drop (at_ + 1) = l.getD (at_ + 1) 0 :: l.drop (at_ + 2) := by
        rw [List.drop_eq_getElem_cons hlt1, List.getD_eq_getElem?_getD, List.getElem?_eq_getElem hlt1]
        rfl
      by_cases h2 : l.getD (at_ + 1) 0 < lo ∨ hi < l.getD (at_ + 1) 0
      · rw [if_pos (.inr h2)] at hsg
        have hb : (stepS ⟨(n : Int) - 1, lo, hi, false⟩ (l.getD (at_ + 1) 0)).bad = true := by
          unfold stepS
          rw [if_neg (by simp), if_neg (by simp only; omega), if_pos h2]
        rw [hd1] at e1 e2
        rw [fb_pos hb] at e1
        rw [run_cons, run_bad hb] at e2
        rw [hsg, e1, e2]
        exact ⟨by simp only; omega, by simp only; omega, fun h => absurd h hk0, fun _ h => absurd h (by simp only; omega), fun _ => ⟨fun _ => rfl, fun h => absurd hlt1 h, done_bad hb⟩⟩
      · rw [if_neg (by omega)] at hsg
        have hst1 : stepS ⟨(n : Int) - 1, lo, hi, false⟩ (l.getD (at_ + 1) 0) = ⟨((n - 2 : Nat) : Int), 128, 191, false⟩ := by
          unfold stepS
          rw [if_neg (by simp), if_neg (by simp only; omega), if_neg h2]
          simp only
          rw [show (n : Int) - 1 - 1 = ((n - 2 : Nat) : Int) from by omega]
        rw [hd1] at e1 e2
        rw [fb_neg (by rw [hst1]), hst1] at e1
        rw [run_cons, hst1] at e2
        obtain ⟨i1, i2, i3, i4⟩ := fb_follow l (n - 2) (at_ + 2) ⟨((n - 2 : Nat) : Int), 128, 191, false⟩ rfl rfl (.inr ⟨rfl, rfl⟩) (by omega)
        rw [hsg, e1, e2]
        generalize followS l (at_ + 2) (n - 2) = q at *
        obtain ⟨z2, z3, z4, z5, z6⟩ := sign_arith q n at_ i1 hk1
        refine ⟨z4, by rw [z2]; exact i2, fun h => absurd h hk0, fun _ h => ?_, fun h => ?_⟩
        · simp only at h
          have := i3 (z3 h)
          rw [z5] at this
          exact this
        · simp only at h ⊢
          rw [z2]
          exact i4 (z6 h)

/-- The document's answer, sign by sign. -/
def refS (l : List Int) : Nat → Nat → Int × Bool
  | 0, _ => (-1, true)
  | k + 1, at_ =>
    if at_ < l.length then
      if (signS l at_).1 = 0 then ((at_ : Int), false)
      else if (signS l at_).2 < (signS l at_).1 then (if at_ + (signS l at_).2 < l.length then ((at_ + (signS l at_).2 : Nat) : Int) else -1, false)
      else refS l k (at_ + (signS l at_).1)
    else (-1, true)

theorem refS_says (l : List Int) (k : Nat) : ∀ (at_ : Nat) (s : St), Clean s → l.length ≤ at_ + k → refS l k at_ = (fb s (l.drop at_) at_, doneB (run s (l.drop at_))) := by
  induction k with
  | zero =>
    intro at_ s hs hl
    rw [List.drop_eq_nil_of_le (by omega)]
    simp [refS, fb, run, done_of_clean hs]
  | succ k ih =>
    intro at_ s hs hl
    simp only [refS]
    by_cases hlt : at_ < l.length
    · rw [if_pos hlt]
      obtain ⟨h1, h2, h3, h4, h5⟩ := sign_says l at_ s hs hlt
      by_cases h0 : (signS l at_).1 = 0
      · rw [if_pos h0, (h3 h0).1, (h3 h0).2]
      · rw [if_neg h0]
        by_cases hk : (signS l at_).2 < (signS l at_).1
        · obtain ⟨g1, g2, g3⟩ := h5 hk
          rw [if_pos hk, g3]
          by_cases hin : at_ + (signS l at_).2 < l.length
          · rw [if_pos hin, g1 hin]
          · rw [if_neg hin, g2 hin]
        · obtain ⟨t, ht, e1, e2⟩ := h4 h0 (by omega)
          rw [if_neg hk, e1, e2]
          exact ih _ t ht (by omega)
    · rw [if_neg hlt, List.drop_eq_nil_of_le (by omega)]
      simp [fb, run, done_of_clean hs]

def firstS (s : ByteArray) : Int := fb St.zero (byt s) 0
def validS (s : ByteArray) : Bool := doneB (run St.zero (byt s))
theorem refS_first (s : ByteArray) (k : Nat) (hk : s.size ≤ k) : refS (byt s) k 0 = (firstS s, validS s) := by
  rw [refS_says (byt s) k 0 St.zero zero_clean (by rw [byt_length]; omega)]
  rfl

end Go.Proofs.YtkmgiodhaaajjaaDoor.UtfP
