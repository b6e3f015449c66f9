/- The plain side of layer 12: more splits turn nothing; the English list is the serial order -/
import Derived.Test.YtahhihhfjimppaaSpOrd
namespace Go.Proofs.Ytahhihhfjimppaa.S
set_option linter.unusedSimpArgs false
set_option linter.unusedVariables false

/-- the tasks, the one that runs first -/
def State.stk (s : State) : List (Nat × Nat) := s.ts.reverse
theorem stk_last {s : State} {t : Nat × Nat} {r : List (Nat × Nat)} (h : s.stk = t :: r) : s.last = t ∧ s.ts = r.reverse ++ [t] := by
  have e : s.ts = r.reverse ++ [t] := by
    have := congrArg List.reverse h
    simpa [State.stk] using this
  refine ⟨?_, e⟩
  unfold State.last
  rw [e]
  simp [List.getD_eq_getElem?_getD]
theorem stk_pos {s : State} (h : s.Good) : ∃ t r, s.stk = t :: r := by
  have hp := h.pos
  cases hs : s.stk with
  | nil => unfold State.stk at hs; rw [List.reverse_eq_nil_iff] at hs; rw [hs] at hp; simp at hp
  | cons t r => exact ⟨t, r, rfl⟩
theorem turn_stk {s : State} {t : Nat × Nat} {r : List (Nat × Nat)} (h : s.stk = t :: r) (k : Int) :
    (s.turn k).stk = if k = 1 then (s.n, 0) :: (s.n + 1, if t.2 = 0 then s.n + 2 else t.2) :: r else if k = 2 then r else (t.2, 0) :: r := by
  obtain ⟨hl, ht⟩ := stk_last h
  have hset : ∀ u, s.ts.set (s.ts.length - 1) u = r.reverse ++ [u] := by intro u; rw [ht]; simp
  unfold State.turn State.stk
  rw [hl]
  by_cases k1 : k = 1
  · rw [if_pos k1, if_pos k1]
    by_cases hj : t.2 = 0
    · rw [if_pos hj, if_pos hj, hset]; simp
    · rw [if_neg hj, if_neg hj, hset]; simp
  · rw [if_neg k1, if_neg k1]
    by_cases k2 : k = 2
    · rw [if_pos k2, if_pos k2]
      show (s.ts.take (s.ts.length - 1)).reverse = r
      rw [ht]; simp
    · rw [if_neg k2, if_neg k2]
      show (s.ts.set (s.ts.length - 1) (t.2, 0)).reverse = _
      rw [hset]; simp
theorem turn_n1 {s : State} {t : Nat × Nat} {r : List (Nat × Nat)} (h : s.stk = t :: r) (k : Int) : (s.turn k).n = if k = 1 then (if t.2 = 0 then s.n + 3 else s.n + 2) else s.n := by
  obtain ⟨hl, ht⟩ := stk_last h
  unfold State.turn
  rw [hl]
  by_cases k1 : k = 1
  · rw [if_pos k1, if_pos k1]; split <;> rfl
  · rw [if_neg k1, if_neg k1]; split <;> rfl
/-- which splits may come -/
theorem ok_cases {s : State} {t : Nat × Nat} {r : List (Nat × Nat)} (h : s.stk = t :: r) {f : Five} (hk : s.ok f) :
    f = (1, (t.1 : Int), (s.n : Int), (s.n : Int) + 1, if t.2 = 0 then (s.n : Int) + 2 else (t.2 : Int)) ∨
    (t.2 = 0 ∧ ∃ u r', r = u :: r' ∧ f = (2, (t.1 : Int), 0, 0, (u.2 : Int))) ∨
    (t.2 ≠ 0 ∧ f = (3, (t.1 : Int), 0, 0, (t.2 : Int))) := by
  obtain ⟨hl, ht⟩ := stk_last h
  obtain ⟨h1, h2⟩ := hk
  unfold may at h1 h2
  unfold State.last at hl
  rw [hl] at h1 h2
  dsimp only at h1 h2
  by_cases k1 : f.1 = 1
  · rw [if_pos k1] at h2
    exact .inl h2
  · rw [if_neg k1] at h1 h2
    by_cases k2 : f.1 = 2
    · rw [if_pos k2] at h1 h2
      split at h1
      · cases h1
      · rename_i hc
        rw [if_neg hc] at h2
        simp only [not_or, Nat.not_lt, Decidable.not_not] at hc
        refine .inr (.inl ⟨hc.2, ?_⟩)
        cases r with
        | nil => rw [ht] at hc; simp at hc
        | cons u r' =>
          refine ⟨u, r', rfl, ?_⟩
          have e : s.ts.getD (s.ts.length - 2) (0, 0) = u := by
            rw [ht]; simp [List.getD_eq_getElem?_getD]
          rw [e] at h2
          exact h2
    · rw [if_neg k2] at h1 h2
      by_cases k3 : f.1 = 3
      · rw [if_pos k3] at h1 h2
        exact .inr (.inr ⟨by simpa using h1, h2⟩)
      · rw [if_neg k3] at h1
        cases h1

/-- the order of those that there were is kept -/
def Kept (n : Nat) (e e' : List Nat) : Prop := ∀ x y, x < n → y < n → (e'.idxOf x < e'.idxOf y ↔ e.idxOf x < e.idxOf y)
theorem Kept.refl (n : Nat) (e : List Nat) : Kept n e e := fun _ _ _ _ => Iff.rfl
theorem Kept.trans {n m : Nat} {e e1 e2 : List Nat} (h : Kept n e e1) (h2 : Kept m e1 e2) (hnm : n ≤ m) : Kept n e e2 := fun x y hx hy => (h2 x y (by omega) (by omega)).trans (h x y hx hy)
theorem Kept.le {n : Nat} {e e' : List Nat} (h : Kept n e e') {x y : Nat} (hx : x < n) (hy : y < n) (hl : e.idxOf x ≤ e.idxOf y) : e'.idxOf x ≤ e'.idxOf y := by
  have := h y x hy hx
  omega
theorem moved_kept {e e' : List Nat} {n a k : Nat} (h : moved e e' n a k) : Kept n e e' := by
  intro x y hx hy
  rw [h x hx, h y hy]
  split <;> split <;> omega
theorem ord_step {s : State} {e h : List Nat} (hg : s.Good) (ho : Ords s e h) (k : Int) : ∃ e' h', Ords (s.turn k) e' h' ∧ Kept s.n e e' ∧ Kept s.n h h' := by
  by_cases k1 : k = 1
  · subst k1
    by_cases hj : s.last.2 = 0
    · obtain ⟨e', h', h1, h2, h3, _⟩ := ord_fork hg ho hj
      exact ⟨e', h', h1, moved_kept h2, moved_kept h3⟩
    · obtain ⟨e', h', h1, h2, h3, _⟩ := ord_more hg ho hj
      exact ⟨e', h', h1, moved_kept h2, moved_kept h3⟩
  · exact ⟨e, h, (ord_else ho k1).1, Kept.refl _ _, Kept.refl _ _⟩
theorem run_ord {l : List Five} : ∀ {s t : State} {e h : List Nat}, s.Good → Ords s e h → run s l = some t → ∃ e' h', Ords t e' h' ∧ Kept s.n e e' ∧ Kept s.n h h' := by
  induction l with
  | nil => intro s t e h hg ho hr; injection hr with hr; subst hr; exact ⟨e, h, ho, Kept.refl _ _, Kept.refl _ _⟩
  | cons f r ih =>
    intro s t e h hg ho hr
    rw [run_cons] at hr
    split at hr
    · rename_i hk
      obtain ⟨e1, h1, o1, k1, k2⟩ := ord_step hg ho f.1
      obtain ⟨e2, h2, o2, k3, k4⟩ := ih (hg.turn hk) o1 hr
      have := (turn_n s f.1).2
      exact ⟨e2, h2, o2, k1.trans k3 this, k2.trans k4 this⟩
    · cases hr

/-- the stack in the English list: a child's strands, and its join, stand ahead of what goes on beside it -/
def Stk (e : List Nat) : List (Nat × Nat) → Prop
  | [] => True
  | t :: r => (t.2 ≠ 0 → e.idxOf t.1 < e.idxOf t.2) ∧ (∀ u r', r = u :: r' → e.idxOf t.1 < e.idxOf u.1 ∧ (t.2 ≠ 0 → e.idxOf t.2 < e.idxOf u.1)) ∧ Stk e r
theorem Stk.kept {e e' : List Nat} {n : Nat} (hk : Kept n e e') : ∀ {l : List (Nat × Nat)}, (∀ t ∈ l, t.1 < n ∧ t.2 < n) → Stk e l → Stk e' l := by
  intro l
  induction l with
  | nil => intro _ _; trivial
  | cons t r ih =>
    intro hl h
    have ht := hl t (by simp)
    refine ⟨fun hj => (hk _ _ ht.1 ht.2).2 (h.1 hj), fun u r' hr => ?_, ih (fun u hu => hl u (by simp [hu])) h.2.2⟩
    have hu := hl u (by rw [hr]; simp)
    have := h.2.1 u r' hr
    exact ⟨(hk _ _ ht.1 hu.1).2 this.1, fun hj => (hk _ _ ht.2 hu.1).2 (this.2 hj)⟩

/-- which strand begins at a split -/
def nx (f : Five) : Int := if f.1 = 1 then f.2.2.1 else f.2.2.2.2
def atNext (a : Nat) (f : Five) : Nat := if f.1 = 2 then a else (nx f).toNat
def serial (a : Nat) (l : List Five) : Nat := l.foldl atNext a

structure SInv (s : State) (e h : List Nat) (a : Nat) : Prop where
  good : s.Good
  ord : Ords s e h
  lt : a < s.n
  le : e.idxOf a ≤ e.idxOf s.last.1
  stk : Stk e s.stk
theorem init_sinv : SInv init [0] [0] 0 := ⟨init_good, init_ord, by decide, by decide, by simp [init, State.stk, Stk]⟩
theorem stk_mem {s : State} (hg : s.Good) : ∀ t ∈ s.stk, t.1 < s.n ∧ t.2 < s.n := fun t ht => hg.ts t (by simpa [State.stk] using ht)
theorem sinv_step {s : State} {e h : List Nat} {a : Nat} (I : SInv s e h a) {f : Five} (hk : s.ok f) :
    ∃ e' h', SInv (s.turn f.1) e' h' (atNext a f) ∧ Kept s.n e e' ∧ Kept s.n h h' ∧ (f.1 ≠ 2 → nx f = (atNext a f : Int) ∧ e'.idxOf a < e'.idxOf (atNext a f)) := by
  obtain ⟨t, r, hs⟩ := stk_pos I.good
  have hm := stk_mem I.good
  obtain ⟨hlast, hts⟩ := stk_last hs
  have hgood := I.good.turn hk
  have hS := I.stk
  have hle := I.le
  rw [hs] at hS hm
  rw [hlast] at hle
  have ht := hm t (by simp)
  have hstk := turn_stk hs f.1
  have hn := turn_n1 hs f.1
  rcases ok_cases hs hk with hf | ⟨h0, u, r', hr, hf⟩ | ⟨h0, hf⟩
  · have k1 : f.1 = 1 := by rw [hf]
    have ea : atNext a f = s.n := by unfold atNext nx; rw [hf]; simp
    have en : nx f = (s.n : Int) := by unfold nx; rw [hf]; simp
    rw [ea]
    rw [k1, if_pos rfl] at hstk hn
    rw [k1] at hgood ⊢
    have hlast2 := (stk_last hstk).1
    by_cases hj : t.2 = 0
    · rw [if_pos hj] at hstk hn
      obtain ⟨e', h', o', m1, m2, p1, p2, p3, _⟩ := ord_fork I.good I.ord (by rw [hlast]; exact hj)
      rw [hlast] at m1 m2 p1 p2 p3
      have K1 := moved_kept m1
      refine ⟨e', h', ⟨hgood, o', by omega, by rw [hlast2]; exact Nat.le_refl _, ?_⟩, K1, moved_kept m2, fun _ => ⟨en, ?_⟩⟩
      · rw [hstk]
        refine ⟨fun h => absurd rfl h, fun u r' hr => ?_, fun _ => ?_, fun u r' hr => ?_, Stk.kept K1 (fun u hu => hm u (by simp [hu])) hS.2.2⟩
        · injection hr with hr; subst hr; exact ⟨by show e'.idxOf s.n < e'.idxOf (s.n + 1); omega, fun h => absurd rfl h⟩
        · show e'.idxOf (s.n + 1) < e'.idxOf (s.n + 2); omega
        · have hu := hm u (by rw [hr]; simp)
          have q1 := (hS.2.1 u r' hr).1
          have q2 := m1 u.1 hu.1
          rw [if_neg (by omega)] at q2
          exact ⟨by show e'.idxOf (s.n + 1) < _; omega, fun _ => by show e'.idxOf (s.n + 2) < _; omega⟩
      · rw [m1 a I.lt, if_pos hle]; omega
    · rw [if_neg hj] at hstk hn
      obtain ⟨e', h', o', m1, m2, p1, p2, _⟩ := ord_more I.good I.ord (by rw [hlast]; exact hj)
      rw [hlast] at m1 m2 p1 p2
      have K1 := moved_kept m1
      refine ⟨e', h', ⟨hgood, o', by omega, by rw [hlast2]; exact Nat.le_refl _, ?_⟩, K1, moved_kept m2, fun _ => ⟨en, ?_⟩⟩
      · rw [hstk]
        refine ⟨fun h => absurd rfl h, fun u r' hr => ?_, fun _ => ?_, fun u r' hr => ?_, Stk.kept K1 (fun u hu => hm u (by simp [hu])) hS.2.2⟩
        · injection hr with hr; subst hr; exact ⟨by show e'.idxOf s.n < e'.idxOf (s.n + 1); omega, fun h => absurd rfl h⟩
        · have q1 := hS.1 hj
          have q2 := m1 t.2 ht.2
          rw [if_neg (by omega)] at q2
          show e'.idxOf (s.n + 1) < e'.idxOf t.2; omega
        · have hu := hm u (by rw [hr]; simp)
          have q1 := (hS.2.1 u r' hr)
          have q3 := q1.2 hj
          have q2 := m1 u.1 hu.1
          rw [if_neg (by omega)] at q2
          have q4 := m1 t.2 ht.2
          refine ⟨by show e'.idxOf (s.n + 1) < _; omega, fun _ => ?_⟩
          show e'.idxOf t.2 < e'.idxOf u.1
          rw [q2, q4]
          split <;> omega
      · rw [m1 a I.lt, if_pos hle]; omega
  · have k2 : f.1 = 2 := by rw [hf]
    have ea : atNext a f = a := by unfold atNext; rw [if_pos k2]
    rw [ea]
    rw [k2] at hstk hn hgood ⊢
    rw [if_neg (by decide), if_pos rfl] at hstk
    rw [if_neg (by decide)] at hn
    obtain ⟨o', _⟩ := ord_else I.ord (k := 2) (by decide)
    rw [hr] at hstk
    have hlast2 := (stk_last hstk).1
    refine ⟨e, h, ⟨hgood, o', by rw [hn]; exact I.lt, ?_, ?_⟩, Kept.refl _ _, Kept.refl _ _, fun h => absurd rfl h⟩
    · rw [hlast2]
      have := (hS.2.1 u r' hr).1
      omega
    · rw [hstk, ← hr]; exact hS.2.2
  · have k3 : f.1 = 3 := by rw [hf]
    have ea : atNext a f = t.2 := by unfold atNext nx; rw [hf]; simp
    have en : nx f = (t.2 : Int) := by unfold nx; rw [hf]; simp
    rw [ea]
    rw [k3] at hstk hn hgood ⊢
    rw [if_neg (by decide), if_neg (by decide)] at hstk
    rw [if_neg (by decide)] at hn
    obtain ⟨o', _⟩ := ord_else I.ord (k := 3) (by decide)
    have hlast2 := (stk_last hstk).1
    have q1 := hS.1 h0
    refine ⟨e, h, ⟨hgood, o', by rw [hn]; exact ht.2, by rw [hlast2]; exact Nat.le_refl _, ?_⟩, Kept.refl _ _, Kept.refl _ _, fun _ => ⟨en, by omega⟩⟩
    rw [hstk]
    exact ⟨fun h => absurd rfl h, fun u r' hr => ⟨(hS.2.1 u r' hr).2 h0, fun h => absurd rfl h⟩, hS.2.2⟩

theorem serial_all {l : List Five} : ∀ {s t : State} {e h : List Nat} {a : Nat}, SInv s e h a → run s l = some t →
    ∃ e' h', Ords t e' h' ∧ Kept s.n e e' ∧ ∀ k (hk : k < l.length), l[k].1 ≠ 2 → nx l[k] = (atNext (serial a (l.take k)) l[k] : Int) ∧ atNext (serial a (l.take k)) l[k] < t.n ∧ serial a (l.take k) < t.n ∧
      e'.idxOf (serial a (l.take k)) < e'.idxOf (atNext (serial a (l.take k)) l[k]) := by
  induction l with
  | nil => intro s t e h a I hr; injection hr with hr; subst hr; exact ⟨e, h, I.ord, Kept.refl _ _, fun k hk => by simp at hk⟩
  | cons f r ih =>
    intro s t e h a I hr
    rw [run_cons] at hr
    split at hr
    · rename_i hk
      obtain ⟨e1, h1, I1, k1, _, q⟩ := sinv_step I hk
      obtain ⟨e2, h2, o2, k2, q2⟩ := ih I1 hr
      have hn1 := (turn_n s f.1).2
      have hn2 := (run_n hr).2
      refine ⟨e2, h2, o2, k1.trans k2 hn1, fun k hkl hne => ?_⟩
      cases k with
      | zero =>
        have hq := q hne
        have h3 := I1.lt
        have h4 := I.lt
        refine ⟨hq.1, ?_, ?_, ?_⟩
        · show atNext a f < t.n; omega
        · show a < t.n; omega
        · show e2.idxOf a < e2.idxOf (atNext a f)
          exact (k2 a _ (by omega) h3).2 hq.2
      | succ k => exact q2 k (by simpa using hkl) hne
    · cases hr
end Go.Proofs.Ytahhihhfjimppaa.S
