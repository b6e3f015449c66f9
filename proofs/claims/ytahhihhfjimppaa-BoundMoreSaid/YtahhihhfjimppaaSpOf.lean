/- The plain side of layer 12: what splits come to -/
import Derived.Test.YtahhihhfjimppaaSpDef
namespace Go.Proofs.Ytahhihhfjimppaa.S
set_option linter.unusedSimpArgs false
set_option linter.unusedVariables false

/-- the two chains, the tasks, the next strand -/
structure State where
  E : List Nat
  H : List Nat
  ts : List (Nat × Nat)
  n : Nat
def init : State := ⟨[0], [0], [(0, 0)], 1⟩
def State.last (s : State) : Nat × Nat := s.ts.getD (s.ts.length - 1) (0, 0)
def State.turn (s : State) (kind : Int) : State :=
  if kind = 1 then
    if s.last.2 = 0 then ⟨put (put s.E s.last.1 [s.n, s.n + 1]) (s.n + 1) [s.n + 2], put (put s.H s.last.1 [s.n + 1, s.n]) s.n [s.n + 2], s.ts.set (s.ts.length - 1) (s.n + 1, s.n + 2) ++ [(s.n, 0)], s.n + 3⟩
    else ⟨put s.E s.last.1 [s.n, s.n + 1], put s.H s.last.1 [s.n + 1, s.n], s.ts.set (s.ts.length - 1) (s.n + 1, s.last.2) ++ [(s.n, 0)], s.n + 2⟩
  else if kind = 2 then { s with ts := s.ts.take (s.ts.length - 1) }
  else { s with ts := s.ts.set (s.ts.length - 1) (s.last.2, 0) }
/-- a split that may come now -/
def State.ok (s : State) (f : Five) : Prop := (may s.ts s.n f.1).2 = true ∧ f = (may s.ts s.n f.1).1
instance (s : State) (f : Five) : Decidable (s.ok f) := inferInstanceAs (Decidable (_ ∧ _))
def run : State → List Five → Option State
  | s, [] => some s
  | s, f :: r => if s.ok f then run (s.turn f.1) r else none

/-- what holds of every state that comes of splits -/
structure State.Good (s : State) : Prop where
  e : s.E.length = s.n
  h : s.H.length = s.n
  elt : ∀ x ∈ s.E, x < s.n
  hlt : ∀ x ∈ s.H, x < s.n
  pos : 0 < s.ts.length
  ts : ∀ t ∈ s.ts, t.1 < s.n ∧ t.2 < s.n
theorem init_good : init.Good := by constructor <;> simp [init]
theorem State.Good.last {s : State} (h : s.Good) : s.last.1 < s.n ∧ s.last.2 < s.n := by
  have hp := h.pos
  unfold State.last
  rw [List.getD_eq_getElem?_getD, List.getElem?_eq_getElem (by omega)]
  exact h.ts _ (by simp)
theorem put_lt {N : Nat} (bl : List Nat) : ∀ (L : List Nat) (a : Nat), (∀ x ∈ L, x < N) → (∀ b ∈ bl, b < N) → ∀ x ∈ put L a bl, x < N := by
  induction bl with
  | nil => intro L a h _; exact h
  | cons b r ih => intro L a h hb; exact ih _ _ (put1_lt h (hb b (by simp))) (fun x hx => hb x (by simp [hx]))
theorem State.Good.turn {s : State} (h : s.Good) {f : Five} (hk : s.ok f) : (s.turn f.1).Good := by
  have hl := h.last
  have hp := h.pos
  have hts := h.ts
  unfold State.turn
  by_cases k1 : f.1 = 1
  · rw [if_pos k1]
    by_cases hj : s.last.2 = 0
    · rw [if_pos hj]
      constructor
      · show (put (put s.E s.last.1 [s.n, s.n + 1]) (s.n + 1) [s.n + 2]).length = s.n + 3
        simp only [put, put1_length, h.e]; omega
      · show (put (put s.H s.last.1 [s.n + 1, s.n]) s.n [s.n + 2]).length = s.n + 3
        simp only [put, put1_length, h.h]; omega
      · exact put_lt _ _ _ (put_lt _ _ _ (fun x hx => by have := h.elt x hx; simp only; omega) (by simp)) (by simp)
      · exact put_lt _ _ _ (put_lt _ _ _ (fun x hx => by have := h.hlt x hx; simp only; omega) (by simp)) (by simp)
      · simp
      · intro t ht
        show t.1 < s.n + 3 ∧ t.2 < s.n + 3
        rcases List.mem_append.1 ht with ht | ht
        · rcases List.mem_or_eq_of_mem_set ht with ht | rfl
          · have := hts t ht; omega
          · exact ⟨by simp, by simp⟩
        · rw [List.mem_singleton.1 ht]; exact ⟨by simp, by simp⟩
    · rw [if_neg hj]
      constructor
      · show (put s.E s.last.1 [s.n, s.n + 1]).length = s.n + 2
        simp only [put, put1_length, h.e]; omega
      · show (put s.H s.last.1 [s.n + 1, s.n]).length = s.n + 2
        simp only [put, put1_length, h.h]; omega
      · exact put_lt _ _ _ (fun x hx => by have := h.elt x hx; simp only; omega) (by simp)
      · exact put_lt _ _ _ (fun x hx => by have := h.hlt x hx; simp only; omega) (by simp)
      · simp
      · intro t ht
        show t.1 < s.n + 2 ∧ t.2 < s.n + 2
        rcases List.mem_append.1 ht with ht | ht
        · rcases List.mem_or_eq_of_mem_set ht with ht | rfl
          · have := hts t ht; omega
          · exact ⟨by simp, by show s.last.2 < s.n + 2; omega⟩
        · rw [List.mem_singleton.1 ht]; exact ⟨by simp, by simp⟩
  · rw [if_neg k1]
    by_cases k2 : f.1 = 2
    · rw [if_pos k2]
      refine ⟨h.e, h.h, h.elt, h.hlt, ?_, fun t ht => hts t (List.mem_of_mem_take ht)⟩
      show 0 < (s.ts.take (s.ts.length - 1)).length
      have h1 := hk.1
      unfold may at h1
      rw [if_neg k1, if_pos k2] at h1
      split at h1
      · cases h1
      · rename_i hn
        rw [List.length_take]
        omega
    · rw [if_neg k2]
      refine ⟨h.e, h.h, h.elt, h.hlt, by simpa using hp, fun t ht => ?_⟩
      rcases List.mem_or_eq_of_mem_set ht with ht | rfl
      · exact hts t ht
      · exact ⟨hl.2, by show 0 < s.n; omega⟩
theorem turn_n (s : State) (k : Int) : (s.turn k).n ≤ s.n + 3 ∧ s.n ≤ (s.turn k).n := by
  unfold State.turn
  split
  · split <;> simp
  · split <;> simp
theorem turn_ts (s : State) (k : Int) : (s.turn k).ts.length ≤ s.ts.length + 1 := by
  unfold State.turn
  split
  · split <;> simp
  · split
    · simp; omega
    · simp
theorem run_cons (s : State) (f : Five) (r : List Five) : run s (f :: r) = if s.ok f then run (s.turn f.1) r else none := rfl
theorem run_good {l : List Five} : ∀ {s t : State}, s.Good → run s l = some t → t.Good := by
  induction l with
  | nil => intro s t h hr; injection hr with hr; exact hr ▸ h
  | cons f r ih =>
    intro s t h hr
    rw [run_cons] at hr
    split at hr
    · rename_i hk
      exact ih (h.turn hk) hr
    · cases hr
theorem run_append {l m : List Five} : ∀ {s : State}, run s (l ++ m) = (run s l).bind (fun t => run t m) := by
  induction l with
  | nil => intro s; rfl
  | cons f r ih =>
    intro s
    rw [List.cons_append, run_cons, run_cons]
    split
    · exact ih
    · rfl
theorem run_n {l : List Five} : ∀ {s t : State}, run s l = some t → t.n ≤ s.n + 3 * l.length ∧ s.n ≤ t.n := by
  induction l with
  | nil => intro s t hr; injection hr with hr; subst hr; simp
  | cons f r ih =>
    intro s t hr
    rw [run_cons] at hr
    split at hr
    · have := ih hr
      have := turn_n s f.1
      simp only [List.length_cons]
      omega
    · cases hr
/-- the places in the two lists -/
def State.places (s : State) : List (Nat × Nat) := (S.places s.E).zip (S.places s.H)
theorem State.Good.places_length {s : State} (h : s.Good) : s.places.length = s.n := by
  unfold State.places
  rw [List.length_zip, S.places_length, S.places_length, h.e, h.h, Nat.min_self]
end Go.Proofs.Ytahhihhfjimppaa.S
