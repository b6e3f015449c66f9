/- A generator of conditions for walks: symbolic slots and own boxes; the rest of memory is told by a context. -/
import Derived.Test.YtgaopcbjhepklaaGreatStep
import Derived.Deep.DeepCutAuto
namespace Go.Proofs.YtgaopcbjhepklaaGreat
open Go.RowKit
set_option linter.unusedSimpArgs false
set_option linter.unusedVariables false

/-- a value, or the address of a cell of an own box -/
inductive SV where
  | v (x : Value)
  | p (b off : Nat)
def SV.den (ρ : Nat → Nat) : SV → Value
  | .v x => x
  | .p b off => .pointer (some ⟨ρ b, off, none⟩)
structure SS where
  s : Nat → SV
  b : Nat → Option (TypeId × List Value)
def upd {α : Type} (f : Nat → α) (d : Nat) (x : α) : Nat → α := fun t => bif Nat.beq t d then x else f t
theorem upd_same {α : Type} (f : Nat → α) (d : Nat) (x : α) : upd f d x d = x := by simp [upd]
theorem upd_ne {α : Type} (f : Nat → α) {d t : Nat} (x : α) (h : t ≠ d) : upd f d x t = f t := by
  have : Nat.beq t d = false := by
    cases e : Nat.beq t d with
    | false => rfl
    | true => exact absurd (Nat.eq_of_beq_eq_true e) h
  simp [upd, this]
theorem upd_comm {α : Type} (f : Nat → α) {d e : Nat} (x y : α) (h : d ≠ e) : upd (upd f d x) e y = upd (upd f e y) d x := by
  funext t
  by_cases h1 : t = d
  · subst h1; rw [upd_same, upd_ne _ _ h, upd_same]
  · by_cases h2 : t = e
    · subst h2; rw [upd_same, upd_ne _ _ h1, upd_same]
    · rw [upd_ne _ _ h2, upd_ne _ _ h1, upd_ne _ _ h1, upd_ne _ _ h2]

/-- what is known of the rest of memory -/
structure Ctx where
  dom : Nat → Prop
  R : World → Prop
  lt : ∀ w, R w → ∀ k, dom k → k < w.heap.size
  stable : ∀ w w', R w → (∀ k, dom k → w'.heap[k]? = w.heap[k]?) → w.heap.size ≤ w'.heap.size → w'.os = w.os → w'.tape = w.tape → w'.output = w.output → R w'
/-- memory went on: what is not told of by the context, and was there, is as it was -/
structure Goes (C : Ctx) (w : World) (C' : Ctx) (w' : World) : Prop where
  size : w.heap.size ≤ w'.heap.size
  block : ∀ k, k < w.heap.size → ¬ C.dom k → w'.heap[k]? = w.heap[k]?
  new : ∀ k, C'.dom k → C.dom k ∨ w.heap.size ≤ k
theorem Goes.refl (C : Ctx) (w : World) : Goes C w C w := ⟨Nat.le_refl _, fun _ _ _ => rfl, fun _ h => .inl h⟩

/-- of a function: how many slots, what it has deferred, which variables' addresses are handed on -/
structure Fk where
  n : Nat
  ds : List Deferred := []
  esc : Nat → Bool := fun _ => false
structure RepAt (N : Fk) (C : Ctx) (ρ : Nat → Nat) (ss : SS) (a : Act) (w : World) : Prop where
  size : a.tmps.size = N.n
  nod : a.defers = N.ds
  slot : ∀ t, a.tmps.getD t undef = (ss.s t).den ρ
  box : ∀ b ty cs, ss.b b = some (ty, cs) → w.heap[ρ b]? = some (.cells cs.toArray ty (0, 0)) ∧ ¬ C.dom (ρ b)
  inj : ∀ b b', (ss.b b).isSome = true → (ss.b b').isSome = true → ρ b = ρ b' → b = b'
  wf : ∀ t b off, ss.s t = .p b off → (ss.b b).isSome = true
  rest : C.R w
def Rep (N : Fk) (C : Ctx) (ss : SS) (a : Act) (w : World) : Prop := ∃ ρ, RepAt N C ρ ss a w

def SS.eval (ss : SS) : Operand → SV
  | .tmp t => ss.s t
  | .const v => .v v
  | .global g => .v (.pointer (some ⟨g, 0, none⟩))
  | .func f => .v (.func (.func f) #[] #[])
section
variable {N : Fk} {C C' : Ctx} {ρ : Nat → Nat} {ss : SS} {a : Act} {w w' : World}
theorem RepAt.eval (r : RepAt N C ρ ss a w) (x : Operand) : a.eval x = (ss.eval x).den ρ := by
  cases x with
  | tmp t => exact r.slot t
  | const v => rfl
  | global g => rfl
  | func f => rfl
theorem RepAt.wfe (r : RepAt N C ρ ss a w) (x : Operand) : ∀ b off, ss.eval x = .p b off → (ss.b b).isSome = true := by
  cases x with
  | tmp t => exact r.wf t
  | const v => intro b off h; cases h
  | global g => intro b off h; cases h
  | func f => intro b off h; cases h
theorem getD_put (ts : Array Value) (d t : Nat) (v : Value) (hd : d < ts.size) : (ts.setIfInBounds d v).getD t undef = if t = d then v else ts.getD t undef := by
  rw [Array.getD_eq_getD_getElem?, Array.getD_eq_getD_getElem?, Array.getElem?_setIfInBounds]
  by_cases h : d = t
  · subst h; simp [hd]
  · simp [h, Ne.symm h]
theorem RepAt.put (r : RepAt N C ρ ss a w) {d : Nat} (hd : d < N.n) (x : SV) (hx : ∀ b off, x = .p b off → (ss.b b).isSome = true) : RepAt N C ρ ⟨upd ss.s d x, ss.b⟩ (a.put (some d) (x.den ρ)) w := by
  refine ⟨?_, r.nod, fun t => ?_, r.box, r.inj, fun t b off h => ?_, r.rest⟩
  · simpa [Act.put] using r.size
  · simp only [Act.put]
    rw [getD_put _ _ _ _ (by rw [r.size]; exact hd)]
    by_cases e : t = d
    · subst e; simp [upd_same]
    · simp only [e, if_false]; rw [upd_ne _ _ e]; exact r.slot t
  · by_cases e : t = d
    · subst e; rw [show (SS.mk (upd ss.s t x) ss.b).s t = x from upd_same _ _ _] at h; exact hx b off h
    · rw [show (SS.mk (upd ss.s d x) ss.b).s t = ss.s t from upd_ne _ _ e] at h; exact r.wf t b off h
/-- memory that is not the boxes' went on -/
theorem RepAt.goes (r : RepAt N C ρ ss a w) (g : Goes C w C' w') (h : C'.R w') : RepAt N C' ρ ss a w' := by
  refine ⟨r.size, r.nod, r.slot, fun b ty cs hb => ?_, r.inj, r.wf, h⟩
  obtain ⟨h1, h2⟩ := r.box b ty cs hb
  have hlt : ρ b < w.heap.size := (Array.getElem?_eq_some_iff.1 h1).1
  refine ⟨(g.block _ hlt h2).trans h1, fun hd => ?_⟩
  rcases g.new _ hd with h3 | h3
  · exact h2 h3
  · omega
theorem RepAt.drew (r : RepAt N C ρ ss a w) : RepAt N C ρ ss a w.drew :=
  ⟨r.size, r.nod, r.slot, r.box, r.inj, r.wf, C.stable _ _ r.rest (fun _ _ => rfl) (Nat.le_refl _) rfl rfl rfl⟩
/-- a new box -/
theorem RepAt.new (r : RepAt N C ρ ss a w) (d : Nat) (hd : ss.b d = none) (t : TypeId) (cs : List Value) : RepAt N C (upd ρ d w.heap.size) ⟨ss.s, upd ss.b d (some (t, cs))⟩ a (w.alloc (.cells cs.toArray t)) := by
  have hne : ∀ t off b, ss.s t = .p b off → b ≠ d := fun t off b h e => by
    have := r.wf t b off h
    rw [e, hd] at this
    cases this
  have hne2 : ∀ b, (ss.b b).isSome = true → b ≠ d := fun b h e => by rw [e, hd] at h; cases h
  have hlt : ∀ b, (ss.b b).isSome = true → ρ b < w.heap.size := fun b h => by
    obtain ⟨⟨ty, cs⟩, hb⟩ := Option.isSome_iff_exists.1 h
    exact (Array.getElem?_eq_some_iff.1 (r.box b ty cs hb).1).1
  have hs : (w.alloc (.cells cs.toArray t)).heap.size = w.heap.size + 1 := by simp
  have hold : ∀ k, k < w.heap.size → (w.alloc (.cells cs.toArray t)).heap[k]? = w.heap[k]? := fun k hk => Below.heap_alloc w _ k hk
  refine ⟨r.size, r.nod, fun t => ?_, fun b ty cs' hb => ?_, fun b b' h h' e => ?_, fun t b off h => ?_, C.stable _ _ r.rest (fun k hk => hold k (C.lt _ r.rest k hk)) (by rw [hs]; omega) rfl rfl rfl⟩
  · rw [r.slot t]
    cases e : ss.s t with
    | v x => rfl
    | p b off => simp only [SV.den]; rw [upd_ne _ _ (hne t off b e)]
  · by_cases e : b = d
    · subst e
      rw [show (SS.mk ss.s (upd ss.b b (some (t, cs)))).b b = some (t, cs) from upd_same _ _ _] at hb
      injection hb with hb
      injection hb with h1 h2
      subst h1 h2
      rw [upd_same]
      exact ⟨heap_alloc_new w _, fun hd => absurd (C.lt _ r.rest _ hd) (by omega)⟩
    · rw [show (SS.mk ss.s (upd ss.b d (some (t, cs)))).b b = ss.b b from upd_ne _ _ e] at hb
      rw [upd_ne _ _ e]
      obtain ⟨h1, h2⟩ := r.box b ty cs' hb
      exact ⟨(hold _ (hlt b (by rw [hb]; rfl))).trans h1, h2⟩
  · by_cases e1 : b = d
    · by_cases e2 : b' = d
      · rw [e1, e2]
      · rw [show (SS.mk ss.s (upd ss.b d (some (t, cs)))).b b' = ss.b b' from upd_ne _ _ e2] at h'
        rw [e1, upd_same, upd_ne _ _ e2] at e
        have := hlt b' h'
        omega
    · rw [show (SS.mk ss.s (upd ss.b d (some (t, cs)))).b b = ss.b b from upd_ne _ _ e1] at h
      by_cases e2 : b' = d
      · rw [e2, upd_same, upd_ne _ _ e1] at e
        have := hlt b h
        omega
      · rw [show (SS.mk ss.s (upd ss.b d (some (t, cs)))).b b' = ss.b b' from upd_ne _ _ e2] at h'
        rw [upd_ne _ _ e1, upd_ne _ _ e2] at e
        exact r.inj b b' h h' e
  · have := r.wf t b off h
    by_cases e : b = d
    · subst e; rw [show (SS.mk ss.s (upd ss.b b _)).b b = _ from upd_same _ _ _]; rfl
    · rw [show (SS.mk ss.s (upd ss.b d _)).b b = ss.b b from upd_ne _ _ e]; exact this
/-- a box has other cells -/
theorem RepAt.setBox (r : RepAt N C ρ ss a w) {b : Nat} {ty : TypeId} {cs cs' : List Value} (hb : ss.b b = some (ty, cs)) : RepAt N C ρ ⟨ss.s, upd ss.b b (some (ty, cs'))⟩ a (w.setRow (ρ b) cs'.toArray) := by
  obtain ⟨h1, h2⟩ := r.box b ty cs hb
  have hlt : ρ b < w.heap.size := (Array.getElem?_eq_some_iff.1 h1).1
  have hoth : ∀ k, k ≠ ρ b → (w.setRow (ρ b) cs'.toArray).heap[k]? = w.heap[k]? := fun k hk => setRow_other w _ k _ hk
  have some_iff : ∀ c, (upd ss.b b (some (ty, cs')) c).isSome = (ss.b c).isSome := fun c => by
    by_cases e : c = b
    · subst e; rw [upd_same, hb]; rfl
    · rw [upd_ne _ _ e]
  refine ⟨r.size, r.nod, r.slot, fun c ty' cs'' hc => ?_, fun c c' h h' e => r.inj c c' (by rw [← some_iff]; exact h) (by rw [← some_iff]; exact h') e, fun t c off h => by rw [show (SS.mk ss.s (upd ss.b b (some (ty, cs')))).b c = upd ss.b b (some (ty, cs')) c from rfl, some_iff]; exact r.wf t c off h, ?_⟩
  · by_cases e : c = b
    · subst e
      rw [show (SS.mk ss.s (upd ss.b c (some (ty, cs')))).b c = some (ty, cs') from upd_same _ _ _] at hc
      injection hc with hc
      injection hc with h3 h4
      subst h3 h4
      exact ⟨setRow_heap w _ _ _ _ _ h1, h2⟩
    · rw [show (SS.mk ss.s (upd ss.b b (some (ty, cs')))).b c = ss.b c from upd_ne _ _ e] at hc
      obtain ⟨h3, h4⟩ := r.box c ty' cs'' hc
      refine ⟨(hoth _ fun e' => e (r.inj c b (by rw [hc]; rfl) (by rw [hb]; rfl) e')).trans h3, h4⟩
  · exact C.stable _ _ r.rest (fun k hk => hoth k (fun e => h2 (e ▸ hk))) (by simp) rfl rfl rfl
end
end Go.Proofs.YtgaopcbjhepklaaGreat
