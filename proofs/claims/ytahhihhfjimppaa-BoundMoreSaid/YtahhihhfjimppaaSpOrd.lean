/- The plain side of layer 12: the chains as lists; places as places in them -/
import Derived.Test.YtahhihhfjimppaaSpOf
namespace Go.Proofs.Ytahhihhfjimppaa.S
set_option linter.unusedSimpArgs false
set_option linter.unusedVariables false

/-- b behind a, in a list -/
def ins : List Nat → Nat → Nat → List Nat
  | [], _, _ => []
  | x :: r, a, b => if x = a then x :: b :: r else x :: ins r a b
theorem mem_ins {e : List Nat} {a b x : Nat} (ha : a ∈ e) : x ∈ ins e a b ↔ x ∈ e ∨ x = b := by
  induction e with
  | nil => simp at ha
  | cons y r ih =>
    unfold ins
    by_cases h : y = a
    · rw [if_pos h]; simp only [List.mem_cons]; constructor
      · rintro (h1 | h1 | h1); exact .inl (.inl h1); exact .inr h1; exact .inl (.inr h1)
      · rintro ((h1 | h1) | h1); exact .inl h1; exact .inr (.inr h1); exact .inr (.inl h1)
    · rw [if_neg h]
      have : a ∈ r := by rcases List.mem_cons.1 ha with h1 | h1; exact absurd h1.symm h; exact h1
      simp only [List.mem_cons, ih this, or_assoc]
theorem ins_head {e : List Nat} {a b : Nat} : (ins e a b).head? = e.head? := by
  cases e with
  | nil => rfl
  | cons y r => unfold ins; split <;> rfl
theorem ins_length {e : List Nat} {a b : Nat} (ha : a ∈ e) : (ins e a b).length = e.length + 1 := by
  induction e with
  | nil => simp at ha
  | cons y r ih =>
    unfold ins
    by_cases h : y = a
    · rw [if_pos h]; simp
    · rw [if_neg h]
      have : a ∈ r := by rcases List.mem_cons.1 ha with h1 | h1; exact absurd h1.symm h; exact h1
      simp [ih this]
theorem ins_nodup {e : List Nat} {a b : Nat} (ha : a ∈ e) (hb : b ∉ e) (hn : e.Nodup) : (ins e a b).Nodup := by
  induction e with
  | nil => simp at ha
  | cons y r ih =>
    unfold ins
    have hn' := List.nodup_cons.1 hn
    simp only [List.mem_cons, not_or] at hb
    by_cases h : y = a
    · rw [if_pos h]
      refine List.nodup_cons.2 ⟨?_, List.nodup_cons.2 ⟨hb.2, hn'.2⟩⟩
      simp only [List.mem_cons, not_or]
      exact ⟨fun h => hb.1 h.symm, hn'.1⟩
    · rw [if_neg h]
      have har : a ∈ r := by rcases List.mem_cons.1 ha with h1 | h1; exact absurd h1.symm h; exact h1
      refine List.nodup_cons.2 ⟨?_, ih har hb.2 hn'.2⟩
      rw [mem_ins har]
      rintro (h1 | h1)
      · exact hn'.1 h1
      · exact hb.1 h1.symm
theorem idx_lt {e : List Nat} {x : Nat} (h : x ∈ e) : e.idxOf x < e.length := List.idxOf_lt_length_iff.2 h
theorem idx_ins_old {e : List Nat} {a b x : Nat} (ha : a ∈ e) (hb : b ∉ e) (hx : x ∈ e) : (ins e a b).idxOf x = if e.idxOf x ≤ e.idxOf a then e.idxOf x else e.idxOf x + 1 := by
  induction e with
  | nil => simp at ha
  | cons y r ih =>
    simp only [List.mem_cons, not_or] at hb
    unfold ins
    by_cases h : y = a
    · subst h
      rw [if_pos rfl]
      by_cases hxy : x = y
      · subst hxy; simp [List.idxOf_cons]
      · have e1 : (y == x) = false := by simp; exact fun h => hxy h.symm
        have e2 : (b == x) = false := by simp; rintro rfl; rcases List.mem_cons.1 hx with h | h; exact hxy h; exact hb.2 h
        simp [List.idxOf_cons, e1, e2]
    · rw [if_neg h]
      have har : a ∈ r := by rcases List.mem_cons.1 ha with h1 | h1; exact absurd h1.symm h; exact h1
      have e1 : (y == a) = false := by simpa using h
      by_cases hxy : x = y
      · subst hxy; simp [List.idxOf_cons]
      · have hxr : x ∈ r := by rcases List.mem_cons.1 hx with h1 | h1; exact absurd h1 hxy; exact h1
        have e2 : (y == x) = false := by simp; exact fun h => hxy h.symm
        simp only [List.idxOf_cons, e1, e2, ih har hb.2 hxr, cond_false]
        split <;> split <;> omega
theorem idx_ins_new {e : List Nat} {a b : Nat} (ha : a ∈ e) (hb : b ∉ e) : (ins e a b).idxOf b = e.idxOf a + 1 := by
  induction e with
  | nil => simp at ha
  | cons y r ih =>
    simp only [List.mem_cons, not_or] at hb
    unfold ins
    have e3 : (y == b) = false := by simp; exact fun h => hb.1 h.symm
    by_cases h : y = a
    · subst h
      rw [if_pos rfl]
      simp [List.idxOf_cons, e3]
    · rw [if_neg h]
      have har : a ∈ r := by rcases List.mem_cons.1 ha with h1 | h1; exact absurd h1.symm h; exact h1
      have e1 : (y == a) = false := by simpa using h
      simp only [List.idxOf_cons, e1, e3, ih har hb.2, cond_false]
theorem idx_inj {e : List Nat} {x y : Nat} (hx : x ∈ e) (h : e.idxOf x = e.idxOf y) : x = y := by
  have h1 := idx_lt hx
  have a1 : e[e.idxOf x]? = some x := by rw [List.getElem?_eq_getElem h1, List.getElem_idxOf]
  have a2 : e[e.idxOf y]? = some y := by rw [List.getElem?_eq_getElem (h ▸ h1), List.getElem_idxOf]
  rw [h, a2] at a1
  injection a1 with a1
  exact a1.symm

/-- the chain runs through the list -/
def Links (L : List Nat) : List Nat → Prop
  | [] => True
  | x :: r => x < L.length ∧ (∀ y, r.head? = some y → L.getD x 0 = y) ∧ (r = [] → L.getD x 0 = 0) ∧ Links L r
theorem ext_getD {L : List Nat} {b x : Nat} (hx : x < L.length) : (ext L b).getD x 0 = L.getD x 0 := by
  simp [ext, List.getD_eq_getElem?_getD, List.getElem?_append_left hx]
theorem put1_getD {L : List Nat} {a b x : Nat} (ha : a < L.length) (hx : x < L.length ∨ x = b) (hab : a ≠ b) : (put1 L a b).getD x 0 = if x = a then b else if x = b then L.getD a 0 else L.getD x 0 := by
  unfold put1
  have hl := ext_length L b
  rw [List.getD_eq_getElem?_getD, List.getElem?_set]
  by_cases h1 : a = x
  · rw [if_pos h1, if_pos (by rw [List.length_set]; omega), if_pos h1.symm]; rfl
  · rw [if_neg h1, if_neg (Ne.symm h1), List.getElem?_set]
    by_cases h2 : b = x
    · rw [if_pos h2, if_pos (by omega), if_pos h2.symm, ext_getD ha]; rfl
    · rw [if_neg h2, if_neg (Ne.symm h2), ← List.getD_eq_getElem?_getD, ext_getD (by omega)]
theorem links_lt {L e : List Nat} (h : Links L e) : ∀ x ∈ e, x < L.length := by
  induction e with
  | nil => simp
  | cons y r ih =>
    intro x hx
    rcases List.mem_cons.1 hx with rfl | hx
    · exact h.1
    · exact ih h.2.2.2 x hx
theorem links_keep {L e : List Nat} {a b : Nat} (h : Links L e) (ha : a < L.length) (hae : a ∉ e) (hbe : b ∉ e) (hab : a ≠ b) : Links (put1 L a b) e := by
  induction e with
  | nil => trivial
  | cons y r ih =>
    simp only [List.mem_cons, not_or] at hae hbe
    have hg : (put1 L a b).getD y 0 = L.getD y 0 := by rw [put1_getD ha (.inl h.1) hab, if_neg (fun h => hae.1 h.symm), if_neg (fun h => hbe.1 h.symm)]
    have h1 := h.1
    refine ⟨by rw [put1_length]; omega, fun z hz => by rw [hg]; exact h.2.1 z hz, fun hr => by rw [hg]; exact h.2.2.1 hr, ih h.2.2.2 hae.2 hbe.2⟩
theorem links_ins {L e : List Nat} {a b : Nat} (h : Links L e) (ha : a ∈ e) (hb : b ∉ e) (hn : e.Nodup) : Links (put1 L a b) (ins e a b) := by
  have hal := links_lt h a ha
  have hab : a ≠ b := fun h => hb (h ▸ ha)
  induction e with
  | nil => trivial
  | cons y r ih =>
    have hn' := List.nodup_cons.1 hn
    simp only [List.mem_cons, not_or] at hb
    unfold ins
    by_cases hy : y = a
    · subst hy
      rw [if_pos rfl]
      have g1 : (put1 L y b).getD y 0 = b := by rw [put1_getD hal (.inl hal) hab, if_pos rfl]
      have g2 : (put1 L y b).getD b 0 = L.getD y 0 := by rw [put1_getD hal (.inr rfl) hab, if_neg (Ne.symm hab), if_pos rfl]
      refine ⟨by rw [put1_length]; omega, fun z hz => ?_, (fun hr => by cases hr), by rw [put1_length]; omega, fun z hz => ?_, fun hr => ?_, links_keep h.2.2.2 hal hn'.1 hb.2 hab⟩
      · simp only [List.head?_cons, Option.some.injEq] at hz; rw [g1, hz]
      · rw [g2]; exact h.2.1 z hz
      · rw [g2]; exact h.2.2.1 hr
    · rw [if_neg hy]
      have har : a ∈ r := by rcases List.mem_cons.1 ha with h1 | h1; exact absurd h1.symm hy; exact h1
      have hg : (put1 L a b).getD y 0 = L.getD y 0 := by rw [put1_getD hal (.inl h.1) hab, if_neg hy, if_neg (fun h => hb.1 h.symm)]
      have h1 := h.1
      refine ⟨by rw [put1_length]; omega, fun z hz => ?_, fun hr => ?_, ih h.2.2.2 har hb.2 hn'.2⟩
      · rw [ins_head] at hz; rw [hg]; exact h.2.1 z hz
      · have := ins_length (b := b) har; rw [hr] at this; simp at this

theorem placesFrom_at {L : List Nat} : ∀ (e : List Nat) (k : Nat) (at_ : Nat) (P : List Nat), Links L e → e.Nodup → e.head? = some at_ → (∀ x ∈ e, x < P.length) → ∀ x, (placesFrom L e.length k at_ P).getD x 0 = if x ∈ e then k + e.idxOf x else P.getD x 0 := by
  intro e
  induction e with
  | nil => intro k at_ P _ _ h; simp at h
  | cons y r ih =>
    intro k at_ P hl hn hh hP x
    simp only [List.head?_cons, Option.some.injEq] at hh
    subst hh
    have hn' := List.nodup_cons.1 hn
    have hyP := hP y (by simp)
    rw [List.length_cons, placesFrom]
    have hset : ∀ x, (P.set y k).getD x 0 = if x = y then k else P.getD x 0 := by
      intro x
      rw [List.getD_eq_getElem?_getD, List.getElem?_set]
      by_cases h : y = x
      · rw [if_pos h, if_pos hyP, if_pos h.symm]; rfl
      · rw [if_neg h, if_neg (Ne.symm h), List.getD_eq_getElem?_getD]
    cases r with
    | nil =>
      simp only [List.length_nil, placesFrom, hset, List.mem_singleton]
      by_cases h : x = y
      · rw [if_pos h, if_pos h]; subst h; simp
      · rw [if_neg h, if_neg h]
    | cons z r =>
      have hz := hl.2.1 z rfl
      rw [hz, ih (k + 1) z (P.set y k) hl.2.2.2 hn'.2 rfl (fun x hx => by rw [List.length_set]; exact hP x (by simp [hx])) x, hset]
      by_cases h : x = y
      · subst h
        rw [if_neg hn'.1, if_pos rfl, if_pos (by simp)]
        simp
      · have e1 : (y == x) = false := by simp; exact fun h' => h h'.symm
        by_cases hx : x ∈ z :: r
        · rw [if_pos hx, if_pos (List.mem_cons_of_mem _ hx), show List.idxOf x (y :: z :: r) = List.idxOf x (z :: r) + 1 by rw [List.idxOf_cons, e1, cond_false]]; omega
        · rw [if_neg hx, if_neg h, if_neg (by rw [List.mem_cons, not_or]; exact ⟨h, hx⟩)]

/-- the chain's list -/
structure Half (L e : List Nat) : Prop where
  links : Links L e
  nodup : e.Nodup
  head : e.head? = some 0
theorem Half.put {L e : List Nat} (h : Half L e) {a b : Nat} (ha : a ∈ e) (hb : b ∉ e) : Half (put1 L a b) (ins e a b) :=
  ⟨links_ins h.links ha hb h.nodup, ins_nodup ha hb h.nodup, ins_head.trans h.head⟩
theorem Half.place {L e : List Nat} (h : Half L e) (hl : e.length = L.length) {x : Nat} (hx : x ∈ e) : (places L).getD x 0 = e.idxOf x := by
  unfold places
  rw [← hl, placesFrom_at e 0 0 _ h.links h.nodup h.head (fun y hy => by rw [List.length_replicate, hl]; exact links_lt h.links y hy) x, if_pos hx, Nat.zero_add]

/-- the two lists of a state -/
structure Ords (s : State) (e h : List Nat) : Prop where
  ce : Half s.E e
  ch : Half s.H h
  me : ∀ x, x ∈ e ↔ x < s.n
  mh : ∀ x, x ∈ h ↔ x < s.n
  le : e.length = s.n
  lh : h.length = s.n
theorem init_ord : Ords init [0] [0] := by
  have hl : Half [0] [0] := ⟨⟨by simp, by simp, by simp, trivial⟩, by simp, rfl⟩
  exact ⟨hl, hl, by simp [init], by simp [init], rfl, rfl⟩
/-- how the places of a list turn, if k are put behind a -/
def moved (e e' : List Nat) (n a k : Nat) : Prop := ∀ x, x < n → e'.idxOf x = if e.idxOf x ≤ e.idxOf a then e.idxOf x else e.idxOf x + k

theorem ord_fork {s : State} {e h : List Nat} (hg : s.Good) (ho : Ords s e h) (hj : s.last.2 = 0) :
    ∃ e' h', Ords (s.turn 1) e' h' ∧ moved e e' s.n s.last.1 3 ∧ moved h h' s.n s.last.1 3 ∧ e'.idxOf s.n = e.idxOf s.last.1 + 1 ∧ e'.idxOf (s.n + 1) = e.idxOf s.last.1 + 2 ∧ e'.idxOf (s.n + 2) = e.idxOf s.last.1 + 3 ∧
      h'.idxOf (s.n + 1) = h.idxOf s.last.1 + 1 ∧ h'.idxOf s.n = h.idxOf s.last.1 + 2 ∧ h'.idxOf (s.n + 2) = h.idxOf s.last.1 + 3 := by
  have hA := hg.last.1
  have t : s.turn 1 = ⟨put1 (put1 (put1 s.E s.last.1 s.n) s.n (s.n + 1)) (s.n + 1) (s.n + 2), put1 (put1 (put1 s.H s.last.1 (s.n + 1)) (s.n + 1) s.n) s.n (s.n + 2), s.ts.set (s.ts.length - 1) (s.n + 1, s.n + 2) ++ [(s.n, 0)], s.n + 3⟩ := by
    unfold State.turn
    rw [if_pos rfl, if_pos hj]
    rfl
  rw [t]
  generalize s.last.1 = a at *
  generalize hn : s.n = n at *
  have ae := (ho.me a).2 (by omega)
  have ah := (ho.mh a).2 (by omega)
  -- english
  have e1 : n ∉ e := by rw [ho.me]; omega
  have m1 : ∀ x, x ∈ ins e a n ↔ x < n ∨ x = n := fun x => by rw [mem_ins ae, ho.me, hn]
  have E1 := ho.ce.put ae e1
  have e2 : n + 1 ∉ ins e a n := by rw [m1]; omega
  have a2 : n ∈ ins e a n := by rw [m1]; omega
  have m2 : ∀ x, x ∈ ins (ins e a n) n (n + 1) ↔ x < n ∨ x = n ∨ x = n + 1 := fun x => by rw [mem_ins a2, m1]; omega
  have E2 := E1.put a2 e2
  have e3 : n + 2 ∉ ins (ins e a n) n (n + 1) := by rw [m2]; omega
  have a3 : n + 1 ∈ ins (ins e a n) n (n + 1) := by rw [m2]; omega
  have m3 : ∀ x, x ∈ ins (ins (ins e a n) n (n + 1)) (n + 1) (n + 2) ↔ x < n + 3 := fun x => by rw [mem_ins a3, m2]; omega
  have E3 := E2.put a3 e3
  -- hebrew
  have h1 : n + 1 ∉ h := by rw [ho.mh]; omega
  have k1 : ∀ x, x ∈ ins h a (n + 1) ↔ x < n ∨ x = n + 1 := fun x => by rw [mem_ins ah, ho.mh, hn]
  have H1 := ho.ch.put ah h1
  have h2 : n ∉ ins h a (n + 1) := by rw [k1]; omega
  have b2 : n + 1 ∈ ins h a (n + 1) := by rw [k1]; omega
  have k2 : ∀ x, x ∈ ins (ins h a (n + 1)) (n + 1) n ↔ x < n ∨ x = n ∨ x = n + 1 := fun x => by rw [mem_ins b2, k1]; omega
  have H2 := H1.put b2 h2
  have h3 : n + 2 ∉ ins (ins h a (n + 1)) (n + 1) n := by rw [k2]; omega
  have b3 : n ∈ ins (ins h a (n + 1)) (n + 1) n := by rw [k2]; omega
  have k3 : ∀ x, x ∈ ins (ins (ins h a (n + 1)) (n + 1) n) n (n + 2) ↔ x < n + 3 := fun x => by rw [mem_ins b3, k2]; omega
  have H3 := H2.put b3 h3
  refine ⟨_, _, ⟨E3, H3, m3, k3, ?_, ?_⟩, ?_, ?_, ?_, ?_, ?_, ?_, ?_, ?_⟩
  · rw [ins_length a3, ins_length a2, ins_length ae, ho.le]; simp; omega
  · rw [ins_length b3, ins_length b2, ins_length ah, ho.lh]; simp; omega
  · intro x hx
    have p := idx_ins_new ae e1
    have p2 := idx_ins_new a2 e2
    have r1 := idx_ins_old (b := n) ae e1 ((ho.me x).2 (by omega))
    have r2 := idx_ins_old (x := x) a2 e2 (by rw [m1]; omega)
    have r3 := idx_ins_old (x := x) a3 e3 (by rw [m2]; omega)
    rw [r3, r2, r1, p2, p]
    split <;> split <;> split <;> omega
  · intro x hx
    have p := idx_ins_new ah h1
    have p2 := idx_ins_new b2 h2
    have r1 := idx_ins_old (b := n + 1) ah h1 ((ho.mh x).2 (by omega))
    have r2 := idx_ins_old (x := x) b2 h2 (by rw [k1]; omega)
    have r3 := idx_ins_old (x := x) b3 h3 (by rw [k2]; omega)
    rw [r3, r2, r1, p2, p]
    split <;> split <;> split <;> omega
  · rw [idx_ins_old a3 e3 (by rw [m2]; omega), idx_ins_old a2 e2 a2, idx_ins_new a2 e2, idx_ins_new ae e1]
    split <;> split <;> omega
  · rw [idx_ins_old a3 e3 a3, idx_ins_new a2 e2, idx_ins_new ae e1]
    split <;> omega
  · rw [idx_ins_new a3 e3, idx_ins_new a2 e2, idx_ins_new ae e1]
  · rw [idx_ins_old b3 h3 (by rw [k2]; omega), idx_ins_old b2 h2 b2, idx_ins_new b2 h2, idx_ins_new ah h1]
    split <;> split <;> omega
  · rw [idx_ins_old b3 h3 b3, idx_ins_new b2 h2, idx_ins_new ah h1]
    split <;> omega
  · rw [idx_ins_new b3 h3, idx_ins_new b2 h2, idx_ins_new ah h1]

theorem ord_more {s : State} {e h : List Nat} (hg : s.Good) (ho : Ords s e h) (hj : s.last.2 ≠ 0) :
    ∃ e' h', Ords (s.turn 1) e' h' ∧ moved e e' s.n s.last.1 2 ∧ moved h h' s.n s.last.1 2 ∧ e'.idxOf s.n = e.idxOf s.last.1 + 1 ∧ e'.idxOf (s.n + 1) = e.idxOf s.last.1 + 2 ∧
      h'.idxOf (s.n + 1) = h.idxOf s.last.1 + 1 ∧ h'.idxOf s.n = h.idxOf s.last.1 + 2 := by
  have hA := hg.last.1
  have t : s.turn 1 = ⟨put1 (put1 s.E s.last.1 s.n) s.n (s.n + 1), put1 (put1 s.H s.last.1 (s.n + 1)) (s.n + 1) s.n, s.ts.set (s.ts.length - 1) (s.n + 1, s.last.2) ++ [(s.n, 0)], s.n + 2⟩ := by
    unfold State.turn
    rw [if_pos rfl, if_neg hj]
    rfl
  rw [t]
  generalize s.last.1 = a at *
  generalize hn : s.n = n at *
  have ae := (ho.me a).2 (by omega)
  have ah := (ho.mh a).2 (by omega)
  have e1 : n ∉ e := by rw [ho.me]; omega
  have m1 : ∀ x, x ∈ ins e a n ↔ x < n ∨ x = n := fun x => by rw [mem_ins ae, ho.me, hn]
  have E1 := ho.ce.put ae e1
  have e2 : n + 1 ∉ ins e a n := by rw [m1]; omega
  have a2 : n ∈ ins e a n := by rw [m1]; omega
  have m2 : ∀ x, x ∈ ins (ins e a n) n (n + 1) ↔ x < n + 2 := fun x => by rw [mem_ins a2, m1]; omega
  have E2 := E1.put a2 e2
  have h1 : n + 1 ∉ h := by rw [ho.mh]; omega
  have k1 : ∀ x, x ∈ ins h a (n + 1) ↔ x < n ∨ x = n + 1 := fun x => by rw [mem_ins ah, ho.mh, hn]
  have H1 := ho.ch.put ah h1
  have h2 : n ∉ ins h a (n + 1) := by rw [k1]; omega
  have b2 : n + 1 ∈ ins h a (n + 1) := by rw [k1]; omega
  have k2 : ∀ x, x ∈ ins (ins h a (n + 1)) (n + 1) n ↔ x < n + 2 := fun x => by rw [mem_ins b2, k1]; omega
  have H2 := H1.put b2 h2
  refine ⟨_, _, ⟨E2, H2, m2, k2, ?_, ?_⟩, ?_, ?_, ?_, ?_, ?_, ?_⟩
  · rw [ins_length a2, ins_length ae, ho.le]; simp; omega
  · rw [ins_length b2, ins_length ah, ho.lh]; simp; omega
  · intro x hx
    rw [idx_ins_old a2 e2 (by rw [m1]; omega), idx_ins_old ae e1 ((ho.me x).2 (by omega)), idx_ins_new ae e1]
    split <;> split <;> omega
  · intro x hx
    rw [idx_ins_old b2 h2 (by rw [k1]; omega), idx_ins_old ah h1 ((ho.mh x).2 (by omega)), idx_ins_new ah h1]
    split <;> split <;> omega
  · rw [idx_ins_old a2 e2 a2, idx_ins_new ae e1]
    split <;> omega
  · rw [idx_ins_new a2 e2, idx_ins_new ae e1]
  · rw [idx_ins_old b2 h2 b2, idx_ins_new ah h1]
    split <;> omega
  · rw [idx_ins_new b2 h2, idx_ins_new ah h1]
theorem ord_else {s : State} {e h : List Nat} (ho : Ords s e h) {k : Int} (hk : k ≠ 1) : Ords (s.turn k) e h ∧ (s.turn k).n = s.n := by
  unfold State.turn
  rw [if_neg hk]
  split
  · exact ⟨⟨ho.ce, ho.ch, ho.me, ho.mh, ho.le, ho.lh⟩, rfl⟩
  · exact ⟨⟨ho.ce, ho.ch, ho.me, ho.mh, ho.le, ho.lh⟩, rfl⟩
theorem Ords.places {s : State} {e h : List Nat} (hg : s.Good) (ho : Ords s e h) {x : Nat} (hx : x < s.n) : s.places.getD x (0, 0) = (e.idxOf x, h.idxOf x) := by
  have h1 := ho.ce.place (by rw [ho.le, hg.e]) ((ho.me x).2 hx)
  have h2 := ho.ch.place (by rw [ho.lh, hg.h]) ((ho.mh x).2 hx)
  unfold State.places
  have l1 : x < (S.places s.E).length := by rw [places_length, hg.e]; exact hx
  have l2 : x < (S.places s.H).length := by rw [places_length, hg.h]; exact hx
  rw [List.getD_eq_getElem?_getD, List.getElem?_eq_getElem l1, Option.getD_some] at h1
  rw [List.getD_eq_getElem?_getD, List.getElem?_eq_getElem l2, Option.getD_some] at h2
  rw [List.getD_eq_getElem?_getD, List.getElem?_eq_getElem (by rw [List.length_zip]; omega), Option.getD_some, List.getElem_zip, h1, h2]
end Go.Proofs.Ytahhihhfjimppaa.S
