/- The plain side of layer 12: a strand is ahead just of those to which it leads -/
import Derived.Test.YtahhihhfjimppaaSpSer
namespace Go.Proofs.Ytahhihhfjimppaa.S
set_option linter.unusedSimpArgs false
set_option linter.unusedVariables false

/-- a step of strands, by splits that were -/
def edge (l : List Five) (u v : Nat) : Prop := ∃ f ∈ l, f.2.1 = (u : Int) ∧ ((f.1 = 1 ∧ (f.2.2.1 = (v : Int) ∨ f.2.2.2.1 = (v : Int))) ∨ (f.1 ≠ 1 ∧ f.2.2.2.2 = (v : Int)))
/-- a step that is to come -/
def virt : List (Nat × Nat) → Nat → Nat → Prop
  | [], _, _ => False
  | t :: r, u, v => (t.2 ≠ 0 ∧ u = t.1 ∧ v = t.2) ∨ (∃ p r', r = p :: r' ∧ v = p.2 ∧ u = if t.2 = 0 then t.1 else t.2) ∨ virt r u v
def begun (l : List Five) (a : Nat) : Prop := a = 0 ∨ ∃ f ∈ l, (f.1 = 1 ∧ (f.2.2.1 = (a : Int) ∨ f.2.2.2.1 = (a : Int))) ∨ (f.1 = 3 ∧ f.2.2.2.2 = (a : Int))
def EV (l : List Five) (k : List (Nat × Nat)) (u v : Nat) : Prop := edge l u v ∨ virt k u v
/-- joins that are to come: those of all tasks but the one that runs; no two the same -/
def Pend : List (Nat × Nat) → Prop
  | [] => True
  | t :: r => (∀ u ∈ r, u.2 ≠ t.2) ∧ (∀ u ∈ r, u.2 ≠ 0) ∧ Pend r
def ahd (e h : List Nat) (x y : Nat) : Prop := e.idxOf x < e.idxOf y ∧ h.idxOf x < h.idxOf y

structure LInv (l : List Five) (s : State) (e h : List Nat) : Prop where
  good : s.Good
  ord : Ords s e h
  stk : Stk e s.stk
  pend : Pend s.stk
  sound : ∀ u v, EV l s.stk u v → u < s.n ∧ v < s.n ∧ ahd e h u v
  all : ∀ x y, x < s.n → y < s.n → ahd e h x y → ∃ u, EV l s.stk u y ∧ (x = u ∨ ahd e h x u)
  strands : ∀ t ∈ s.stk, begun l t.1
  srcs : ∀ u v, edge l u v → begun l u
  joins : ∀ t ∈ s.stk, t.2 ≠ 0 → ¬ begun l t.2
  out : ∀ t ∈ s.stk, ∀ v, ¬ edge l t.1 v ∧ (t.2 ≠ 0 → ¬ edge l t.2 v)
  rng : ∀ f ∈ l, (0 ≤ f.2.1 ∧ f.2.1 < s.n) ∧ (0 ≤ f.2.2.1 ∧ f.2.2.1 < s.n) ∧ (0 ≤ f.2.2.2.1 ∧ f.2.2.2.1 < s.n) ∧ (0 ≤ f.2.2.2.2 ∧ f.2.2.2.2 < s.n)

theorem init_linv : LInv [] init [0] [0] := by
  have hs : init.stk = [(0, 0)] := rfl
  refine ⟨init_good, init_ord, by rw [hs]; simp [Stk], by rw [hs]; simp [Pend], ?_, ?_, ?_, ?_, ?_, ?_, ?_⟩
  · intro u v h
    rw [hs] at h
    rcases h with ⟨f, hf, _⟩ | h
    · simp at hf
    · simp [virt] at h
  · intro x y hx hy hxy
    have h1 : init.n = 1 := rfl
    obtain rfl : x = 0 := by omega
    obtain rfl : y = 0 := by omega
    simp [ahd] at hxy
  · intro t ht; rw [hs] at ht; rw [List.mem_singleton.1 ht]; exact .inl rfl
  · rintro u v ⟨f, hf, _⟩; simp at hf
  · intro t ht h0; rw [hs] at ht; rw [List.mem_singleton.1 ht] at h0; exact absurd rfl h0
  · rintro t ht v; exact ⟨fun ⟨f, hf, _⟩ => by simp at hf, fun _ ⟨f, hf, _⟩ => by simp at hf⟩
  · intro f hf; simp at hf

theorem edge_snoc {l : List Five} {f : Five} {u v : Nat} : edge (l ++ [f]) u v ↔ edge l u v ∨ (f.2.1 = (u : Int) ∧ ((f.1 = 1 ∧ (f.2.2.1 = (v : Int) ∨ f.2.2.2.1 = (v : Int))) ∨ (f.1 ≠ 1 ∧ f.2.2.2.2 = (v : Int)))) := by
  unfold edge
  constructor
  · rintro ⟨g, hg, h⟩
    rcases List.mem_append.1 hg with hg | hg
    · exact .inl ⟨g, hg, h⟩
    · rw [List.mem_singleton.1 hg] at h; exact .inr h
  · rintro (⟨g, hg, h⟩ | h)
    · exact ⟨g, by simp [hg], h⟩
    · exact ⟨f, by simp, h⟩
theorem begun_snoc {l : List Five} {f : Five} {a : Nat} : begun (l ++ [f]) a ↔ begun l a ∨ (f.1 = 1 ∧ (f.2.2.1 = (a : Int) ∨ f.2.2.2.1 = (a : Int))) ∨ (f.1 = 3 ∧ f.2.2.2.2 = (a : Int)) := by
  unfold begun
  constructor
  · rintro (h | ⟨g, hg, h⟩)
    · exact .inl (.inl h)
    · rcases List.mem_append.1 hg with hg | hg
      · exact .inl (.inr ⟨g, hg, h⟩)
      · rw [List.mem_singleton.1 hg] at h; exact .inr h
  · rintro ((h | ⟨g, hg, h⟩) | h)
    · exact .inl h
    · exact .inr ⟨g, by simp [hg], h⟩
    · exact .inr ⟨f, by simp, h⟩
theorem begun_lt {l : List Five} {s : State} {e h : List Nat} (I : LInv l s e h) {a : Nat} (hb : begun l a) : a < s.n := by
  have hp := I.good.last.1
  rcases hb with h | ⟨f, hf, h⟩
  · omega
  · have := I.rng f hf
    omega
/-- in the stack below the one that runs, all stand behind its strand -/
theorem stk_behind {e : List Nat} : ∀ {r : List (Nat × Nat)} {t : Nat × Nat}, Stk e (t :: r) → Pend (t :: r) → ∀ u ∈ r, e.idxOf t.1 < e.idxOf u.1 ∧ e.idxOf t.1 < e.idxOf u.2 ∧ (t.2 ≠ 0 → e.idxOf t.2 < e.idxOf u.1 ∧ e.idxOf t.2 < e.idxOf u.2) := by
  intro r
  induction r with
  | nil => intro t _ _ u hu; simp at hu
  | cons w r ih =>
    intro t hS hP u hu
    have h1 := hS.2.1 w r rfl
    have hw := hP.2.1 w (by simp)
    have h2 := hS.2.2.1 hw
    rcases List.mem_cons.1 hu with rfl | hu
    · exact ⟨h1.1, by omega, fun h0 => by have := h1.2 h0; omega⟩
    · have h3 := ih hS.2.2 hP.2.2 u hu
      exact ⟨by omega, by omega, fun h0 => by have := h1.2 h0; omega⟩
theorem virt_src {r : List (Nat × Nat)} {u v : Nat} (h : virt r u v) : ∃ t ∈ r, (u = t.1 ∨ (t.2 ≠ 0 ∧ u = t.2)) := by
  induction r with
  | nil => exact h.elim
  | cons t r ih =>
    rcases h with ⟨h0, h1, _⟩ | ⟨p, r', hr, hv, hu⟩ | h
    · exact ⟨t, by simp, .inl h1⟩
    · refine ⟨t, by simp, ?_⟩
      by_cases h0 : t.2 = 0
      · rw [if_pos h0] at hu; exact .inl hu
      · rw [if_neg h0] at hu; exact .inr ⟨h0, hu⟩
    · obtain ⟨w, hw, h2⟩ := ih h
      exact ⟨w, by simp [hw], h2⟩
theorem virt_cons0 {t : Nat × Nat} {r : List (Nat × Nat)} {u v : Nat} (h : t.2 = 0) : virt (t :: r) u v ↔ (∃ p r', r = p :: r' ∧ v = p.2 ∧ u = t.1) ∨ virt r u v := by
  rw [virt, if_pos h]
  constructor
  · rintro (h1 | h1)
    · exact absurd h h1.1
    · exact h1
  · exact .inr
theorem virt_consJ {t : Nat × Nat} {r : List (Nat × Nat)} {u v : Nat} (h : t.2 ≠ 0) : virt (t :: r) u v ↔ (u = t.1 ∧ v = t.2) ∨ (∃ p r', r = p :: r' ∧ v = p.2 ∧ u = t.2) ∨ virt r u v := by
  rw [virt, if_neg h]
  constructor
  · rintro (h1 | h1)
    · exact .inl h1.2
    · exact .inr h1
  · rintro (h1 | h1)
    · exact .inl ⟨h, h1⟩
    · exact .inr h1
theorem virt_dst {r : List (Nat × Nat)} {u v : Nat} (hp : Pend r) (h : virt r u v) : ∃ t ∈ r, t.2 ≠ 0 ∧ v = t.2 := by
  induction r with
  | nil => exact h.elim
  | cons t r ih =>
    rcases h with ⟨h0, h1, h2⟩ | ⟨p, r', hr, hv, hu⟩ | h
    · exact ⟨t, by simp, h0, h2⟩
    · exact ⟨p, by rw [hr]; simp, hp.2.1 p (by rw [hr]; simp), hv⟩
    · obtain ⟨w, hw, h2⟩ := ih hp.2.2 h
      exact ⟨w, by simp [hw], h2⟩

theorem ahd_kept {n : Nat} {e e' h h' : List Nat} (k1 : Kept n e e') (k2 : Kept n h h') {x y : Nat} (hx : x < n) (hy : y < n) : ahd e' h' x y ↔ ahd e h x y := by
  unfold ahd
  rw [k1 x y hx hy, k2 x y hx hy]
theorem le_iff {s : State} {e h : List Nat} (o : Ords s e h) {x a : Nat} (hx : x < s.n) : (x = a ∨ ahd e h x a) ↔ (e.idxOf x ≤ e.idxOf a ∧ h.idxOf x ≤ h.idxOf a) := by
  constructor
  · rintro (rfl | h)
    · exact ⟨Nat.le_refl _, Nat.le_refl _⟩
    · exact ⟨Nat.le_of_lt h.1, Nat.le_of_lt h.2⟩
  · rintro ⟨h1, h2⟩
    by_cases he : e.idxOf x = e.idxOf a
    · exact .inl (idx_inj ((o.me x).2 hx) he)
    · by_cases hh : h.idxOf x = h.idxOf a
      · exact .inl (idx_inj ((o.mh x).2 hx) hh)
      · exact .inr ⟨by omega, by omega⟩

theorem linv_fork {l : List Five} {s : State} {e h : List Nat} (I : LInv l s e h) {t : Nat × Nat} {r : List (Nat × Nat)} (hs : s.stk = t :: r) (hj : t.2 = 0) (hk : s.ok (1, (t.1 : Int), (s.n : Int), (s.n : Int) + 1, (s.n : Int) + 2)) :
    ∃ e' h', LInv (l ++ [(1, (t.1 : Int), (s.n : Int), (s.n : Int) + 1, (s.n : Int) + 2)]) (s.turn 1) e' h' := by
  obtain ⟨hlast, _⟩ := stk_last hs
  have hstk := turn_stk hs 1
  have hn := turn_n1 hs 1
  rw [if_pos rfl, if_pos hj] at hstk hn
  obtain ⟨e', h', o', m1, m2, p1, p2, p3, q1, q2, q3⟩ := ord_fork I.good I.ord (by rw [hlast]; exact hj)
  rw [hlast] at m1 m2 p1 p2 p3 q1 q2 q3
  have K1 := moved_kept m1
  have K2 := moved_kept m2
  have hmem := stk_mem I.good
  have hS := I.stk
  have hP := I.pend
  rw [hs] at hmem hS hP
  have hA : t.1 < s.n := (hmem t (by simp)).1
  have mA := m1 t.1 hA
  have nA := m2 t.1 hA
  rw [if_pos (Nat.le_refl _)] at mA nA
  have hbeh := stk_behind hS hP
  have hsound := I.sound
  have hall := I.all
  have hout := I.out
  have hjo := I.joins
  have hst := I.strands
  rw [hs] at hsound hall hout hjo hst
  have hev : ∀ u v, EV l (t :: r) u v ↔ edge l u v ∨ (∃ p r', r = p :: r' ∧ v = p.2 ∧ u = t.1) ∨ virt r u v := by
    intro u v
    unfold EV
    rw [virt_cons0 hj]
  have hev' : ∀ u v, EV (l ++ [(1, (t.1 : Int), (s.n : Int), (s.n : Int) + 1, (s.n : Int) + 2)]) ((s.n, 0) :: (s.n + 1, s.n + 2) :: r) u v ↔
      (edge l u v ∨ (u = t.1 ∧ (v = s.n ∨ v = s.n + 1))) ∨ (u = s.n ∧ v = s.n + 2) ∨ (u = s.n + 1 ∧ v = s.n + 2) ∨ (∃ p r', r = p :: r' ∧ v = p.2 ∧ u = s.n + 2) ∨ virt r u v := by
    intro u v
    unfold EV
    rw [edge_snoc, virt_cons0 rfl, virt_consJ (by simp)]
    constructor
    · rintro ((h | ⟨h1, ⟨_, h2⟩ | ⟨h2, _⟩⟩) | ⟨p, r', h3, h1, h2⟩ | ⟨h1, h2⟩ | h)
      · exact .inl (.inl h)
      · simp only at h1 h2; exact .inl (.inr ⟨by omega, by omega⟩)
      · exact absurd rfl h2
      · injection h3 with h3 h4; subst h3; exact .inr (.inl ⟨h2, h1⟩)
      · exact .inr (.inr (.inl ⟨h1, h2⟩))
      · exact .inr (.inr (.inr h))
    · rintro ((h | ⟨h1, h2⟩) | ⟨h1, h2⟩ | ⟨h1, h2⟩ | h)
      · exact .inl (.inl h)
      · exact .inl (.inr ⟨by simp only; omega, .inl ⟨rfl, by simp only; omega⟩⟩)
      · exact .inr (.inl ⟨_, _, rfl, h2, h1⟩)
      · exact .inr (.inr (.inl ⟨h1, h2⟩))
      · exact .inr (.inr (.inr h))
  have hnot : ∀ v, ¬ edge l t.1 v ∧ ¬ virt r t.1 v := by
    intro v
    refine ⟨(hout t (by simp) v).1, fun hv => ?_⟩
    obtain ⟨w, hw, h1⟩ := virt_src hv
    have h2 := hbeh w hw
    rcases h1 with h1 | ⟨_, h1⟩
    · rw [← h1] at h2; omega
    · rw [← h1] at h2; omega
  refine ⟨e', h', ⟨I.good.turn hk, o', ?_, ?_, ?_, ?_, ?_, ?_, ?_, ?_, ?_⟩⟩
  · rw [hstk]
    refine ⟨fun h => absurd rfl h, fun u r' hr => ?_, fun _ => ?_, fun u r' hr => ?_, Stk.kept K1 (fun u hu => hmem u (by simp [hu])) hS.2.2⟩
    · injection hr with hr; subst hr; exact ⟨by show e'.idxOf s.n < e'.idxOf (s.n + 1); omega, fun h => absurd rfl h⟩
    · show e'.idxOf (s.n + 1) < e'.idxOf (s.n + 2); omega
    · have hu := hmem u (by rw [hr]; simp)
      have z1 := (hS.2.1 u r' hr).1
      have z2 := m1 u.1 hu.1
      rw [if_neg (by omega)] at z2
      exact ⟨by show e'.idxOf (s.n + 1) < _; omega, fun _ => by show e'.idxOf (s.n + 2) < _; omega⟩
  · rw [hstk]
    refine ⟨fun u hu => ?_, fun u hu => ?_, fun u hu => ?_, fun u hu => hP.2.1 u hu, hP.2.2⟩
    · rcases List.mem_cons.1 hu with rfl | hu
      · simp
      · exact hP.2.1 u hu
    · rcases List.mem_cons.1 hu with rfl | hu
      · simp
      · exact hP.2.1 u hu
    · have := (hmem u (by simp [hu])).2
      show u.2 ≠ s.n + 2
      omega
  · intro u v hu
    rw [hstk, hev'] at hu
    rw [hn]
    rcases hu with (hu | ⟨rfl, hu⟩) | ⟨rfl, rfl⟩ | ⟨rfl, rfl⟩ | ⟨p, r', hr, rfl, rfl⟩ | hu
    · have := hsound u v (.inl hu)
      exact ⟨by omega, by omega, (ahd_kept K1 K2 this.1 this.2.1).2 this.2.2⟩
    · refine ⟨by omega, by omega, ?_⟩
      unfold ahd
      rcases hu with rfl | rfl <;> omega
    · exact ⟨by omega, by omega, by unfold ahd; omega⟩
    · exact ⟨by omega, by omega, by unfold ahd; omega⟩
    · have z := hsound t.1 p.2 ((hev _ _).2 (.inr (.inl ⟨p, r', hr, rfl, rfl⟩)))
      have z1 := m1 p.2 z.2.1
      have z2 := m2 p.2 z.2.1
      have z3 := z.2.2.1
      have z4 := z.2.2.2
      rw [if_neg (by omega)] at z1 z2
      exact ⟨by omega, by omega, by unfold ahd; omega⟩
    · have := hsound u v ((hev _ _).2 (.inr (.inr hu)))
      exact ⟨by omega, by omega, (ahd_kept K1 K2 this.1 this.2.1).2 this.2.2⟩
  · intro x y hx hy hxy
    rw [hn] at hx hy
    rw [hstk]
    by_cases hyn : y < s.n
    · by_cases hxn : x < s.n
      · obtain ⟨u, hu, hxu⟩ := hall x y hxn hyn ((ahd_kept K1 K2 hxn hyn).1 hxy)
        have hul := (hsound u y hu).1
        have hxu' : x = u ∨ ahd e' h' x u := hxu.imp id (fun z => (ahd_kept K1 K2 hxn hul).2 z)
        rcases (hev _ _).1 hu with hu | ⟨p, r', hr, rfl, rfl⟩ | hu
        · exact ⟨u, (hev' _ _).2 (.inl (.inl hu)), hxu'⟩
        · refine ⟨s.n + 2, (hev' _ _).2 (.inr (.inr (.inr (.inl ⟨p, r', hr, rfl, rfl⟩)))), .inr ?_⟩
          have z := (le_iff I.ord hxn).1 hxu
          have z1 := m1 x hxn
          have z2 := m2 x hxn
          rw [if_pos z.1] at z1
          rw [if_pos z.2] at z2
          unfold ahd
          omega
        · exact ⟨u, (hev' _ _).2 (.inr (.inr (.inr (.inr hu)))), hxu'⟩
      · have hx3 : e.idxOf t.1 + 1 ≤ e'.idxOf x ∧ e'.idxOf x ≤ e.idxOf t.1 + 3 ∧ h.idxOf t.1 + 1 ≤ h'.idxOf x ∧ h'.idxOf x ≤ h.idxOf t.1 + 3 := by
          obtain rfl | rfl | rfl : x = s.n ∨ x = s.n + 1 ∨ x = s.n + 2 := by omega
          all_goals omega
        have hAy : ahd e h t.1 y := by
          have z1 := m1 y hyn
          have z2 := m2 y hyn
          have z3 := hxy.1
          have z4 := hxy.2
          unfold ahd
          constructor
          · by_cases hc : e.idxOf y ≤ e.idxOf t.1
            · rw [if_pos hc] at z1; omega
            · omega
          · by_cases hc : h.idxOf y ≤ h.idxOf t.1
            · rw [if_pos hc] at z2; omega
            · omega
        obtain ⟨u, hu, hAu⟩ := hall t.1 y hA hyn hAy
        have hul := (hsound u y hu).1
        have hlt : t.1 ≠ u → ahd e' h' x u := by
          intro hne
          have z := hAu.resolve_left hne
          have z1 := m1 u hul
          have z2 := m2 u hul
          have z3 := z.1
          have z4 := z.2
          rw [if_neg (by omega)] at z1 z2
          unfold ahd
          omega
        rcases (hev _ _).1 hu with hu | ⟨p, r', hr, rfl, rfl⟩ | hu
        · exact ⟨u, (hev' _ _).2 (.inl (.inl hu)), .inr (hlt (fun hE => (hnot y).1 (hE ▸ hu)))⟩
        · refine ⟨s.n + 2, (hev' _ _).2 (.inr (.inr (.inr (.inl ⟨p, r', hr, rfl, rfl⟩)))), ?_⟩
          obtain rfl | rfl | rfl : x = s.n ∨ x = s.n + 1 ∨ x = s.n + 2 := by omega
          · right; unfold ahd; omega
          · right; unfold ahd; omega
          · left; rfl
        · exact ⟨u, (hev' _ _).2 (.inr (.inr (.inr (.inr hu)))), .inr (hlt (fun hE => (hnot y).2 (hE ▸ hu)))⟩
    · have hxA : x < s.n → e'.idxOf x ≤ e.idxOf t.1 + 2 → h'.idxOf x ≤ h.idxOf t.1 + 2 → x = t.1 ∨ ahd e h x t.1 := by
        intro hxn a1 a2
        refine (le_iff I.ord hxn).2 ?_
        have z1 := m1 x hxn
        have z2 := m2 x hxn
        constructor
        · by_cases hc : e.idxOf x ≤ e.idxOf t.1
          · exact hc
          · rw [if_neg hc] at z1; omega
        · by_cases hc : h.idxOf x ≤ h.idxOf t.1
          · exact hc
          · rw [if_neg hc] at z2; omega
      have z3 := hxy.1
      have z4 := hxy.2
      obtain rfl | rfl | rfl : y = s.n ∨ y = s.n + 1 ∨ y = s.n + 2 := by omega
      · have hxn : x < s.n := by
          by_cases hc : x < s.n
          · exact hc
          · obtain rfl | rfl | rfl : x = s.n ∨ x = s.n + 1 ∨ x = s.n + 2 := by omega
            all_goals omega
        exact ⟨t.1, (hev' _ _).2 (.inl (.inr ⟨rfl, .inl rfl⟩)), (hxA hxn (by omega) (by omega)).imp id (fun z => (ahd_kept K1 K2 hxn hA).2 z)⟩
      · have hxn : x < s.n := by
          by_cases hc : x < s.n
          · exact hc
          · obtain rfl | rfl | rfl : x = s.n ∨ x = s.n + 1 ∨ x = s.n + 2 := by omega
            all_goals omega
        exact ⟨t.1, (hev' _ _).2 (.inl (.inr ⟨rfl, .inr rfl⟩)), (hxA hxn (by omega) (by omega)).imp id (fun z => (ahd_kept K1 K2 hxn hA).2 z)⟩
      · by_cases hxn : x < s.n
        · refine ⟨s.n, (hev' _ _).2 (.inr (.inl ⟨rfl, rfl⟩)), .inr ?_⟩
          have z := (le_iff I.ord hxn).1 (hxA hxn (by omega) (by omega))
          have z1 := m1 x hxn
          have z2 := m2 x hxn
          rw [if_pos z.1] at z1
          rw [if_pos z.2] at z2
          unfold ahd
          omega
        · obtain rfl | rfl | rfl : x = s.n ∨ x = s.n + 1 ∨ x = s.n + 2 := by omega
          · exact ⟨s.n, (hev' _ _).2 (.inr (.inl ⟨rfl, rfl⟩)), .inl rfl⟩
          · exact ⟨s.n + 1, (hev' _ _).2 (.inr (.inr (.inl ⟨rfl, rfl⟩))), .inl rfl⟩
          · omega
  · intro u hu
    rw [hstk] at hu
    rw [begun_snoc]
    rcases List.mem_cons.1 hu with rfl | hu
    · exact .inr (.inl ⟨rfl, .inl rfl⟩)
    · rcases List.mem_cons.1 hu with rfl | hu
      · exact .inr (.inl ⟨rfl, .inr (by show (s.n : Int) + 1 = ((s.n + 1 : Nat) : Int); omega)⟩)
      · exact .inl (hst u (by simp [hu]))
  · intro u v hu
    rw [begun_snoc]
    rcases edge_snoc.1 hu with hu | hu
    · exact .inl (I.srcs u v hu)
    · have : u = t.1 := by have z : (t.1 : Int) = (u : Int) := hu.1; omega
      exact .inl (this ▸ hst t (by simp))
  · intro u hu h0 hb
    rw [hstk] at hu
    rw [begun_snoc] at hb
    have hlt : begun l u.2 → u.2 < s.n := fun hb => begun_lt I hb
    rcases List.mem_cons.1 hu with rfl | hu
    · exact h0 rfl
    · rcases List.mem_cons.1 hu with rfl | hu
      · rcases hb with hb | ⟨_, hb⟩ | ⟨hb, _⟩
        · have z : s.n + 2 < s.n := hlt hb; omega
        · simp only at hb; omega
        · simp at hb
      · have := (hmem u (by simp [hu])).2
        rcases hb with hb | ⟨_, hb⟩ | ⟨hb, _⟩
        · exact hjo u (by simp [hu]) h0 hb
        · simp only at hb; omega
        · simp at hb
  · intro u hu v
    rw [hstk] at hu
    have hlt : ∀ x v, edge l x v → x < s.n := fun x v hx => (hsound x v (.inl hx)).1
    have hcl : ∀ x : Nat, (∀ v, ¬ edge l x v) → x ≠ t.1 → ∀ v, ¬ edge (l ++ [(1, (t.1 : Int), (s.n : Int), (s.n : Int) + 1, (s.n : Int) + 2)]) x v := by
      intro x h1 h2 v h3
      rcases edge_snoc.1 h3 with h3 | h3
      · exact h1 v h3
      · exact h2 (by have z : (t.1 : Int) = (x : Int) := h3.1; omega)
    rcases List.mem_cons.1 hu with rfl | hu
    · exact ⟨hcl _ (fun v hv => by have z : s.n < s.n := hlt _ _ hv; omega) (by show s.n ≠ t.1; omega) v, fun h0 => absurd rfl h0⟩
    · rcases List.mem_cons.1 hu with rfl | hu
      · exact ⟨hcl _ (fun v hv => by have z : s.n + 1 < s.n := hlt _ _ hv; omega) (by show s.n + 1 ≠ t.1; omega) v, fun _ => hcl _ (fun v hv => by have z : s.n + 2 < s.n := hlt _ _ hv; omega) (by show s.n + 2 ≠ t.1; omega) v⟩
      · have hb := hbeh u hu
        refine ⟨hcl _ (fun v => (hout u (by simp [hu]) v).1) (fun hE => ?_) v, fun h0 => hcl _ (fun v => (hout u (by simp [hu]) v).2 h0) (fun hE => ?_) v⟩
        · rw [hE] at hb; omega
        · rw [hE] at hb; omega
  · intro f hf
    rw [hn]
    rcases List.mem_append.1 hf with hf | hf
    · have := I.rng f hf
      omega
    · rw [List.mem_singleton.1 hf]
      simp only
      omega
end Go.Proofs.Ytahhihhfjimppaa.S
