/- Texts for the law BoundSerial, part 4: no statement of its own, lemmas for the proof; their conditions stand in them. -/
import Derived.Test.YtahhihhfjimppaaBoundSerialM3
import Derived.Maps.Own
import Derived.Maps.OwnOps
import Derived.Maps.Views
import Derived.Deep.DeepCutAuto
/- The plain side of layer 12: a strand is ahead just of those to which it leads, the rest -/
namespace Go.Proofs.Ytahhihhfjimppaa.S
set_option linter.unusedSimpArgs false
set_option linter.unusedVariables false

theorem linv_more {l : List Five} {s : State} {e h : List Nat} (I : LInv l s e h) {t : Nat × Nat} {r : List (Nat × Nat)} (hs : s.stk = t :: r) (hj : t.2 ≠ 0) (hk : s.ok (1, (t.1 : Int), (s.n : Int), (s.n : Int) + 1, (t.2 : Int))) :
    ∃ e' h', LInv (l ++ [(1, (t.1 : Int), (s.n : Int), (s.n : Int) + 1, (t.2 : Int))]) (s.turn 1) e' h' := by
  obtain ⟨hlast, _⟩ := stk_last hs
  have hstk := turn_stk hs 1
  have hn := turn_n1 hs 1
  rw [if_pos rfl, if_neg hj] at hstk hn
  obtain ⟨e', h', o', m1, m2, p1, p2, q1, q2⟩ := ord_more I.good I.ord (by rw [hlast]; exact hj)
  rw [hlast] at m1 m2 p1 p2 q1 q2
  have K1 := moved_kept m1
  have K2 := moved_kept m2
  have hmem := stk_mem I.good
  have hS := I.stk
  have hP := I.pend
  rw [hs] at hmem hS hP
  have hA : t.1 < s.n := (hmem t (by simp)).1
  have hJ : t.2 < s.n := (hmem t (by simp)).2
  have mA := m1 t.1 hA
  have nA := m2 t.1 hA
  rw [if_pos (Nat.le_refl _)] at mA nA
  have hbeh := stk_behind hS hP
  have hsound := I.sound
  have hall := I.all
  have hout := I.out
  have hjo := I.joins
  have hst := I.strands
  rw [hs] at hsound hall hout hjo hst
  have hev : ∀ u v, EV l (t :: r) u v ↔ edge l u v ∨ (u = t.1 ∧ v = t.2) ∨ (∃ p r', r = p :: r' ∧ v = p.2 ∧ u = t.2) ∨ virt r u v := by
    intro u v
    unfold EV
    rw [virt_consJ hj]
  have hev' : ∀ u v, EV (l ++ [(1, (t.1 : Int), (s.n : Int), (s.n : Int) + 1, (t.2 : Int))]) ((s.n, 0) :: (s.n + 1, t.2) :: r) u v ↔
      (edge l u v ∨ (u = t.1 ∧ (v = s.n ∨ v = s.n + 1))) ∨ (u = s.n ∧ v = t.2) ∨ (u = s.n + 1 ∧ v = t.2) ∨ (∃ p r', r = p :: r' ∧ v = p.2 ∧ u = t.2) ∨ virt r u v := by
    intro u v
    unfold EV
    rw [edge_snoc, virt_cons0 rfl, virt_consJ (t := (s.n + 1, t.2)) hj]
    constructor
    · rintro ((h | ⟨h1, ⟨_, h2⟩ | ⟨h2, _⟩⟩) | ⟨p, r', h3, h1, h2⟩ | ⟨h1, h2⟩ | h)
      · exact .inl (.inl h)
      · simp only at h1 h2; exact .inl (.inr ⟨by omega, by omega⟩)
      · exact absurd rfl h2
      · injection h3 with h3 h4; subst h3; exact .inr (.inl ⟨h2, h1⟩)
      · exact .inr (.inr (.inl ⟨h1, h2⟩))
      · exact .inr (.inr (.inr h))
    · rintro ((h | ⟨h1, h2⟩) | ⟨h1, h2⟩ | ⟨h1, h2⟩ | h)
      · exact .inl (.inl h)
      · exact .inl (.inr ⟨by simp only; omega, .inl ⟨rfl, by simp only; omega⟩⟩)
      · exact .inr (.inl ⟨_, _, rfl, h2, h1⟩)
      · exact .inr (.inr (.inl ⟨h1, h2⟩))
      · exact .inr (.inr (.inr h))
  have hAJ : ahd e h t.1 t.2 := (hsound t.1 t.2 ((hev _ _).2 (.inr (.inl ⟨rfl, rfl⟩)))).2.2
  have mJ := m1 t.2 hJ
  have nJ := m2 t.2 hJ
  have aj1 := hAJ.1
  have aj2 := hAJ.2
  rw [if_neg (by omega)] at mJ nJ
  have hnot : ∀ v, ¬ edge l t.1 v ∧ ¬ virt r t.1 v := by
    intro v
    refine ⟨(hout t (by simp) v).1, fun hv => ?_⟩
    obtain ⟨w, hw, h1⟩ := virt_src hv
    have h2 := hbeh w hw
    rcases h1 with h1 | ⟨_, h1⟩
    · rw [← h1] at h2; omega
    · rw [← h1] at h2; omega
  refine ⟨e', h', ⟨I.good.turn hk, o', ?_, ?_, ?_, ?_, ?_, ?_, ?_, ?_, ?_⟩⟩
  · rw [hstk]
    refine ⟨fun h => absurd rfl h, fun u r' hr => ?_, fun _ => ?_, fun u r' hr => ?_, Stk.kept K1 (fun u hu => hmem u (by simp [hu])) hS.2.2⟩
    · injection hr with hr; subst hr; exact ⟨by show e'.idxOf s.n < e'.idxOf (s.n + 1); omega, fun h => absurd rfl h⟩
    · show e'.idxOf (s.n + 1) < e'.idxOf t.2; omega
    · have hu := hmem u (by rw [hr]; simp)
      have z1 := (hS.2.1 u r' hr)
      have z3 := z1.2 hj
      have z2 := m1 u.1 hu.1
      rw [if_neg (by omega)] at z2
      exact ⟨by show e'.idxOf (s.n + 1) < _; omega, fun _ => by show e'.idxOf t.2 < _; omega⟩
  · rw [hstk]
    refine ⟨fun u hu => ?_, fun u hu => ?_, hP.1, fun u hu => hP.2.1 u hu, hP.2.2⟩
    · rcases List.mem_cons.1 hu with rfl | hu
      · exact hj
      · exact hP.2.1 u hu
    · rcases List.mem_cons.1 hu with rfl | hu
      · exact hj
      · exact hP.2.1 u hu
  · intro u v hu
    rw [hstk, hev'] at hu
    rw [hn]
    rcases hu with (hu | ⟨rfl, hu⟩) | ⟨rfl, rfl⟩ | ⟨rfl, rfl⟩ | ⟨p, r', hr, rfl, rfl⟩ | hu
    · have := hsound u v (.inl hu)
      exact ⟨by omega, by omega, (ahd_kept K1 K2 this.1 this.2.1).2 this.2.2⟩
    · refine ⟨by omega, by omega, ?_⟩
      unfold ahd
      rcases hu with rfl | rfl <;> omega
    · exact ⟨by omega, by omega, by unfold ahd; omega⟩
    · exact ⟨by omega, by omega, by unfold ahd; omega⟩
    · have z := hsound t.2 p.2 ((hev _ _).2 (.inr (.inr (.inl ⟨p, r', hr, rfl, rfl⟩))))
      exact ⟨by omega, by omega, (ahd_kept K1 K2 z.1 z.2.1).2 z.2.2⟩
    · have := hsound u v ((hev _ _).2 (.inr (.inr (.inr hu))))
      exact ⟨by omega, by omega, (ahd_kept K1 K2 this.1 this.2.1).2 this.2.2⟩
  · intro x y hx hy hxy
    rw [hn] at hx hy
    rw [hstk]
    by_cases hyn : y < s.n
    · by_cases hxn : x < s.n
      · obtain ⟨u, hu, hxu⟩ := hall x y hxn hyn ((ahd_kept K1 K2 hxn hyn).1 hxy)
        have hul := (hsound u y hu).1
        have hxu' : x = u ∨ ahd e' h' x u := hxu.imp id (fun z => (ahd_kept K1 K2 hxn hul).2 z)
        rcases (hev _ _).1 hu with hu | ⟨rfl, rfl⟩ | hu | hu
        · exact ⟨u, (hev' _ _).2 (.inl (.inl hu)), hxu'⟩
        · refine ⟨s.n, (hev' _ _).2 (.inr (.inl ⟨rfl, rfl⟩)), .inr ?_⟩
          have z := (le_iff I.ord hxn).1 hxu
          have z1 := m1 x hxn
          have z2 := m2 x hxn
          rw [if_pos z.1] at z1
          rw [if_pos z.2] at z2
          unfold ahd
          omega
        · exact ⟨u, (hev' _ _).2 (.inr (.inr (.inr (.inl hu)))), hxu'⟩
        · exact ⟨u, (hev' _ _).2 (.inr (.inr (.inr (.inr hu)))), hxu'⟩
      · have hx3 : e.idxOf t.1 + 1 ≤ e'.idxOf x ∧ e'.idxOf x ≤ e.idxOf t.1 + 2 ∧ h.idxOf t.1 + 1 ≤ h'.idxOf x ∧ h'.idxOf x ≤ h.idxOf t.1 + 2 := by
          obtain rfl | rfl : x = s.n ∨ x = s.n + 1 := by omega
          all_goals omega
        have hAy : ahd e h t.1 y := by
          have z1 := m1 y hyn
          have z2 := m2 y hyn
          have z3 := hxy.1
          have z4 := hxy.2
          unfold ahd
          constructor
          · by_cases hc : e.idxOf y ≤ e.idxOf t.1
            · rw [if_pos hc] at z1; omega
            · omega
          · by_cases hc : h.idxOf y ≤ h.idxOf t.1
            · rw [if_pos hc] at z2; omega
            · omega
        obtain ⟨u, hu, hAu⟩ := hall t.1 y hA hyn hAy
        have hul := (hsound u y hu).1
        have hlt : t.1 ≠ u → ahd e' h' x u := by
          intro hne
          have z := hAu.resolve_left hne
          have z1 := m1 u hul
          have z2 := m2 u hul
          have z3 := z.1
          have z4 := z.2
          rw [if_neg (by omega)] at z1 z2
          unfold ahd
          omega
        rcases (hev _ _).1 hu with hu | ⟨rfl, rfl⟩ | ⟨p, r', hr, rfl, rfl⟩ | hu
        · exact ⟨u, (hev' _ _).2 (.inl (.inl hu)), .inr (hlt (fun hE => (hnot y).1 (hE ▸ hu)))⟩
        · obtain rfl | rfl : x = s.n ∨ x = s.n + 1 := by omega
          · exact ⟨s.n, (hev' _ _).2 (.inr (.inl ⟨rfl, rfl⟩)), .inl rfl⟩
          · exact ⟨s.n + 1, (hev' _ _).2 (.inr (.inr (.inl ⟨rfl, rfl⟩))), .inl rfl⟩
        · exact ⟨t.2, (hev' _ _).2 (.inr (.inr (.inr (.inl ⟨p, r', hr, rfl, rfl⟩)))), .inr (hlt (fun hE => by rw [hE] at aj1; omega))⟩
        · exact ⟨u, (hev' _ _).2 (.inr (.inr (.inr (.inr hu)))), .inr (hlt (fun hE => (hnot y).2 (hE ▸ hu)))⟩
    · have hxA : x < s.n → e'.idxOf x ≤ e.idxOf t.1 + 1 → h'.idxOf x ≤ h.idxOf t.1 + 1 → x = t.1 ∨ ahd e h x t.1 := by
        intro hxn a1 a2
        refine (le_iff I.ord hxn).2 ?_
        have z1 := m1 x hxn
        have z2 := m2 x hxn
        constructor
        · by_cases hc : e.idxOf x ≤ e.idxOf t.1
          · exact hc
          · rw [if_neg hc] at z1; omega
        · by_cases hc : h.idxOf x ≤ h.idxOf t.1
          · exact hc
          · rw [if_neg hc] at z2; omega
      have z3 := hxy.1
      have z4 := hxy.2
      obtain rfl | rfl : y = s.n ∨ y = s.n + 1 := by omega
      · have hxn : x < s.n := by
          by_cases hc : x < s.n
          · exact hc
          · obtain rfl | rfl : x = s.n ∨ x = s.n + 1 := by omega
            all_goals omega
        exact ⟨t.1, (hev' _ _).2 (.inl (.inr ⟨rfl, .inl rfl⟩)), (hxA hxn (by omega) (by omega)).imp id (fun z => (ahd_kept K1 K2 hxn hA).2 z)⟩
      · have hxn : x < s.n := by
          by_cases hc : x < s.n
          · exact hc
          · obtain rfl | rfl : x = s.n ∨ x = s.n + 1 := by omega
            all_goals omega
        exact ⟨t.1, (hev' _ _).2 (.inl (.inr ⟨rfl, .inr rfl⟩)), (hxA hxn (by omega) (by omega)).imp id (fun z => (ahd_kept K1 K2 hxn hA).2 z)⟩
  · intro u hu
    rw [hstk] at hu
    rw [begun_snoc]
    rcases List.mem_cons.1 hu with rfl | hu
    · exact .inr (.inl ⟨rfl, .inl rfl⟩)
    · rcases List.mem_cons.1 hu with rfl | hu
      · exact .inr (.inl ⟨rfl, .inr (by show (s.n : Int) + 1 = ((s.n + 1 : Nat) : Int); omega)⟩)
      · exact .inl (hst u (by simp [hu]))
  · intro u v hu
    rw [begun_snoc]
    rcases edge_snoc.1 hu with hu | hu
    · exact .inl (I.srcs u v hu)
    · have : u = t.1 := by have z : (t.1 : Int) = (u : Int) := hu.1; omega
      exact .inl (this ▸ hst t (by simp))
  · intro u hu h0 hb
    rw [hstk] at hu
    rw [begun_snoc] at hb
    rcases List.mem_cons.1 hu with rfl | hu
    · exact h0 rfl
    · rcases List.mem_cons.1 hu with rfl | hu
      · rcases hb with hb | ⟨_, hb⟩ | ⟨hb, _⟩
        · exact hjo t (by simp) hj hb
        · simp only at hb; omega
        · simp at hb
      · have := (hmem u (by simp [hu])).2
        rcases hb with hb | ⟨_, hb⟩ | ⟨hb, _⟩
        · exact hjo u (by simp [hu]) h0 hb
        · simp only at hb; omega
        · simp at hb
  · intro u hu v
    rw [hstk] at hu
    have hlt : ∀ x v, edge l x v → x < s.n := fun x v hx => (hsound x v (.inl hx)).1
    have hcl : ∀ x : Nat, (∀ v, ¬ edge l x v) → x ≠ t.1 → ∀ v, ¬ edge (l ++ [(1, (t.1 : Int), (s.n : Int), (s.n : Int) + 1, (t.2 : Int))]) x v := by
      intro x h1 h2 v h3
      rcases edge_snoc.1 h3 with h3 | h3
      · exact h1 v h3
      · exact h2 (by have z : (t.1 : Int) = (x : Int) := h3.1; omega)
    rcases List.mem_cons.1 hu with rfl | hu
    · exact ⟨hcl _ (fun v hv => by have z : s.n < s.n := hlt _ _ hv; omega) (by show s.n ≠ t.1; omega) v, fun h0 => absurd rfl h0⟩
    · rcases List.mem_cons.1 hu with rfl | hu
      · exact ⟨hcl _ (fun v hv => by have z : s.n + 1 < s.n := hlt _ _ hv; omega) (by show s.n + 1 ≠ t.1; omega) v, fun _ => hcl _ (fun v => (hout t (by simp) v).2 hj) (fun hE => by have hE' : t.2 = t.1 := hE; rw [hE'] at aj1; omega) v⟩
      · have hb := hbeh u hu
        refine ⟨hcl _ (fun v => (hout u (by simp [hu]) v).1) (fun hE => ?_) v, fun h0 => hcl _ (fun v => (hout u (by simp [hu]) v).2 h0) (fun hE => ?_) v⟩
        · rw [hE] at hb; omega
        · rw [hE] at hb; omega
  · intro f hf
    rw [hn]
    rcases List.mem_append.1 hf with hf | hf
    · have := I.rng f hf
      omega
    · rw [List.mem_singleton.1 hf]
      simp only
      omega

theorem linv_end {l : List Five} {s : State} {e h : List Nat} (I : LInv l s e h) {t w : Nat × Nat} {r : List (Nat × Nat)} (hs : s.stk = t :: w :: r) (hj : t.2 = 0) (hk : s.ok (2, (t.1 : Int), 0, 0, (w.2 : Int))) :
    LInv (l ++ [(2, (t.1 : Int), 0, 0, (w.2 : Int))]) (s.turn 2) e h := by
  obtain ⟨hlast, _⟩ := stk_last hs
  have hstk := turn_stk hs 2
  have hn := turn_n1 hs 2
  rw [if_neg (by decide), if_pos rfl] at hstk
  rw [if_neg (by decide)] at hn
  obtain ⟨o', _⟩ := ord_else I.ord (k := 2) (by decide)
  have hmem := stk_mem I.good
  have hS := I.stk
  have hP := I.pend
  rw [hs] at hmem hS hP
  have hA : t.1 < s.n := (hmem t (by simp)).1
  have hbeh := stk_behind hS hP
  have hsound := I.sound
  have hall := I.all
  have hout := I.out
  have hjo := I.joins
  have hst := I.strands
  rw [hs] at hsound hall hout hjo hst
  have hev : ∀ u v, EV (l ++ [(2, (t.1 : Int), 0, 0, (w.2 : Int))]) (w :: r) u v ↔ EV l (t :: w :: r) u v := by
    intro u v
    unfold EV
    rw [edge_snoc, virt_cons0 hj]
    constructor
    · rintro ((h | ⟨h1, ⟨h2, _⟩ | ⟨_, h2⟩⟩) | h)
      · exact .inl h
      · simp at h2
      · simp only at h1 h2; exact .inr (.inl ⟨w, r, rfl, by omega, by omega⟩)
      · exact .inr (.inr h)
    · rintro (h | ⟨p, r', h3, h1, h2⟩ | h)
      · exact .inl (.inl h)
      · injection h3 with h3 h4; subst h3; exact .inl (.inr ⟨by simp only; omega, .inr ⟨by simp, by simp only; omega⟩⟩)
      · exact .inr h
  have hb2 : ∀ a, begun (l ++ [(2, (t.1 : Int), 0, 0, (w.2 : Int))]) a ↔ begun l a := by
    intro a; rw [begun_snoc]; simp
  refine ⟨I.good.turn hk, o', by rw [hstk]; exact hS.2.2, by rw [hstk]; exact hP.2.2, ?_, ?_, ?_, ?_, ?_, ?_, ?_⟩
  · intro u v hu; rw [hstk, hev] at hu; rw [hn]; exact hsound u v hu
  · intro x y hx hy hxy
    rw [hn] at hx hy
    obtain ⟨u, h1, h2⟩ := hall x y hx hy hxy
    exact ⟨u, by rw [hstk, hev]; exact h1, h2⟩
  · intro u hu; rw [hstk] at hu; rw [hb2]; exact hst u (by rcases List.mem_cons.1 hu with rfl | h <;> simp [*])
  · intro u v hu
    rw [hb2]
    rcases edge_snoc.1 hu with hu | hu
    · exact I.srcs u v hu
    · have : u = t.1 := by have z : (t.1 : Int) = (u : Int) := hu.1; omega
      exact this ▸ hst t (by simp)
  · intro u hu h0; rw [hstk] at hu; rw [hb2]; exact hjo u (List.mem_cons_of_mem _ hu) h0
  · intro u hu v
    rw [hstk] at hu
    have hcl : ∀ x : Nat, (∀ v, ¬ edge l x v) → x ≠ t.1 → ∀ v, ¬ edge (l ++ [(2, (t.1 : Int), 0, 0, (w.2 : Int))]) x v := by
      intro x h1 h2 v h3
      rcases edge_snoc.1 h3 with h3 | h3
      · exact h1 v h3
      · exact h2 (by have z : (t.1 : Int) = (x : Int) := h3.1; omega)
    have hb := hbeh u hu
    refine ⟨hcl _ (fun v => (hout u (List.mem_cons_of_mem _ hu) v).1) (fun hE => ?_) v, fun h0 => hcl _ (fun v => (hout u (List.mem_cons_of_mem _ hu) v).2 h0) (fun hE => ?_) v⟩
    · rw [hE] at hb; omega
    · rw [hE] at hb; omega
  · intro f hf
    rw [hn]
    rcases List.mem_append.1 hf with hf | hf
    · exact I.rng f hf
    · rw [List.mem_singleton.1 hf]
      have := (hmem w (by simp)).2
      simp only
      omega

theorem linv_join {l : List Five} {s : State} {e h : List Nat} (I : LInv l s e h) {t : Nat × Nat} {r : List (Nat × Nat)} (hs : s.stk = t :: r) (hj : t.2 ≠ 0) (hk : s.ok (3, (t.1 : Int), 0, 0, (t.2 : Int))) :
    LInv (l ++ [(3, (t.1 : Int), 0, 0, (t.2 : Int))]) (s.turn 3) e h := by
  obtain ⟨hlast, _⟩ := stk_last hs
  have hstk := turn_stk hs 3
  have hn := turn_n1 hs 3
  rw [if_neg (by decide), if_neg (by decide)] at hstk
  rw [if_neg (by decide)] at hn
  obtain ⟨o', _⟩ := ord_else I.ord (k := 3) (by decide)
  have hmem := stk_mem I.good
  have hS := I.stk
  have hP := I.pend
  rw [hs] at hmem hS hP
  have hA := hmem t (by simp)
  have hbeh := stk_behind hS hP
  have hsound := I.sound
  have hall := I.all
  have hout := I.out
  have hjo := I.joins
  have hst := I.strands
  rw [hs] at hsound hall hout hjo hst
  have hev : ∀ u v, EV (l ++ [(3, (t.1 : Int), 0, 0, (t.2 : Int))]) ((t.2, 0) :: r) u v ↔ EV l (t :: r) u v := by
    intro u v
    unfold EV
    rw [edge_snoc, virt_cons0 rfl, virt_consJ hj]
    constructor
    · rintro ((h | ⟨h1, ⟨h2, _⟩ | ⟨_, h2⟩⟩) | h)
      · exact .inl h
      · simp at h2
      · simp only at h1 h2; exact .inr (.inl ⟨by omega, by omega⟩)
      · exact .inr (.inr h)
    · rintro (h | ⟨h1, h2⟩ | h)
      · exact .inl (.inl h)
      · exact .inl (.inr ⟨by simp only; omega, .inr ⟨by simp, by simp only; omega⟩⟩)
      · exact .inr h
  have hb2 : ∀ a, begun (l ++ [(3, (t.1 : Int), 0, 0, (t.2 : Int))]) a ↔ begun l a ∨ a = t.2 := by
    intro a; rw [begun_snoc]
    constructor
    · rintro (h | ⟨h, _⟩ | ⟨_, h⟩)
      · exact .inl h
      · simp at h
      · simp only at h; exact .inr (by omega)
    · rintro (h | h)
      · exact .inl h
      · exact .inr (.inr ⟨rfl, by simp only; omega⟩)
  have hAJ : ahd e h t.1 t.2 := (hsound t.1 t.2 (.inr ((virt_consJ hj).2 (.inl ⟨rfl, rfl⟩)))).2.2
  have aj1 := hAJ.1
  refine ⟨I.good.turn hk, o', ?_, ?_, ?_, ?_, ?_, ?_, ?_, ?_, ?_⟩
  · rw [hstk]
    exact ⟨fun h => absurd rfl h, fun u r' hr => ⟨(hS.2.1 u r' hr).2 hj, fun h => absurd rfl h⟩, hS.2.2⟩
  · rw [hstk]
    exact ⟨fun u hu => hP.2.1 u hu, hP.2.1, hP.2.2⟩
  · intro u v hu; rw [hstk, hev] at hu; rw [hn]; exact hsound u v hu
  · intro x y hx hy hxy
    rw [hn] at hx hy
    obtain ⟨u, h1, h2⟩ := hall x y hx hy hxy
    exact ⟨u, by rw [hstk, hev]; exact h1, h2⟩
  · intro u hu
    rw [hstk] at hu
    rw [hb2]
    rcases List.mem_cons.1 hu with rfl | hu
    · exact .inr rfl
    · exact .inl (hst u (List.mem_cons_of_mem _ hu))
  · intro u v hu
    rw [hb2]
    rcases edge_snoc.1 hu with hu | hu
    · exact .inl (I.srcs u v hu)
    · have : u = t.1 := by have z : (t.1 : Int) = (u : Int) := hu.1; omega
      exact .inl (this ▸ hst t (by simp))
  · intro u hu h0 hb
    rw [hstk] at hu
    rw [hb2] at hb
    rcases List.mem_cons.1 hu with rfl | hu
    · exact h0 rfl
    · rcases hb with hb | hb
      · exact hjo u (List.mem_cons_of_mem _ hu) h0 hb
      · exact hP.1 u hu hb
  · intro u hu v
    rw [hstk] at hu
    have hcl : ∀ x : Nat, (∀ v, ¬ edge l x v) → x ≠ t.1 → ∀ v, ¬ edge (l ++ [(3, (t.1 : Int), 0, 0, (t.2 : Int))]) x v := by
      intro x h1 h2 v h3
      rcases edge_snoc.1 h3 with h3 | h3
      · exact h1 v h3
      · exact h2 (by have z : (t.1 : Int) = (x : Int) := h3.1; omega)
    rcases List.mem_cons.1 hu with rfl | hu
    · exact ⟨hcl _ (fun v => (hout t (by simp) v).2 hj) (fun hE => by have hE' : t.2 = t.1 := hE; rw [hE'] at aj1; omega) v, fun h0 => absurd rfl h0⟩
    · have hb := hbeh u hu
      refine ⟨hcl _ (fun v => (hout u (List.mem_cons_of_mem _ hu) v).1) (fun hE => ?_) v, fun h0 => hcl _ (fun v => (hout u (List.mem_cons_of_mem _ hu) v).2 h0) (fun hE => ?_) v⟩
      · rw [hE] at hb; omega
      · rw [hE] at hb; omega
  · intro f hf
    rw [hn]
    rcases List.mem_append.1 hf with hf | hf
    · exact I.rng f hf
    · rw [List.mem_singleton.1 hf]
      simp only
      omega

theorem linv_step {l : List Five} {s : State} {e h : List Nat} (I : LInv l s e h) {f : Five} (hk : s.ok f) : ∃ e' h', LInv (l ++ [f]) (s.turn f.1) e' h' := by
  obtain ⟨t, r, hs⟩ := stk_pos I.good
  rcases ok_cases hs hk with hf | ⟨h0, u, r', hr, hf⟩ | ⟨h0, hf⟩
  · by_cases hj : t.2 = 0
    · rw [if_pos hj] at hf
      subst hf
      exact linv_fork I hs hj hk
    · rw [if_neg hj] at hf
      subst hf
      exact linv_more I hs hj hk
  · subst hf hr
    exact ⟨e, h, linv_end I hs h0 hk⟩
  · subst hf
    exact ⟨e, h, linv_join I hs h0 hk⟩
theorem linv_run {m : List Five} : ∀ {l : List Five} {s t : State} {e h : List Nat}, LInv l s e h → run s m = some t → ∃ e' h', LInv (l ++ m) t e' h' := by
  induction m with
  | nil => intro l s t e h I hr; injection hr with hr; subst hr; exact ⟨e, h, by rw [List.append_nil]; exact I⟩
  | cons f r ih =>
    intro l s t e h I hr
    rw [run_cons] at hr
    split at hr
    · rename_i hk
      obtain ⟨e1, h1, I1⟩ := linv_step I hk
      obtain ⟨e2, h2, I2⟩ := ih I1 hr
      exact ⟨e2, h2, by rw [List.append_assoc] at I2; exact I2⟩
    · cases hr

/-- one split, as Leads takes it -/
def mark1 (M : List Bool) (f : Five) : List Bool :=
  if M.getD f.2.1.toNat false then (if f.1 = 1 then (M.set f.2.2.1.toNat true).set f.2.2.2.1.toNat true else M.set f.2.2.2.2.toNat true) else M
def pass (l : List Five) (M : List Bool) : List Bool := l.foldl mark1 M
def passes (l : List Five) : Nat → List Bool → List Bool
  | 0, M => M
  | k + 1, M => pass l (passes l k M)
def leads (l : List Five) (n a : Nat) : List Bool := (passes l n ((List.replicate n false).set a true)).set a false
theorem mark1_length (M : List Bool) (f : Five) : (mark1 M f).length = M.length := by
  unfold mark1
  split
  · split <;> simp
  · rfl
theorem pass_length (l : List Five) : ∀ M : List Bool, (pass l M).length = M.length := by
  induction l with
  | nil => intro M; rfl
  | cons f l ih => intro M; show (pass l (mark1 M f)).length = _; rw [ih, mark1_length]
theorem passes_length (l : List Five) (k : Nat) (M : List Bool) : (passes l k M).length = M.length := by
  induction k with
  | zero => rfl
  | succ k ih => rw [passes, pass_length, ih]
theorem getD_set_true {M : List Bool} {i j : Nat} : (M.set i true).getD j false = true ↔ (j = i ∧ i < M.length) ∨ M.getD j false = true := by
  rw [List.getD_eq_getElem?_getD, List.getElem?_set, List.getD_eq_getElem?_getD]
  by_cases h : i = j
  · subst h
    rw [if_pos rfl]
    by_cases hl : i < M.length
    · simp [hl]
    · rw [if_neg hl]
      have : M[i]? = none := List.getElem?_eq_none (by omega)
      simp [this, hl]
  · rw [if_neg h]
    constructor
    · exact .inr
    · rintro (⟨h1, _⟩ | h1)
      · exact absurd h1.symm h
      · exact h1
theorem mark1_mono {M : List Bool} {f : Five} {b : Nat} (h : M.getD b false = true) : (mark1 M f).getD b false = true := by
  unfold mark1
  split
  · split
    · rw [getD_set_true, getD_set_true]; exact .inr (.inr h)
    · rw [getD_set_true]; exact .inr h
  · exact h
theorem pass_mono {l : List Five} : ∀ {M : List Bool} {b : Nat}, M.getD b false = true → (pass l M).getD b false = true := by
  induction l with
  | nil => intro M b h; exact h
  | cons f l ih => intro M b h; exact ih (mark1_mono h)
/-- of a marked strand a step is taken -/
theorem pass_edge {l : List Five} {M : List Bool} {u v : Nat} (he : edge l u v) (hv : v < M.length) (hu : M.getD u false = true) : (pass l M).getD v false = true := by
  induction l generalizing M with
  | nil => obtain ⟨f, hf, _⟩ := he; simp at hf
  | cons g l ih =>
    obtain ⟨f, hf, h⟩ := he
    show (pass l (mark1 M g)).getD v false = true
    rcases List.mem_cons.1 hf with rfl | hf
    · refine pass_mono ?_
      unfold mark1
      have e1 : f.2.1.toNat = u := by rw [h.1]; rfl
      rw [e1, hu, if_pos rfl]
      rcases h.2 with ⟨k1, h2⟩ | ⟨k1, h2⟩
      · rw [if_pos k1, getD_set_true, getD_set_true, List.length_set]
        rcases h2 with h2 | h2
        · have e2 : f.2.2.1.toNat = v := by rw [h2]; rfl
          exact .inr (.inl ⟨e2.symm, by omega⟩)
        · have e2 : f.2.2.2.1.toNat = v := by rw [h2]; rfl
          exact .inl ⟨e2.symm, by omega⟩
      · have e2 : f.2.2.2.2.toNat = v := by rw [h2]; rfl
        rw [if_neg k1, getD_set_true]
        exact .inl ⟨e2.symm, by omega⟩
    · exact ih ⟨f, hf, h⟩ (by rw [mark1_length]; exact hv) (mark1_mono hu)
/-- what holds of the marked, and goes over steps, holds of all that are marked -/
theorem pass_sound {l : List Five} {Q : Nat → Prop} (hr : ∀ f ∈ l, 0 ≤ f.2.1 ∧ 0 ≤ f.2.2.1 ∧ 0 ≤ f.2.2.2.1 ∧ 0 ≤ f.2.2.2.2) (hq : ∀ u v, edge l u v → Q u → Q v) :
    ∀ {m : List Five} {M : List Bool}, (∀ f ∈ m, f ∈ l) → (∀ b, M.getD b false = true → Q b) → ∀ b, (pass m M).getD b false = true → Q b := by
  intro m
  induction m with
  | nil => intro M _ h; exact h
  | cons f m ih =>
    intro M hm h
    have hf := hm f (by simp)
    have hfr := hr f hf
    refine ih (fun g hg => hm g (by simp [hg])) ?_
    intro b hb
    unfold mark1 at hb
    split at hb
    · rename_i hA
      have hA' := h _ hA
      split at hb
      · rename_i k1
        rw [getD_set_true, getD_set_true] at hb
        rcases hb with ⟨hb, _⟩ | ⟨hb, _⟩ | hb
        · exact hq _ b ⟨f, hf, by omega, .inl ⟨k1, .inr (by omega)⟩⟩ hA'
        · exact hq _ b ⟨f, hf, by omega, .inl ⟨k1, .inl (by omega)⟩⟩ hA'
        · exact h b hb
      · rename_i k1
        rw [getD_set_true] at hb
        rcases hb with ⟨hb, _⟩ | hb
        · exact hq _ b ⟨f, hf, by omega, .inr ⟨k1, by omega⟩⟩ hA'
        · exact h b hb
    · exact h b hb

instance (e h : List Nat) (x y : Nat) : Decidable (ahd e h x y) := inferInstanceAs (Decidable (_ ∧ _))
theorem leads_of {l : List Five} {s : State} (hrun : run init l = some s) {a b : Nat} (ha : a < s.n) (hb : begun l b) (hbn : b < s.n) : S.ahead s.places a b = (leads l s.n a).getD b false := by
  obtain ⟨e, h, I⟩ := linv_run init_linv hrun
  rw [List.nil_append] at I
  have hah : S.ahead s.places a b = decide (ahd e h a b) := by
    unfold S.ahead S.there
    rw [Int.toNat_natCast, Int.toNat_natCast, I.ord.places I.good ha, I.ord.places I.good hbn, I.good.places_length]
    have c1 : (decide (0 ≤ (a : Int) ∧ (a : Int) < (s.n : Int))) = true := by simp; omega
    have c2 : (decide (0 ≤ (b : Int) ∧ (b : Int) < (s.n : Int))) = true := by simp; omega
    rw [c1, c2, Bool.true_and, Bool.true_and, Bool.eq_iff_iff]
    simp only [Bool.and_eq_true, decide_eq_true_eq]
    exact Iff.rfl
  rw [hah]
  have hlen : ∀ k, (passes l k ((List.replicate s.n false).set a true)).length = s.n := by intro k; rw [passes_length]; simp
  have h0 : ∀ c, ((List.replicate s.n false).set a true).getD c false = true ↔ c = a := by
    intro c
    rw [getD_set_true]
    constructor
    · rintro (h | h)
      · exact h.1
      · rw [List.getD_eq_getElem?_getD, List.getElem?_replicate] at h; split at h <;> simp at h
    · intro h; exact .inl ⟨h, by simpa using ha⟩
  have hsound : ∀ k c, (passes l k ((List.replicate s.n false).set a true)).getD c false = true → c = a ∨ ahd e h a c := by
    intro k
    induction k with
    | zero => intro c hc; exact .inl ((h0 c).1 hc)
    | succ k ih =>
      refine pass_sound (Q := fun c => c = a ∨ ahd e h a c) (fun f hf => by have := I.rng f hf; omega) ?_ (fun f hf => hf) ih
      intro u v huv hu
      have z := (I.sound u v (.inl huv)).2.2
      have z1 := z.1
      have z2 := z.2
      rcases hu with rfl | hu
      · exact .inr z
      · have z3 := hu.1
        have z4 := hu.2
        exact .inr ⟨by omega, by omega⟩
  have hcomp : ∀ k c, c < s.n → begun l c → (c = a ∨ ahd e h a c) → e.idxOf c ≤ e.idxOf a + k → (passes l k ((List.replicate s.n false).set a true)).getD c false = true := by
    intro k
    induction k with
    | zero =>
      intro c hc hbc hac hk
      rcases hac with rfl | hac
      · exact (h0 _).2 rfl
      · have := hac.1; omega
    | succ k ih =>
      intro c hc hbc hac hk
      rcases hac with rfl | hac
      · exact pass_mono (ih _ hc hbc (.inl rfl) (by omega))
      · obtain ⟨u, hu, hau⟩ := I.all a c ha hc hac
        rcases hu with hu | hu
        · have z := (I.sound u c (.inl hu))
          have z1 := z.2.2.1
          refine pass_edge hu (by rw [hlen]; exact hc) (ih u z.1 (I.srcs u c hu) (hau.imp Eq.symm id) (by omega))
        · obtain ⟨t, ht, h1, h2⟩ := virt_dst I.pend hu
          exact absurd (h2 ▸ hbc) (I.joins t ht h1)
  have hset : (leads l s.n a).getD b false = if b = a then false else (passes l s.n ((List.replicate s.n false).set a true)).getD b false := by
    unfold leads
    rw [List.getD_eq_getElem?_getD, List.getElem?_set]
    by_cases hE : a = b
    · subst hE
      rw [if_pos rfl, if_pos (by rw [hlen]; exact ha), if_pos rfl]; rfl
    · rw [if_neg hE, if_neg (Ne.symm hE), List.getD_eq_getElem?_getD]
  rw [hset]
  by_cases hE : b = a
  · subst hE
    rw [if_pos rfl]
    simp [ahd]
  · rw [if_neg hE]
    by_cases hab : ahd e h a b
    · have hbl := idx_lt ((I.ord.me b).2 hbn)
      rw [I.ord.le] at hbl
      rw [hcomp s.n b hbn hb (.inr hab) (by omega)]
      simpa using hab
    · have : ¬ (passes l s.n ((List.replicate s.n false).set a true)).getD b false = true := by
        intro h1
        rcases hsound _ _ h1 with h2 | h2
        · exact hE h2
        · exact hab h2
      rw [Bool.not_eq_true] at this
      rw [this]
      simpa using hab
theorem leads_rng {l : List Five} {s : State} (hrun : run init l = some s) : ∀ f ∈ l, (0 ≤ f.2.1 ∧ f.2.1 < s.n) ∧ (0 ≤ f.2.2.1 ∧ f.2.2.1 < s.n) ∧ (0 ≤ f.2.2.2.1 ∧ f.2.2.2.1 < s.n) ∧ (0 ≤ f.2.2.2.2 ∧ f.2.2.2.2 < s.n) := by
  obtain ⟨e, h, I⟩ := linv_run init_linv hrun
  rw [List.nil_append] at I
  exact I.rng
theorem leads_length (l : List Five) (n a : Nat) : (leads l n a).length = n := by unfold leads; rw [List.length_set, passes_length]; simp
end Go.Proofs.Ytahhihhfjimppaa.S
/- Begun, Leads and SpLeads walked -/
namespace Go.Proofs.Ytahhihhfjimppaa
open Go.RowKit
set_option linter.unusedSimpArgs false
set_option linter.unusedVariables false
set_option maxRecDepth 100000

def S.hitB (f : S.Five) (a : Int) : Bool := (decide (f.1 = 1) && (decide (f.2.2.1 = a) || decide (f.2.2.2.1 = a))) || (decide (f.1 = 3) && decide (f.2.2.2.2 = a))
def S.begunB (l : List S.Five) (a : Int) : Bool := decide (a = 0) || l.any (fun f => S.hitB f a)
theorem S.begun_iff (l : List S.Five) (a : Nat) : S.begunB l a = true ↔ S.begun l a := by
  unfold S.begunB S.begun S.hitB
  simp only [Bool.or_eq_true, decide_eq_true_eq, List.any_eq_true, Bool.and_eq_true]
  constructor
  · rintro (h | h)
    · exact .inl (by omega)
    · exact .inr h
  · rintro (h | h)
    · exact .inl (by omega)
    · exact .inr h

theorem begun_any (l : List S.Five) (A : Option Addr) (c : Nat) (a : Int) (w : World) (hr : Rd w w.heap.size A (fcs l)) (hl : l.length ≤ 60) :
    Calls Try.prog 16 #[.slice A l.length c, .int .i64 a] w (fun e w' => e = .returned (.bool (S.begunB l a)) ∧ w' = w) := by
  by_cases ha : a = 0
  · subst ha
    have HR : Hid (S.begunB l 0 = true) := Lib.hid (by simp [S.begunB])
    go_enter Try.func16, Try.ntmps16
    go_wp2
    go_ret
    exact ⟨by rw [HR.out]; rfl, rfl⟩
  · have q0 : (a == 0) = false := by simpa using ha
    have H0 : Hid (S.begunB l a = (l.drop 0).any (fun f => S.hitB f a)) := Lib.hid (by simp [S.begunB, ha])
    clear ha
    go_enter Try.func16, Try.ntmps16
    go_wp2
    go_loopg [5] l.length (fun gk ii wr => ∃ k : Nat, k + gk = l.length ∧ ii = .int .i64 k ∧ wr = w ∧ Hid (S.begunB l a = (l.drop k).any (fun f => S.hitB f a)))
    case atStart => exact ⟨0, by omega, rfl, rfl, H0⟩
    case round =>
      obtain ⟨k, hk, rfl, hw, HB⟩ := hrel
      subst hw
      have HK := Lib.hid hk
      clear H0
      by_cases hlt : k < l.length
      · clear hk
        have hkI : (k : Int) < (l.length : Int) := by omega
        obtain ⟨bA, oA, rfl, hbA, f0, f1, f2, f3, f4⟩ := hr.five hlt
        by_cases k1 : l[k].1 = 1
        · by_cases kB : l[k].2.2.1 = a
          · rw [k1] at f0
            rw [kB] at f2
            have hh : S.hitB l[k] a = true := by simp [S.hitB, k1, kB]
            have HB2 : Hid (S.begunB l a = true) := Lib.hid (by rw [HB.out, List.drop_eq_getElem_cons hlt, List.any_cons, hh, Bool.true_or])
            clear hh HB
            go_wp2_with fail
            go_ret
            exact ⟨by rw [HB2.out]; rfl, rfl⟩
          · have qB : (l[k].2.2.1 == a) = false := by simpa using kB
            by_cases kC : l[k].2.2.2.1 = a
            · rw [k1] at f0
              rw [kC] at f3
              have hh : S.hitB l[k] a = true := by simp [S.hitB, k1, kC]
              have HB2 : Hid (S.begunB l a = true) := Lib.hid (by rw [HB.out, List.drop_eq_getElem_cons hlt, List.any_cons, hh, Bool.true_or])
              clear hh HB
              go_wp2_with fail
              go_ret
              exact ⟨by rw [HB2.out]; rfl, rfl⟩
            · have qC : (l[k].2.2.2.1 == a) = false := by simpa using kC
              rw [k1] at f0
              have hh : S.hitB l[k] a = false := by simp [S.hitB, k1, kB, kC]
              have HB2 : Hid (S.begunB l a = (l.drop (k + 1)).any (fun f => S.hitB f a)) := Lib.hid (by rw [HB.out, List.drop_eq_getElem_cons hlt, List.any_cons, hh, Bool.false_or])
              clear hh HB
              go_wp2_with fail
              go_roundg (gk - 1)
              case measure => have := HK.out; omega
              case rel => exact ⟨k + 1, by have := HK.out; omega, by go_num, rfl, HB2⟩
        · have q1 : (l[k].1 == 1) = false := by simpa using k1
          by_cases k3 : l[k].1 = 3
          · by_cases kD : l[k].2.2.2.2 = a
            · rw [k3] at f0
              rw [kD] at f4
              have hh : S.hitB l[k] a = true := by simp [S.hitB, k3, kD]
              have HB2 : Hid (S.begunB l a = true) := Lib.hid (by rw [HB.out, List.drop_eq_getElem_cons hlt, List.any_cons, hh, Bool.true_or])
              clear hh HB
              go_wp2_with fail
              go_ret
              exact ⟨by rw [HB2.out]; rfl, rfl⟩
            · have qD : (l[k].2.2.2.2 == a) = false := by simpa using kD
              have hh0 := f0
              rw [k3] at f0
              clear hh0
              have hh : S.hitB l[k] a = false := by simp [S.hitB, k3, kD]
              have HB2 : Hid (S.begunB l a = (l.drop (k + 1)).any (fun f => S.hitB f a)) := Lib.hid (by rw [HB.out, List.drop_eq_getElem_cons hlt, List.any_cons, hh, Bool.false_or])
              clear hh HB
              go_wp2_with fail
              go_roundg (gk - 1)
              case measure => have := HK.out; omega
              case rel => exact ⟨k + 1, by have := HK.out; omega, by go_num, rfl, HB2⟩
          · have q3 : (l[k].1 == 3) = false := by simpa using k3
            have hh : S.hitB l[k] a = false := by simp [S.hitB, k1, k3]
            have HB2 : Hid (S.begunB l a = (l.drop (k + 1)).any (fun f => S.hitB f a)) := Lib.hid (by rw [HB.out, List.drop_eq_getElem_cons hlt, List.any_cons, hh, Bool.false_or])
            clear hh HB
            go_wp2_with fail
            go_roundg (gk - 1)
            case measure => have := HK.out; omega
            case rel => exact ⟨k + 1, by have := HK.out; omega, by go_num, rfl, HB2⟩
      · obtain rfl : gk = 0 := by omega
        clear hk
        have e1 : l.drop k = [] := List.drop_of_length_le (by omega)
        have HB2 : Hid (S.begunB l a = false) := Lib.hid (by rw [HB.out, e1]; rfl)
        clear HB e1
        go_wp2
        go_ret
        exact ⟨by rw [HB2.out]; rfl, rfl⟩
end Go.Proofs.Ytahhihhfjimppaa
/- walks: the document's Ahead, Ints, leads, rising -/
namespace Go.Proofs.Ytahhihhfjimppaa
open Go.RowKit
set_option linter.unusedSimpArgs false
set_option linter.unusedVariables false
set_option maxRecDepth 100000

theorem Rd.pairs {w : World} {B : Nat} {A : Option Addr} {P : List (Nat × Nat)} (hr : Rd w B A (tcs P)) {x y : Nat} (hx : x < P.length) (hy : y < P.length) : ∃ b o, A = some ⟨b, o, none⟩ ∧ b < B ∧ w.cell? ⟨b, o + x * 2, none⟩ = some (.int .i64 (P[x].1 : Int)) ∧ w.cell? ⟨b, o + x * 2 + 1, none⟩ = some (.int .i64 (P[x].2 : Int)) ∧ w.cell? ⟨b, o + y * 2, none⟩ = some (.int .i64 (P[y].1 : Int)) ∧ w.cell? ⟨b, o + y * 2 + 1, none⟩ = some (.int .i64 (P[y].2 : Int)) := by
  obtain ⟨p0, p1⟩ := tcs_at P x hx
  obtain ⟨q0, q1⟩ := tcs_at P y hy
  obtain ⟨b1, o1, rfl, hb1, c0⟩ := hr.at_ p0
  obtain ⟨_, _, eA, _, c1⟩ := hr.at_ p1
  injection eA with eA; injection eA with e1 e2; subst e1 e2
  obtain ⟨_, _, eA, _, d0⟩ := hr.at_ q0
  injection eA with eA; injection eA with e1 e2; subst e1 e2
  obtain ⟨_, _, eA, _, d1⟩ := hr.at_ q1
  injection eA with eA; injection eA with e1 e2; subst e1 e2
  rw [← Nat.add_assoc] at c1 d1
  exact ⟨b1, o1, rfl, hb1, c0, c1, d0, d1⟩

theorem rahead_any (P : List (Nat × Nat)) (A : Option Addr) (c : Nat) (x y : Nat) (w : World) (hr : Rd w w.heap.size A (tcs P)) (hP : P.length ≤ 1000) (hx : x < P.length) (hy : y < P.length) :
    Calls Try.prog 24 #[.slice A P.length c, .int .i64 x, .int .i64 y] w (fun e w' => e = .returned (.bool (S.ahead P x y)) ∧ Below w.heap.size w w') := by
  obtain ⟨b1, o1, rfl, hb1, c0, c1, d0, d1⟩ := hr.pairs hx hy
  have hxI : (x : Int) < (P.length : Int) := by omega
  have hyI : (y : Int) < (P.length : Int) := by omega
  have q1 : decide ((x : Int) ≥ (P.length : Int)) = false := by simp; omega
  have q2 : decide ((y : Int) ≥ (P.length : Int)) = false := by simp; omega
  have HR : Hid (S.ahead P x y = (decide (P[x].1 < P[y].1) && decide (P[x].2 < P[y].2))) := Lib.hid (by
    have ha : S.there P.length x = true := by simp [S.there]; omega
    have hb : S.there P.length y = true := by simp [S.there]; omega
    simp only [S.ahead, ha, hb, Int.toNat_natCast, List.getD_eq_getElem?_getD, List.getElem?_eq_getElem hx, List.getElem?_eq_getElem hy, Option.getD_some, Bool.true_and])
  generalize P[x].1 = x0 at *
  generalize P[x].2 = x1 at *
  generalize P[y].1 = y0 at *
  generalize P[y].2 = y1 at *
  by_cases h0 : x0 < y0
  · have HR2 : Hid (S.ahead P x y = decide (x1 < y1)) := Lib.hid (by rw [HR.out]; simp [h0])
    have k0 : decide ((x0 : Int) < (y0 : Int)) = true := by simp; omega
    have k1 : decide ((x1 : Int) < (y1 : Int)) = decide (x1 < y1) := by simp
    clear HR
    go_enter Try.func24, Try.ntmps24
    go_wp2_with fail
    go_quiet (fail)
    go_wp2_with fail
    go_ret
    exact ⟨by rw [HR2.out]; rfl, below_drewN (Below.refl _ _) _⟩
  · have HR2 : Hid (S.ahead P x y = false) := Lib.hid (by rw [HR.out]; simp [h0])
    have k0 : decide ((x0 : Int) < (y0 : Int)) = false := by simp; omega
    have k1 : decide (x0 < y0) = false := by simpa using h0
    clear HR h0
    go_enter Try.func24, Try.ntmps24
    go_wp2_with fail
    go_quiet (fail)
    go_wp2_with fail
    go_ret
    exact ⟨by rw [HR2.out]; rfl, below_drewN (Below.refl _ _) _⟩

/-- is a strand another one, or ahead of it -/
def S.lds (P : List (Nat × Nat)) (a b : Nat) : Bool := decide (a = b) || S.ahead P a b
theorem leads_any (P : List (Nat × Nat)) (A : Option Addr) (c : Nat) (x y : Nat) (w : World) (hr : Rd w w.heap.size A (tcs P)) (hP : P.length ≤ 1000) :
    Calls Try.prog 22 #[.slice A P.length c, .int .i64 x, .int .i64 y] w (fun e w' => e = .returned (.bool (S.lds P x y)) ∧ Below w.heap.size w w') := by
  by_cases h : x = y
  · subst h
    have HR : Hid (S.lds P x x = true) := Lib.hid (by simp [S.lds])
    go_enter Try.func22, Try.ntmps22
    go_wp2_with fail
    go_ret
    exact ⟨by rw [HR.out]; rfl, Below.refl _ _⟩
  · have HR : Hid (S.lds P x y = S.ahead P x y) := Lib.hid (by simp [S.lds, h])
    have q : ((x : Int) == (y : Int)) = false := beq_false_of_ne (by omega)
    go_enter Try.func22, Try.ntmps22
    go_wp2_with (go_at_call 32; refine (ahead_any P _ _ x y _ hr hP).mono ?_)
    rintro e w1 ⟨rfl, hb⟩
    go_wp2_with fail
    go_ret
    exact ⟨by rw [HR.out]; rfl, hb⟩

theorem ints_same (xs : List Nat) (A B : Option Addr) (c d : Nat) (w : World) (ha : Rd w w.heap.size A (ns xs)) (hb : Rd w w.heap.size B (ns xs)) (hx : xs.length ≤ 1000) :
    Calls Try.prog 15 #[.slice A xs.length c, .slice B xs.length d] w (fun e w' => e = .returned (.bool true) ∧ Below w.heap.size w w') := by
  go_enter Try.func15, Try.ntmps15
  have q0 : ((xs.length : Int) != (xs.length : Int)) = false := by simp
  go_wp2_with fail
  go_loopg [5] xs.length (fun gk ii wr => ∃ k : Nat, k + gk = xs.length ∧ ii = .int .i64 k ∧ Below w.heap.size w wr)
  case atStart => exact ⟨0, by omega, rfl, Below.refl _ _⟩
  case round =>
    obtain ⟨k, hk, rfl, hbw⟩ := hrel
    have HK := Lib.hid hk
    by_cases hlt : k < xs.length
    · clear hk
      have hltI : (k : Int) < (xs.length : Int) := by omega
      obtain ⟨b1, o1, rfl, hb1, f1⟩ := (ha.below hbw).at_ (ns_at xs k hlt)
      obtain ⟨b2, o2, rfl, hb2, f2⟩ := (hb.below hbw).at_ (ns_at xs k hlt)
      have q1 : ((xs[k] : Int) != (xs[k] : Int)) = false := by simp
      generalize xs[k] = x at *
      go_wp2_with fail
      go_quiet (fail)
      go_wp2_with fail
      go_roundg (gk - 1)
      case measure => have := HK.out; omega
      case rel => exact ⟨k + 1, by have := HK.out; omega, by go_num, below_drewN hbw _⟩
    · clear hk
      go_wp2_with fail
      go_ret
      exact ⟨rfl, hbw⟩

theorem rising_any (xs : List Nat) (A : Option Addr) (c : Nat) (w : World) (hr : Rd w w.heap.size A (ns xs)) (hx : xs.length ≤ 1000) :
    Calls Try.prog 23 #[.slice A xs.length c] w (MadeN w xs.reverse) := by
  obtain ⟨i0, hi, hz0, hz1, hz2⟩ := info_parts info_int
  go_enter Try.func23, Try.ntmps23
  go_wp2_with (at_make; refine wpList_make_full _ rfl (.tmp 8) (.tmp 8) 23 rfl 0 3 i0 _ 1 Try.underlying23 hi hz0 hz1 .i64 .i64 xs.length xs.length xs.length rfl rfl rfl rfl ?d1 ?d2 ?d3 ?_)
  case d1 => rw [hz2]; omega
  case d2 => simp only [maxLen]; omega
  case d3 => simp
  intro w1 ho1 hg1
  rw [made_ns] at ho1
  have hfr1 : Fr (fun k => k = w.heap.size) w w1 := (Fr.refl _ w).grown hg1 (by simp)
  clear hg1
  generalize hgP : w.heap.size = gP at *
  have HGP := Lib.hid hgP
  clear hgP
  go_wp2_with fail
  go_loopg [11] xs.length (fun gk kk wr => ∃ (k : Nat) (P : List Nat), k + gk = xs.length ∧ kk = .int .i64 k ∧ Own wr 3 1 gP xs.length xs.length (ns P) ∧ Hid (P = xs.reverse.take k ++ List.replicate (xs.length - k) 0) ∧ Fr (fun k => k = gP) w wr)
  case atStart => exact ⟨0, List.replicate xs.length 0, by omega, rfl, ho1, Lib.hid (by simp), hfr1⟩
  case round =>
    obtain ⟨k, P, hk, rfl, ho, HP, hfr⟩ := hrel
    have HK := Lib.hid hk
    have HPL : Hid (P.length = xs.length) := Lib.hid (by rw [HP.out]; simp; omega)
    clear ho1 hfr1
    by_cases hlt : k < xs.length
    · clear hk
      have hltI : (k : Int) < (xs.length : Int) := by omega
      have hrw : Rd wr gP A (ns xs) := hr.keep (fun p hp => hfr.cell (by have := HGP.out; omega) (by omega))
      obtain ⟨b1, o1, rfl, hb1, f1⟩ := hrw.at_ (ns_at xs (xs.length - 1 - k) (by omega))
      have ca := ho.cell k (by omega)
      rw [ns_at P k (by rw [HPL.out]; exact hlt)] at ca
      have fa := ho.frozen k
      have HX : Hid (P.set k (xs[xs.length - 1 - k]'(by omega)) = xs.reverse.take (k + 1) ++ List.replicate (xs.length - (k + 1)) 0) := Lib.hid (by
        have e1 : xs[xs.length - 1 - k]'(by omega) = xs.reverse[k]'(by simpa using hlt) := by rw [List.getElem_reverse]
        rw [e1, HP.out, List.take_succ_eq_append_getElem (by simpa using hlt), List.set_append]
        have hlen : (xs.reverse.take k).length = k := by simp; omega
        rw [if_neg (by omega), hlen, Nat.sub_self]
        obtain ⟨m, hm⟩ : ∃ m, xs.length - k = m + 1 := ⟨xs.length - k - 1, by omega⟩
        rw [hm, show xs.length - (k + 1) = m by omega, List.replicate_succ, List.set_cons_zero, List.append_assoc]
        rfl)
      have ho2 : Own (wr.setCell ⟨gP, k, none⟩ (.int .i64 ((xs[xs.length - 1 - k]'(by omega) : Nat) : Int))) 3 1 gP xs.length xs.length (ns (P.set k (xs[xs.length - 1 - k]'(by omega)))) := by rw [← ns_set]; exact ho.set k _
      generalize xs[xs.length - 1 - k]'(by omega) = x at *
      have hfr2 := hfr.setCell (p := ⟨gP, k, none⟩) (.inl rfl) (.int .i64 (x : Int))
      clear ho hrw
      go_wp2_with fail
      go_roundg (gk - 1)
      case measure => have := HK.out; omega
      case rel => exact ⟨k + 1, P.set k x, by have := HK.out; omega, by go_num, ho2, HX, hfr2⟩
    · clear hk
      have e1 : P = xs.reverse := by
        have h1 := HP.out
        rw [List.take_of_length_le (by simp; omega), show xs.length - k = 0 by omega] at h1
        simpa using h1
      subst e1
      have r1 := ho.rd
      go_wp2_with fail
      go_ret
      exact ⟨some ⟨gP, 0, none⟩, xs.length, by rw [List.length_reverse]; rfl, r1, hfr.below (Nat.le_refl _) (fun k hk => by have := HGP.out; omega)⟩
end Go.Proofs.Ytahhihhfjimppaa
/- ranked: the plain model; a family of own rows; the map -/
namespace Go.Proofs.Ytahhihhfjimppaa
open Go.RowKit
set_option linter.unusedSimpArgs false
set_option linter.unusedVariables false
set_option maxRecDepth 100000

namespace B
/-- what ranked has at a time: the strands, how many the last use of each has and itself, the uses by rank -/
structure RS where
  strands : List Nat
  most : Nat → Nat
  ranks : List (List Nat)
def init : RS := ⟨[], fun _ => 0, []⟩
def bestFrom (le : Nat → Nat → Bool) (most : Nat → Nat) (u : Nat) (l : List Nat) (r : Nat) : Nat := l.foldl (fun r s => if le s u then max r (most s) else r) r
def addAt (L : List (List Nat)) (r i : Nat) : List (List Nat) := if r = L.length then L ++ [[i]] else L.set r (L.getD r [] ++ [i])
def RS.rank (le : Nat → Nat → Bool) (st : RS) (u : Nat) : Nat := bestFrom le st.most u st.strands 0
def RS.step (le : Nat → Nat → Bool) (st : RS) (i u : Nat) : RS :=
  ⟨if st.most u = 0 then st.strands ++ [u] else st.strands, fun x => if x = u then st.rank le u + 1 else st.most x, addAt st.ranks (st.rank le u) i⟩
def stN (le : Nat → Nat → Bool) (us : List Nat) : Nat → RS
  | 0 => init
  | k + 1 => (stN le us k).step le k (us.getD k 0)
theorem bestFrom_le {le : Nat → Nat → Bool} {most : Nat → Nat} {u N : Nat} (hm : ∀ x, most x ≤ N) : ∀ (l : List Nat) (r : Nat), r ≤ N → bestFrom le most u l r ≤ N := by
  intro l
  induction l with
  | nil => intro r h; exact h
  | cons s l ih =>
    intro r h
    show bestFrom le most u l (if le s u then max r (most s) else r) ≤ N
    apply ih
    have := hm s
    split <;> omega
theorem bestFrom_take {le : Nat → Nat → Bool} {most : Nat → Nat} {u : Nat} (l : List Nat) {k : Nat} (hk : k < l.length) : bestFrom le most u (l.take (k + 1)) 0 = if le l[k] u then max (bestFrom le most u (l.take k) 0) (most l[k]) else bestFrom le most u (l.take k) 0 := by
  unfold bestFrom
  rw [List.take_succ_eq_append_getElem hk, List.foldl_append]
  rfl
theorem addAt_length {L : List (List Nat)} {r i : Nat} : (addAt L r i).length = if r = L.length then L.length + 1 else L.length := by
  unfold addAt
  split <;> simp
/-- what holds at each time -/
structure RS.Okay (st : RS) (k : Nat) : Prop where
  most : ∀ x, st.most x ≤ st.ranks.length
  len : st.ranks.length ≤ k
  str : st.strands.length ≤ k
  rows : ∀ l ∈ st.ranks, l.length ≤ k
theorem okay_init : init.Okay 0 := ⟨fun _ => Nat.zero_le _, Nat.le_refl _, Nat.le_refl _, by simp [init]⟩
theorem RS.Okay.rank {st : RS} {k : Nat} (h : st.Okay k) (le : Nat → Nat → Bool) (u : Nat) : st.rank le u ≤ st.ranks.length := bestFrom_le h.most _ _ (Nat.zero_le _)
theorem RS.Okay.step {st : RS} {k : Nat} (h : st.Okay k) (le : Nat → Nat → Bool) (u : Nat) : (st.step le k u).Okay (k + 1) := by
  have hr := h.rank le u
  have hl := h.len
  have hs := h.str
  refine ⟨fun x => ?_, ?_, ?_, ?_⟩
  · show (if x = u then st.rank le u + 1 else st.most x) ≤ (addAt st.ranks (st.rank le u) k).length
    rw [addAt_length]
    have := h.most x
    split <;> split <;> omega
  · show (addAt st.ranks (st.rank le u) k).length ≤ k + 1
    rw [addAt_length]; split <;> omega
  · show (if st.most u = 0 then st.strands ++ [u] else st.strands).length ≤ k + 1
    split
    · simp; omega
    · omega
  · intro l hm
    have hm : l ∈ addAt st.ranks (st.rank le u) k := hm
    unfold addAt at hm
    split at hm
    · rcases List.mem_append.1 hm with h1 | h1
      · have := h.rows l h1; omega
      · rw [List.mem_singleton.1 h1]; simp
    · rename_i hne
      rcases List.mem_or_eq_of_mem_set hm with h1 | h1
      · have := h.rows l h1; omega
      · subst h1
        rw [List.getD_eq_getElem?_getD, List.getElem?_eq_getElem (by omega), Option.getD_some, List.length_append]
        have := h.rows _ (List.getElem_mem (show st.rank le u < st.ranks.length by omega))
        simp; omega
theorem stN_okay (le : Nat → Nat → Bool) (us : List Nat) : ∀ k, (stN le us k).Okay k
  | 0 => okay_init
  | k + 1 => (stN_okay le us k).step le _
end B

/-- rows of which no two lie in one block -/
def Dis (l : List Value) : Prop := ∀ i j (hi : i < l.length) (hj : j < l.length), i ≠ j → ∀ g, l[i].ownBlock = some g → l[j].ownBlock ≠ some g
/-- a family of rows of numbers of the call's own -/
structure Fam (w : World) (B : Nat) (vs : List Value) (L : List (List Nat)) : Prop where
  len : vs.length = L.length
  row : ∀ r (h : r < L.length), w.ownsRow B 3 1 (vs[r]'(by omega)) (L[r].length) (ns L[r])
  dis : Dis vs
section
variable {w w' : World} {B : Nat} {vs : List Value} {L : List (List Nat)}
theorem Fam.nil (w : World) (B : Nat) : Fam w B [] [] := ⟨rfl, fun r h => by simp at h, fun i j hi => by simp at hi⟩
theorem Fam.blk (h : Fam w B vs L) {r : Nat} (hr : r < vs.length) {g : Nat} (hg : vs[r].ownBlock = some g) : B ≤ g ∧ g < w.heap.size ∧ ∃ cur, w.heap[g]? = some (.cells cur 3 (0, 0)) := by
  have h1 := h.row r (by rw [← h.len]; exact hr)
  obtain ⟨h2, h3⟩ := h1.lt g hg
  refine ⟨h2, h3, ?_⟩
  rcases h1.2 with ⟨hv, _⟩ | ⟨g', cap, cur, hv, _, hc, _⟩
  · rw [hv] at hg; simp [Value.ownBlock] at hg
  · rw [hv] at hg
    simp [Value.ownBlock] at hg
    subst hg
    exact ⟨cur, hc⟩
theorem Fam.kept (h : Fam w B vs L) {row : Option Nat} (hg : w.grownBy w' row) (hn : ∀ r (hr : r < vs.length), vs[r].ownBlock = none ∨ vs[r].ownBlock ≠ row) : Fam w' B vs L :=
  ⟨h.len, fun r hr => (h.row r hr).kept hg (hn r (by rw [h.len]; exact hr)), h.dis⟩
theorem Fam.alloc (h : Fam w B vs L) (o : Obj) : Fam (w.alloc o) B vs L := ⟨h.len, fun r hr => (h.row r hr).alloc o, h.dis⟩
theorem Fam.push (h : Fam w B vs L) : Fam w B (vs ++ [.slice none 0 0]) (L ++ [[]]) := by
  have hl := h.len
  refine ⟨by simp [hl], fun r hr => ?_, ?_⟩
  · simp only [List.length_append, List.length_singleton] at hr
    by_cases hr2 : r < L.length
    · have h1 := h.row r hr2
      have e1 : (vs ++ [Value.slice none 0 0])[r]'(by simp; omega) = vs[r]'(by omega) := List.getElem_append_left (by omega)
      have e2 : (L ++ [[]])[r]'(by simp; omega) = L[r] := List.getElem_append_left hr2
      rw [e1, e2]
      exact h1
    · obtain rfl : r = L.length := by omega
      have e1 : (vs ++ [Value.slice none 0 0])[L.length]'(by simp; omega) = .slice none 0 0 := by simp [← hl]
      have e2 : (L ++ [[]])[L.length]'(by simp) = [] := by simp
      rw [e1, e2]
      exact World.ownsRow_nil _ _ _ _
  · intro i j hi hj hij g hg
    simp only [List.length_append, List.length_singleton] at hi hj
    by_cases hi2 : i < vs.length
    · rw [List.getElem_append_left hi2] at hg
      by_cases hj2 : j < vs.length
      · rw [List.getElem_append_left hj2]
        exact h.dis i j hi2 hj2 hij g hg
      · have : (vs ++ [Value.slice none 0 0])[j]'(by simp; omega) = .slice none 0 0 := by
          obtain rfl : j = vs.length := by omega
          simp
        rw [this]; simp [Value.ownBlock]
    · have : (vs ++ [Value.slice none 0 0])[i]'(by simp; omega) = .slice none 0 0 := by
        obtain rfl : i = vs.length := by omega
        simp
      rw [this] at hg; simp [Value.ownBlock] at hg
/-- one of the rows has grown -/
theorem Fam.app (h : Fam w B vs L) {r : Nat} (hr : r < L.length) {v' : Value} {x : Nat} {o : Obj} (hg : (w.alloc o).grownBy w' (vs[r]'(by have := h.len; omega)).ownBlock)
    (ho : w'.ownsRow B 3 1 v' (L[r].length + 1) (ns L[r] ++ [.int .i64 (x : Int)])) (hat : v'.ownBlock = (vs[r]'(by have := h.len; omega)).ownBlock ∨ v'.ownBlock = some (w.heap.size + 1)) :
    Fam w' B (vs.set r v') (L.set r (L[r] ++ [x])) := by
  have hl := h.len
  refine ⟨by simp [hl], fun i hi => ?_, ?_⟩
  · rw [List.length_set] at hi
    by_cases hir : i = r
    · subst hir
      simp only [List.getElem_set_self]
      rw [List.length_append, ns_append]
      exact ho
    · rw [List.getElem_set_ne (fun e => hir e.symm), List.getElem_set_ne (fun e => hir e.symm)]
      refine ((h.row i hi).alloc o).kept hg ?_
      cases hb : (vs[i]'(by omega)).ownBlock with
      | none => exact .inl rfl
      | some g => exact .inr (fun e => h.dis i r (by omega) (by omega) hir g hb e.symm)
  · intro i j hi hj hij g hgi
    rw [List.length_set] at hi hj
    have fresh : ∀ k (hk : k < vs.length), vs[k].ownBlock ≠ some (w.heap.size + 1) := fun k hk e => by
      have := (h.blk hk e).2.1
      omega
    by_cases hir : i = r
    · subst hir
      rw [List.getElem_set_self] at hgi
      rw [List.getElem_set_ne hij]
      rcases hat with e | e
      · rw [e] at hgi
        exact h.dis i j (by omega) (by omega) hij g hgi
      · rw [e] at hgi
        injection hgi with hgi
        subst hgi
        exact fresh j (by omega)
    · rw [List.getElem_set_ne (fun e => hir e.symm)] at hgi
      by_cases hjr : j = r
      · subst hjr
        rw [List.getElem_set_self]
        rcases hat with e | e
        · rw [e]; exact h.dis i j (by omega) (by omega) hij g hgi
        · rw [e]
          intro e2
          injection e2 with e2
          subst e2
          exact fresh i (by omega) hgi
      · rw [List.getElem_set_ne (fun e => hjr e.symm)]
        exact h.dis i j (by omega) (by omega) hij g hgi
end

theorem wf_small {s : Nat} (h : s ≤ 1000) : (Lit.int .i64 (s : Int)).wf = true := by
  have h1 : (0 : Int) ≤ s := by omega
  have h2 : (s : Int) ≤ 1000 := by omega
  have e1 : IntKind.i64.min = -9223372036854775808 := by decide
  have e2 : IntKind.i64.max = 9223372036854775807 := by decide
  simp only [Lit.wf, e1, e2, Bool.and_eq_true, decide_eq_true_eq]
  omega
/-- a map of numbers of the call's own, as a function: 0 where it has nothing -/
def MapF (w : World) (b n : Nat) (f : Nat → Nat) : Prop := ∃ D : DataW Unit, w.ownsMap Try.prog 3 (plainElem Try.prog 3) b n D ∧ Go.Maps.IsMap D ∧ ∀ s : Nat, s ≤ 1000 → D.atKey (.int .i64 (s : Int)) (.lit (.int .i64 0)) = .lit (.int .i64 (f s : Int))
theorem MapF.made (w : World) : MapF (w.alloc (.map #[] 0)) w.heap.size 0 (fun _ => 0) := ⟨.map [], World.ownsMap_made w _ _ _, ⟨[], rfl⟩, fun _ _ => rfl⟩
theorem MapF.kept {w w' : World} {b n : Nat} {f : Nat → Nat} {row : Option Nat} (h : MapF w b n f) (hg : w.grownBy w' row) (hne : some b ≠ row) : MapF w' b n f := by
  obtain ⟨D, h1, h2, h3⟩ := h
  exact ⟨D, h1.kept hg hne, h2, h3⟩
theorem MapF.lt {w : World} {b n : Nat} {f : Nat → Nat} (h : MapF w b n f) : b < w.heap.size := by obtain ⟨D, h1, _⟩ := h; exact h1.lt
theorem MapF.blk {w : World} {b n : Nat} {f : Nat → Nat} (h : MapF w b n f) : ∃ es c, w.heap[b]? = some (.map es c) := by
  obtain ⟨D, ⟨es, c, h1, _⟩, _⟩ := h
  exact ⟨es, c, h1⟩
theorem zero_int (w : World) : (zeroValue 3).run Try.prog w = .ok (.int .i64 0) w := by
  have hz : Try.t3.zero = some (.int .i64 0) := by kernel_rfl
  simp [zeroValue, go_sem, hz]
theorem MapF.look {w : World} {b n : Nat} {f : Nat → Nat} (h : MapF w b n f) {s : Nat} (hs : s ≤ 1000) : (Instr.lookup 82 (.map (some b)) (.int .i64 (s : Int)) false).run Try.prog w = .ok (.int .i64 (f s : Int)) w := by
  obtain ⟨D, h1, h2, h3⟩ := h
  obtain ⟨c, hrun, hat, _⟩ := h1.lookup_int (t := 82) (e := 3) (q := .i64) (Go.Maps.int_keyed Try.underlying3) Try.underlying82 Try.underlying3 (zero_int w) (Go.Maps.keyOf_int_mk Try.underlying3 (wf_small hs))
  rw [h3 s hs] at hat
  injection hat with hat
  injection hat with _ hat
  rw [hrun, hat]
theorem MapF.upd {w : World} {b n : Nat} {f : Nat → Nat} (h : MapF w b n f) (hn : n < 1000) {s v : Nat} (hs : s ≤ 1000) (hv : v ≤ 1000) :
    ∃ w', (Instr.mapUpdate 82 (.map (some b)) (.int .i64 (s : Int)) (.int .i64 (v : Int))).run Try.prog w = .ok () w' ∧ MapF w' b (n + 1) (fun x => if x = s then v else f x) ∧ w.grownBy w' (some b) := by
  obtain ⟨D, h1, h2, h3⟩ := h
  obtain ⟨w', hrun, ho, hg⟩ := h1.update (t := 82) (e := 3) (Go.Maps.int_keyed Try.underlying3) Try.underlying82 (by simp only [maxLen]; omega) (Go.Maps.keyOf_int_mk Try.underlying3 (wf_small hs)) (plainElem_int Try.underlying3 (wf_small hv))
  refine ⟨w', hrun, ⟨_, ho, ?_, fun x hx => ?_⟩, hg⟩
  · obtain ⟨es, rfl⟩ := h2
    exact ⟨_, rfl⟩
  · by_cases e : x = s
    · subst e
      show _ = DataW.lit (Lit.int .i64 ((if x = x then v else f x : Nat) : Int))
      rw [if_pos rfl]
      exact Go.Maps.atKey_put_same h2 (by trivial) _ _
    · show _ = DataW.lit (Lit.int .i64 ((if x = s then v else f x : Nat) : Int))
      rw [if_neg e]
      rw [Go.Maps.atKey_put_other (by intro h; injection h with _ h; omega)]
      exact h3 x hx
end Go.Proofs.Ytahhihhfjimppaa
/- walk: ranked -/
namespace Go.Proofs.Ytahhihhfjimppaa
open Go.RowKit
set_option linter.unusedSimpArgs false
set_option linter.unusedVariables false
set_option maxRecDepth 100000

/-- the strands of a row of uses -/
def Strs (w : World) (B : Nat) (A : Option Addr) (us : List Nat) : Prop := us = [] ∨ ∃ b off, A = some ⟨b, off, none⟩ ∧ b < B ∧ ∀ i (h : i < us.length), w.cell? ⟨b, off + i * 10, none⟩ = some (.int .i64 (us[i] : Int))
theorem Strs.keep {w w' : World} {B : Nat} {A : Option Addr} {us : List Nat} (h : Strs w B A us) (hk : ∀ p : Addr, p.block < B → w'.cell? p = w.cell? p) : Strs w' B A us := by
  rcases h with h | ⟨b, off, rfl, hb, hc⟩
  · exact .inl h
  · exact .inr ⟨b, off, rfl, hb, fun i hi => (hk _ hb).trans (hc i hi)⟩
theorem Strs.below {w w' : World} {B : Nat} {A : Option Addr} {us : List Nat} (h : Strs w B A us) (hb : Below B w w') : Strs w' B A us := h.keep fun _ hp => hb.cell hp
theorem Strs.more {w : World} {B B' : Nat} {A : Option Addr} {us : List Nat} (h : Strs w B A us) (hB : B ≤ B') : Strs w B' A us := by
  rcases h with h | ⟨b, off, rfl, hb, hc⟩
  · exact .inl h
  · exact .inr ⟨b, off, rfl, by omega, hc⟩
theorem Strs.on {w w' : World} {A : Option Addr} {us : List Nat} (h : Strs w w.heap.size A us) (hb : Below w.heap.size w w') : Strs w' w'.heap.size A us := (h.below hb).more hb.size
theorem Strs.at_ {w : World} {B : Nat} {A : Option Addr} {us : List Nat} (h : Strs w B A us) {i : Nat} (hi : i < us.length) : ∃ b off, A = some ⟨b, off, none⟩ ∧ b < B ∧ w.cell? ⟨b, off + i * 10, none⟩ = some (.int .i64 (us[i] : Int)) := by
  rcases h with h | ⟨b, off, rfl, hb, hc⟩
  · subst h; simp at hi
  · exact ⟨b, off, rfl, hb, hc i hi⟩

theorem own_ne {w : World} {B1 B2 n1 n2 s1 s2 : Nat} {e1 e2 : TypeId} {v1 v2 : Value} {xs1 xs2 : List Value} (h1 : w.ownsRow B1 e1 s1 v1 n1 xs1) (h2 : w.ownsRow B2 e2 s2 v2 n2 xs2) (he : e1 ≠ e2) : v1.ownBlock = none ∨ v1.ownBlock ≠ v2.ownBlock := by
  rcases h1.2 with ⟨hv, _⟩ | ⟨g, cap, cur, hv, _, hc, _⟩
  · left; rw [hv]; rfl
  · right
    rcases h2.2 with ⟨hv2, _⟩ | ⟨g2, cap2, cur2, hv2, _, hc2, _⟩
    · rw [hv, hv2]; simp [Value.ownBlock]
    · rw [hv, hv2]
      simp only [Value.ownBlock]
      intro e
      injection e with e
      subst e
      rw [hc] at hc2
      injection hc2 with hc2
      injection hc2 with _ hc2
      exact he hc2
theorem own_ne_map {w : World} {B1 n1 s1 b n : Nat} {e1 : TypeId} {v1 : Value} {xs1 : List Value} {f : Nat → Nat} (h1 : w.ownsRow B1 e1 s1 v1 n1 xs1) (h2 : MapF w b n f) : v1.ownBlock ≠ some b := by
  obtain ⟨es, c, hb⟩ := h2.blk
  rcases h1.2 with ⟨hv, _⟩ | ⟨g, cap, cur, hv, _, hc, _⟩
  · rw [hv]; simp [Value.ownBlock]
  · rw [hv]
    simp only [Value.ownBlock]
    intro e
    injection e with e
    subst e
    rw [hc] at hb
    injection hb with hb
    cases hb
/-- all that ranked has in memory -/
structure RkI (w wr : World) (st : B.RS) (k : Nat) (bM : Nat) (vR vS : Value) (vs : List Value) : Prop where
  fam : Fam wr w.heap.size (vS :: vs) (st.strands :: st.ranks)
  out : wr.ownsRow w.heap.size 23 1 vR st.ranks.length vs
  map : MapF wr bM k st.most
  new : w.heap.size ≤ bM
  below : Below w.heap.size w wr
section
variable {w wr w' : World} {st : B.RS} {k bM : Nat} {vR vS : Value} {vs : List Value}
theorem grown_of_below (hb : Below wr.heap.size wr w') : wr.grownBy w' none := ⟨hb.os, hb.tape, hb.output, hb.size, fun i hi _ => hb.block i hi⟩
theorem RkI.on (I : RkI w wr st k bM vR vS vs) (hb : Below wr.heap.size wr w') : RkI w w' st k bM vR vS vs := by
  have hg := grown_of_below hb
  refine ⟨I.fam.kept hg (fun r hr => ?_), I.out.kept hg ?_, I.map.kept hg (by simp), I.new, I.below.trans (hb.mono I.below.size)⟩
  · cases h : ((vS :: vs)[r]).ownBlock with
    | none => exact .inl rfl
    | some g => exact .inr (by simp)
  · cases h : vR.ownBlock with
    | none => exact .inl rfl
    | some g => exact .inr (by simp)
end
theorem stN_at (le : Nat → Nat → Bool) (us : List Nat) {k : Nat} (hk : k < us.length) : B.stN le us (k + 1) = (B.stN le us k).step le k us[k] := by
  show (B.stN le us k).step le k (us.getD k 0) = _
  rw [List.getD_eq_getElem?_getD, List.getElem?_eq_getElem hk, Option.getD_some]

theorem strands_mem (le : Nat → Nat → Bool) (us : List Nat) : ∀ k, k ≤ us.length → ∀ x ∈ (B.stN le us k).strands, x ∈ us := by
  intro k
  induction k with
  | zero => intro _ x hx; simp [B.stN, B.init] at hx
  | succ k ih =>
    intro hk x hx
    rw [stN_at le us (by omega)] at hx
    have hx : x ∈ (if (B.stN le us k).most us[k] = 0 then (B.stN le us k).strands ++ [us[k]] else (B.stN le us k).strands) := hx
    split at hx
    · rcases List.mem_append.1 hx with h | h
      · exact ih (by omega) x h
      · rw [List.mem_singleton.1 h]; exact List.getElem_mem _
    · exact ih (by omega) x hx
section
variable {w wr w' : World} {st : B.RS} {k bM : Nat} {vR vS : Value} {vs : List Value}
theorem RkI.str (I : RkI w wr st k bM vR vS vs) : wr.ownsRow w.heap.size 3 1 vS st.strands.length (ns st.strands) := I.fam.row 0 (by simp)
theorem RkI.row (I : RkI w wr st k bM vR vS vs) {r : Nat} (hr : r < st.ranks.length) : ∃ h : r < vs.length, wr.ownsRow w.heap.size 3 1 vs[r] (st.ranks[r].length) (ns st.ranks[r]) := by
  have hl := I.fam.len
  simp only [List.length_cons] at hl
  have := I.fam.row (r + 1) (by simp; omega)
  exact ⟨by omega, this⟩
theorem RkI.vslen (I : RkI w wr st k bM vR vS vs) : vs.length = st.ranks.length := by have := I.fam.len; simpa using this
/-- the strands' row has grown -/
theorem RkI.addS (I : RkI w wr st k bM vR vS vs) {v' : Value} {x : Nat} {o : Obj} (hg : (wr.alloc o).grownBy w' vS.ownBlock)
    (ho : w'.ownsRow w.heap.size 3 1 v' (st.strands.length + 1) (ns st.strands ++ [.int .i64 (x : Int)])) (hat : v'.ownBlock = vS.ownBlock ∨ v'.ownBlock = some (wr.heap.size + 1)) :
    RkI w w' ⟨st.strands ++ [x], st.most, st.ranks⟩ k bM vR v' vs := by
  have f := I.fam.app (r := 0) (by simp) hg ho hat
  have n1 := own_ne I.out I.str (by decide)
  have n2 := own_ne_map I.str I.map
  refine ⟨f, (I.out.alloc o).kept hg n1, (I.map.kept (World.grownBy_alloc wr o none) (by simp)).kept hg (fun e => n2 e.symm), I.new, ?_⟩
  refine (I.below.alloc I.below.size o).grown hg ?_ fun g hg2 => (I.str.lt g hg2).1
  have := I.below.size; simp; omega
/-- the map has another entry -/
theorem RkI.put (I : RkI w wr st k bM vR vS vs) {f : Nat → Nat} (hg : wr.grownBy w' (some bM)) (hm : MapF w' bM (k + 1) f) : RkI w w' ⟨st.strands, f, st.ranks⟩ (k + 1) bM vR vS vs := by
  refine ⟨I.fam.kept hg (fun r hr => .inr ?_), I.out.kept hg (.inr (own_ne_map I.out I.map)), hm, I.new, I.below.grown hg I.below.size fun g hg2 => by injection hg2 with hg2; rw [← hg2]; exact I.new⟩
  exact own_ne_map (I.fam.row r (by rw [← I.fam.len]; exact hr)) I.map
/-- an empty rank more -/
theorem RkI.addR (I : RkI w wr st k bM vR vS vs) {v' : Value} {o : Obj} (hg : (wr.alloc o).grownBy w' vR.ownBlock)
    (ho : w'.ownsRow w.heap.size 23 1 v' (st.ranks.length + 1) (vs ++ [.slice none 0 0])) :
    RkI w w' ⟨st.strands, st.most, st.ranks ++ [[]]⟩ k bM v' vS (vs ++ [.slice none 0 0]) := by
  refine ⟨?_, by simpa using ho, (I.map.kept (World.grownBy_alloc wr o none) (by simp)).kept hg (fun e => own_ne_map I.out I.map e.symm), I.new, ?_⟩
  · have f := (I.fam.alloc o).kept hg (fun r hr => own_ne (I.fam.row r (by rw [← I.fam.len]; exact hr)) I.out (by decide))
    exact f.push
  · refine (I.below.alloc I.below.size o).grown hg ?_ fun g hg2 => (I.out.lt g hg2).1
    have := I.below.size; simp; omega
end
section
variable {w wr w' : World} {st : B.RS} {k bM gR cR : Nat} {vS : Value} {vs : List Value}
/-- a rank's row has grown, and lies in its place -/
theorem RkI.grow (I : RkI w wr st k bM (.slice (some ⟨gR, 0, none⟩) st.ranks.length cR) vS vs) {r : Nat} (hr : r < st.ranks.length) {hv : r < vs.length} {v' : Value} {x : Nat} {o : Obj} (hg : (wr.alloc o).grownBy w' vs[r].ownBlock)
    (ho : w'.ownsRow w.heap.size 3 1 v' (st.ranks[r].length + 1) (ns st.ranks[r] ++ [.int .i64 (x : Int)])) (hat : v'.ownBlock = vs[r].ownBlock ∨ v'.ownBlock = some (wr.heap.size + 1)) :
    w'.cell? ⟨gR, r, none⟩ = some vs[r] ∧ w'.frozen? ⟨gR, r, none⟩ = false ∧ RkI w (w'.setCell ⟨gR, r, none⟩ v') ⟨st.strands, st.most, st.ranks.set r (st.ranks[r] ++ [x])⟩ k bM (.slice (some ⟨gR, 0, none⟩) st.ranks.length cR) vS (vs.set r v') := by
  obtain ⟨_, orow⟩ := I.row hr
  have hvl := I.vslen
  have f := I.fam.app (r := r + 1) (by simp; omega) (x := x) (v' := v') hg ho hat
  have n1 := own_ne I.out orow (by decide)
  have n2 := own_ne_map orow I.map
  have o1 := (I.out.alloc o).kept hg n1
  have m1 := (I.map.kept (World.grownBy_alloc wr o none) (by simp)).kept hg (fun e => n2 e.symm)
  have b1 : Below w.heap.size w w' := (I.below.alloc I.below.size o).grown hg (by have := I.below.size; simp; omega) fun g hg2 => (orow.lt g hg2).1
  obtain ⟨s1, s2⟩ := o1.stored r v'
  have c1 := o1.cellAt r (by omega)
  rw [List.getElem?_eq_getElem (by omega)] at c1
  refine ⟨c1, o1.frozenAt r, ?_, ?_, ?_, I.new, ?_⟩
  · refine f.kept s2 (fun i hi => ?_)
    have hl2 := f.len
    have := own_ne (f.row i (by rw [← hl2]; exact hi)) o1 (by decide)
    exact this
  · show World.ownsRow _ _ _ _ _ (st.ranks.set r (st.ranks[r] ++ [x])).length _
    rw [List.length_set]; exact s1
  · exact m1.kept s2 (fun e => own_ne_map o1 m1 e.symm)
  · exact b1.grown s2 b1.size fun g hg2 => (o1.lt g (by simpa [Value.ownBlock] using hg2)).1
end
theorem info_row : (Try.prog.info? 23).map (fun i => (i.zero, i.size, i.bytes)) = some (some (.slice none 0 0), 1, 24) := by kernel_rfl
/-- what ranked leaves -/
def Ranked (w : World) (L : List (List Nat)) (e : Ending) (w' : World) : Prop :=
  ∃ v vs, e = .returned v ∧ w'.ownsRow w.heap.size 23 1 v L.length vs ∧ Fam w' w.heap.size vs L ∧ Below w.heap.size w w'

set_option maxHeartbeats 4000000 in
theorem ranked_any (us : List Nat) (P : List (Nat × Nat)) (A AP : Option Addr) (c cP : Nat) (w : World) (hu : Strs w w.heap.size A us) (hr : Rd w w.heap.size AP (tcs P)) (hl : us.length ≤ 100) (hP : P.length ≤ 1000) (hs : ∀ u ∈ us, u ≤ 1000) :
    Calls Try.prog 21 #[.slice A us.length c, .slice AP P.length cP] w (Ranked w (B.stN (S.lds P) us us.length).ranks) := by
  obtain ⟨i0, hi, hz0, hz1, hz2⟩ := info_parts info_int
  go_enter Try.func21, Try.ntmps21
  have hmk : (Instr.makeMap 82 none).run Try.prog w = .ok (.map (some w.heap.size)) (w.alloc (.map #[] 0)) := run_makeMap _ _
  go_wp2_with fail
  clear hmk
  have I0 : RkI w (w.alloc (.map #[] 0)) B.init 0 w.heap.size (.slice none 0 0) (.slice none 0 0) [] := by
    refine ⟨?_, World.ownsRow_nil _ _ _ _, MapF.made w, Nat.le_refl _, bel_new w _⟩
    have := (Fam.nil (w.alloc (.map #[] 0)) w.heap.size).push
    exact this
  go_loopg [5, 6, 16] us.length (fun gk s5 s6 s16 wr => ∃ (k : Nat) (vs : List Value) (AR AS : Option Addr) (cR cS : Nat), k + gk = us.length ∧ s16 = .int .i64 k ∧ s5 = .slice AR (B.stN (S.lds P) us k).ranks.length cR ∧ s6 = .slice AS (B.stN (S.lds P) us k).strands.length cS ∧ RkI w wr (B.stN (S.lds P) us k) k w.heap.size s5 s6 vs)
  case atStart => exact ⟨0, [], none, none, 0, 0, by omega, rfl, rfl, rfl, I0⟩
  case round =>
    clear I0
    obtain ⟨k, vs, AR, AS, cR, cS, hk, rfl, rfl, rfl, I⟩ := hrel
    have HK := Lib.hid hk
    have hok := B.stN_okay (S.lds P) us k
    by_cases hlt : k < us.length
    · clear hk
      have hltI : (k : Int) < (us.length : Int) := by omega
      obtain ⟨bA, oA, rfl, hbA, f⟩ := (hu.below I.below).at_ hlt
      have hu9 := hs us[k] (List.getElem_mem hlt)
      have HN := Lib.hid (stN_at (S.lds P) us hlt)
      have HSM : Hid (∀ x ∈ (B.stN (S.lds P) us k).strands, x ≤ 1000) := Lib.hid (fun x hx => hs x (strands_mem (S.lds P) us k (by omega) x hx))
      generalize us[k] = u at *
      generalize B.stN (S.lds P) us k = st at *
      have hsz := I.below.size
      have hbA2 : bA < wr.heap.size := by omega
      have hst9 : st.strands.length ≤ 100 := by have := hok.str; omega
      have hrk9 : st.ranks.length ≤ 100 := by have := hok.len; omega
      have hmo : ∀ x, st.most x ≤ 100 := fun x => by have := hok.most x; omega
      have HMO := Lib.hid hmo
      clear hmo
      obtain ⟨W1, rfl⟩ : ∃ W1, W1 = wr := ⟨wr, rfl⟩
      obtain ⟨G0, rfl⟩ : ∃ G0, G0 = gk := ⟨gk, rfl⟩
      go_wp2_with fail
      go_loopg [10, 26] st.strands.length (fun gk s10 s26 wr => ∃ (j : Nat), j + gk = st.strands.length ∧ s10 = .int .i64 ((B.bestFrom (S.lds P) st.most u (st.strands.take j) 0 : Nat) : Int) ∧ s26 = .int .i64 j ∧ RkI w wr st k w.heap.size (.slice AR st.ranks.length cR) (.slice AS st.strands.length cS) vs)
      case atStart => exact ⟨0, by omega, rfl, rfl, I⟩
      case round =>
        obtain ⟨j, hj, rfl, rfl, I2⟩ := hrel
        clear f I
        have HJ := Lib.hid hj
        by_cases hltj : j < st.strands.length
        · clear hj
          have hltJ : (j : Int) < (st.strands.length : Int) := by omega
          have rS := Rd.of_own I2.str
          obtain ⟨bS, oS, rfl, hbS, fS⟩ := rS.at_ (ns_at st.strands j hltj)
          have rP := (hr.below I2.below).more I2.below.size
          have hx9 := HSM.out _ (List.getElem_mem hltj)
          have HBT := Lib.hid (B.bestFrom_take (le := S.lds P) (most := st.most) (u := u) st.strands hltj)
          have hbf : B.bestFrom (S.lds P) st.most u (st.strands.take j) 0 ≤ 100 := B.bestFrom_le HMO.out _ _ (Nat.zero_le _)
          have hmx := HMO.out (st.strands[j])
          generalize st.strands[j] = x at *
          generalize B.bestFrom (S.lds P) st.most u (st.strands.take j) 0 = r0 at *
          clear rS
          go_wp2_with (go_at_call 22; refine (leads_any P _ _ x u _ rP hP).mono ?_)
          rintro e3 w3 ⟨rfl, b3⟩
          have I3 := I2.on b3
          clear I2 fS rP b3 hbS
          cases hle : S.lds P x u
          · rw [hle] at HBT
            have HB2 := Lib.hid (HBT.out.trans (if_neg (by decide)))
            clear hle HBT
            go_wp2_with fail
            go_roundg (gk - 1)
            case measure => have := HJ.out; omega
            case rel => exact ⟨j + 1, by have := HJ.out; omega, by rw [HB2.out], by go_num, I3⟩
          · rw [hle] at HBT
            have HB2 := Lib.hid (HBT.out.trans (if_pos rfl))
            have hlk := I3.map.look hx9
            clear hle HBT
            generalize st.most x = mx at *
            go_wp2_with fail
            all_goals
              go_roundg (gk - 1)
              case measure => have := HJ.out; omega
              case rel => exact ⟨j + 1, by have := HJ.out; omega, by rw [HB2.out]; congr 1; omega, by go_num, I3⟩
        · have HR : Hid (B.bestFrom (S.lds P) st.most u (st.strands.take j) 0 = st.rank (S.lds P) u) := Lib.hid (by rw [List.take_of_length_le (by omega)]; rfl)
          have hrk := hok.rank (S.lds P) u
          rw [HR.out]
          have hlk := I2.map.look hu9
          clear hj
          generalize hrg : st.rank (S.lds P) u = r at *
          have HRG := Lib.hid hrg
          clear hrg
          have HMU := HMO.out u
          go_upto_if 43 with (fail)
          go_cut [6] (fun s6 wx => ∃ (AS2 : Option Addr) (cS2 : Nat) (str : List Nat), s6 = .slice AS2 str.length cS2 ∧ str.length ≤ 101 ∧ Hid (str = if st.most u = 0 then st.strands ++ [u] else st.strands) ∧ RkI w wx ⟨str, st.most, st.ranks⟩ k w.heap.size (.slice AR st.ranks.length cR) s6 vs)
          case first =>
            by_cases h0 : st.most u = 0
            · have HS0 : Hid (st.strands ++ [u] = if st.most u = 0 then st.strands ++ [u] else st.strands) := Lib.hid (by rw [if_pos h0])
              have q0 : (((st.most u : Nat) : Int) == 0) = true := by simpa using h0
              have hs2 := I2.below.size
              clear h0 hlk HR HRG
              go_wp2_with (at_builtin; refine wpList_append_own_at _ rfl (.tmp 44) (.tmp 46) 23 rfl w.heap.size 3 i0 _ 1 8 Try.underlying23 hi hz0 hz1 hz2 rfl (by omega) _ _ _ rfl (I2.str.alloc _) ⟨wr.heap.size, 0, none⟩ 1 1 [.int .i64 (u : Int)] rfl rfl ?c1 ?c2 ?c3 ?c4 ?c5 ?_)
              (first | (case c1 => exact cell_one_new _ _ _) | skip)
              (first | (case c2 => simp [Value.oneCell']) | skip)
              (first | (case c3 => simp only [maxLen]; omega) | skip)
              (first | (case c4 => omega) | skip)
              (first | (case c5 => omega) | (case c5 => simp; omega) | skip)
              intro v4 w4 ho4 hg4 _ hat4
              obtain ⟨A4, q4, hv4⟩ := own_formk ho4
              subst hv4
              have I4 := I2.addS hg4 ho4 (by simpa using hat4)
              clear ho4 hg4 hat4 I2
              go_wp2_with fail
              go_meet
              exact ⟨A4, q4, st.strands ++ [u], by simp, by simp; omega, HS0, I4⟩
            · have HS0 : Hid (st.strands = if st.most u = 0 then st.strands ++ [u] else st.strands) := Lib.hid (by rw [if_neg h0])
              have q0 : (((st.most u : Nat) : Int) == 0) = false := beq_false_of_ne (by omega)
              clear h0 hlk HR HRG
              go_wp2_with fail
              go_meet
              exact ⟨AS, cS, st.strands, rfl, by omega, HS0, I2⟩
          case rest =>
            obtain ⟨AS2, cS2, str, rfl, hstr, HSTR, I4⟩ := hcut
            clear I2 hlk HR HMU
            obtain ⟨w5, hrun, hm5, hg5⟩ := I4.map.upd (s := u) (v := r + 1) (by omega) hu9 (by omega)
            have I5 := I4.put hg5 hm5
            have hrun2 : (Instr.mapUpdate 82 (.map (some w.heap.size)) (.int .i64 (u : Int)) (.int .i64 ((r : Int) + 1))).run Try.prog wc = .ok () w5 := hrun
            have HMST : Hid ((fun x => if x = u then r + 1 else st.most x) = (st.step (S.lds P) k u).most) := Lib.hid (by rw [← HRG.out]; rfl)
            clear hrun hm5 hg5 I4
            generalize (fun x => if x = u then r + 1 else st.most x) = most2 at *
            go_upto_if 55 with (fail)
            go_cut [5] (fun s5 wx => ∃ (AR2 : Option Addr) (cR2 : Nat) (L : List (List Nat)) (vs2 : List Value), s5 = .slice AR2 L.length cR2 ∧ L.length ≤ 101 ∧ r < L.length ∧ Hid (∀ h : r < L.length, L.set r (L[r] ++ [k]) = B.addAt st.ranks r k ∧ L[r].length ≤ k) ∧ RkI w wx ⟨str, most2, L⟩ (k + 1) w.heap.size s5 (.slice AS2 str.length cS2) vs2)
            case first =>
              by_cases h0 : r = st.ranks.length
              · have HL : Hid (∀ h : r < (st.ranks ++ [[]]).length, (st.ranks ++ [[]]).set r ((st.ranks ++ [[]])[r] ++ [k]) = B.addAt st.ranks r k ∧ (st.ranks ++ [[]])[r].length ≤ k) := Lib.hid (fun h => by
                  subst h0
                  unfold B.addAt
                  rw [if_pos rfl]
                  simp)
                have q0 : ((r : Int) == (st.ranks.length : Int)) = true := by rw [h0]; simp
                have q1 : (r == st.ranks.length) = true := by simpa using h0
                have hs2 := I5.below.size
                obtain ⟨i1, hi1, hy0, hy1, hy2⟩ := info_parts info_row
                have H0 := Lib.hid h0
                clear h0 hrun2 HRG HMST HSTR
                go_wp2_with (at_builtin; refine wpList_append_own_at _ rfl (.tmp 56) (.tmp 57) 27 rfl w.heap.size 23 i1 _ 1 24 Try.underlying27 hi1 hy0 hy1 hy2 rfl (by omega) _ _ _ rfl (I5.out.alloc _) ⟨w5.heap.size, 0, none⟩ 1 1 [.slice none 0 0] rfl rfl ?d1 ?d2 ?d3 ?d4 ?d5 ?_)
                (first | (case d1 => exact cell_one_new _ _ _) | skip)
                (first | (case d2 => simp [Value.oneCell']) | skip)
                (first | (case d3 => simp only [maxLen]; omega) | skip)
                (first | (case d4 => omega) | skip)
                (first | (case d5 => omega) | (case d5 => simp; omega) | skip)
                intro v6 w6 ho6 hg6 _ hat6
                obtain ⟨A6, q6, hv6⟩ := own_formk ho6
                subst hv6
                have I6 := I5.addR hg6 ho6
                clear ho6 hg6 hat6 I5
                go_wp2_with fail
                go_meet
                exact ⟨A6, q6, st.ranks ++ [[]], vs ++ [.slice none 0 0], by simp, by simp; omega, by have := H0.out; simp; omega, HL, I6⟩
              · have HL : Hid (∀ h : r < st.ranks.length, st.ranks.set r (st.ranks[r] ++ [k]) = B.addAt st.ranks r k ∧ st.ranks[r].length ≤ k) := Lib.hid (fun h => by
                  refine ⟨?_, hok.rows _ (List.getElem_mem h)⟩
                  unfold B.addAt
                  rw [if_neg h0, List.getD_eq_getElem?_getD, List.getElem?_eq_getElem h, Option.getD_some])
                have q0 : ((r : Int) == (st.ranks.length : Int)) = false := beq_false_of_ne (by omega)
                have q1 : (r == st.ranks.length) = false := by simpa using h0
                have hr2 : r < st.ranks.length := by omega
                clear h0 hrun2 HRG HMST HSTR
                go_wp2_with fail
                go_meet
                exact ⟨AR, cR, st.ranks, vs, rfl, by omega, hr2, HL, I5⟩
            case rest =>
              obtain ⟨AR2, cR2, L, vs2, rfl, hL9, hrL, HL, I6⟩ := hcut
              clear I5 hrun2
              obtain ⟨gR, capR, hvR, _, _⟩ := I6.out.form (by show 0 < L.length; omega)
              simp only [Value.slice.injEq, true_and] at hvR
              obtain ⟨rfl, rfl⟩ := hvR
              obtain ⟨hv2, orow⟩ := I6.row hrL
              obtain ⟨HL1, HL2⟩ := HL.out hrL
              have HL3 := Lib.hid HL1
              obtain ⟨Ar, cr, hvr⟩ := own_formk orow
              have cO := World.ownsRow.cellAt I6.out r (by show r < L.length * 1; omega)
              rw [List.getElem?_eq_getElem hv2, hvr] at cO
              have hs2 := I6.below.size
              have hgRl : gR < wc.heap.size := (I6.out.lt gR rfl).2
              have hrLI : (r : Int) < (L.length : Int) := by omega
              have HVR := Lib.hid hvr
              rw [hvr] at orow
              have orow2 : wc.ownsRow w.heap.size 3 1 (.slice Ar L[r].length cr) L[r].length (ns L[r]) := orow
              have hlr : L[r].length ≤ 200 := by omega
              clear HL HL1 HL2 hvr orow
              generalize hR : L[r] = R at *
              have HR := Lib.hid hR
              clear hR
              go_wp2_with (at_builtin; refine wpList_append_own_at _ rfl (.tmp 64) (.tmp 66) 23 rfl w.heap.size 3 i0 _ 1 8 Try.underlying23 hi hz0 hz1 hz2 rfl (by omega) _ _ _ rfl (orow2.alloc _) ⟨wc.heap.size, 0, none⟩ 1 1 [.int .i64 (k : Int)] rfl rfl ?e1 ?e2 ?e3 ?e4 ?e5 ?_)
              (first | (case e1 => exact cell_one_new _ _ _) | skip)
              (first | (case e2 => simp [Value.oneCell']) | skip)
              (first | (case e3 => simp only [maxLen]; omega) | skip)
              (first | (case e4 => omega) | skip)
              (first | (case e5 => omega) | (case e5 => simp; omega) | skip)
              intro v7 w7 ho7 hg7 _ hat7
              obtain ⟨A7, q7, hv7⟩ := own_formk ho7
              subst hv7
              obtain ⟨c7, f7, I7⟩ : w7.cell? ⟨gR, r, none⟩ = some (.slice Ar R.length cr) ∧ w7.frozen? ⟨gR, r, none⟩ = false ∧ RkI w (w7.setCell ⟨gR, r, none⟩ (.slice A7 (R.length + 1) q7)) ⟨str, most2, L.set r (R ++ [k])⟩ (k + 1) w.heap.size (.slice (some ⟨gR, 0, none⟩) L.length cR2) (.slice AS2 str.length cS2) (vs2.set r (.slice A7 (R.length + 1) q7)) := by
                have hR := HR.out
                have hvr := HVR.out
                subst hR
                rw [← hvr] at hg7 hat7
                have h9 := RkI.grow I6 hrL (hv := hv2) hg7 ho7 (by simpa using hat7)
                rw [hvr] at h9
                exact h9
              have hgR7 : gR < w7.heap.size := World.block_lt_of_cell? w7 _ c7
              clear ho7 hg7 hat7 I6 cO orow2 HVR HR
              go_wp2_with fail
              go_roundg (G0 - 1)
              case measure => have := HK.out; omega
              case rel =>
                have e1 : B.stN (S.lds P) us (k + 1) = ⟨str, most2, L.set r (R ++ [k])⟩ := by
                  rw [HN.out, HSTR.out, HMST.out, HL3.out, ← HRG.out]; rfl
                exact ⟨k + 1, _, some ⟨gR, 0, none⟩, AS2, cR2, cS2, by have := HK.out; omega, by go_num, by rw [e1]; simp, by rw [e1], by rw [e1]; exact I7⟩
    · obtain rfl : k = us.length := by omega
      obtain rfl : gk = 0 := by omega
      clear hk
      go_wp2_with fail
      go_ret
      have f := I.fam
      have hl2 := I.vslen
      refine ⟨_, vs, rfl, I.out, ⟨hl2, fun r hr => (I.row hr).2, fun i j hi hj hij => ?_⟩, I.below⟩
      exact f.dis (i + 1) (j + 1) (by simp; omega) (by simp; omega) (by omega)
end Go.Proofs.Ytahhihhfjimppaa
/- plain: ranks, and the chain of them -/
namespace Go.Proofs.Ytahhihhfjimppaa.B
set_option linter.unusedSimpArgs false
set_option linter.unusedVariables false

theorem best_ge {le : Nat → Nat → Bool} {most : Nat → Nat} {u : Nat} : ∀ (l : List Nat) (r : Nat), r ≤ bestFrom le most u l r := by
  intro l
  induction l with
  | nil => intro r; exact Nat.le_refl _
  | cons s l ih =>
    intro r
    refine Nat.le_trans ?_ (ih (if le s u then max r (most s) else r))
    split <;> omega
theorem best_all {le : Nat → Nat → Bool} {most : Nat → Nat} {u : Nat} : ∀ (l : List Nat) (r : Nat), ∀ s ∈ l, le s u = true → most s ≤ bestFrom le most u l r := by
  intro l
  induction l with
  | nil => intro r s hs; simp at hs
  | cons t l ih =>
    intro r s hs hle
    rcases List.mem_cons.1 hs with rfl | hs
    · refine Nat.le_trans ?_ (best_ge l (if le s u then max r (most s) else r))
      rw [hle]; simp; omega
    · exact ih _ s hs hle
theorem best_some {le : Nat → Nat → Bool} {most : Nat → Nat} {u : Nat} : ∀ (l : List Nat) (r : Nat), bestFrom le most u l r = r ∨ ∃ s ∈ l, le s u = true ∧ most s = bestFrom le most u l r := by
  intro l
  induction l with
  | nil => intro r; exact .inl rfl
  | cons t l ih =>
    intro r
    have e : bestFrom le most u (t :: l) r = bestFrom le most u l (if le t u then max r (most t) else r) := rfl
    rw [e]
    rcases ih (if le t u then max r (most t) else r) with h | ⟨s, hs, h1, h2⟩
    · rw [h]
      cases hle : le t u
      · simp
      · rcases Nat.le_total r (most t) with hm | hm
        · exact .inr ⟨t, by simp, hle, by simp; omega⟩
        · left; simp; omega
    · exact .inr ⟨s, by simp [hs], h1, h2⟩

/-- the rank of a use -/
def rk (le : Nat → Nat → Bool) (us : List Nat) (i : Nat) : Nat := (stN le us i).rank le (us.getD i 0)
def su (us : List Nat) (i : Nat) : Nat := us.getD i 0
/-- what holds of the ranks of k uses -/
structure Inv (le : Nat → Nat → Bool) (us : List Nat) (k : Nat) (st : RS) : Prop where
  rows : ∀ r, r < st.ranks.length → st.ranks.getD r [] = (List.range k).filter (fun i => decide (rk le us i = r))
  lt : ∀ i, i < k → rk le us i < st.ranks.length
  all : ∀ r, r < st.ranks.length → ∃ i, i < k ∧ rk le us i = r
  up : ∀ i, i < k → rk le us i < st.most (su us i)
  some : ∀ x, 0 < st.most x → ∃ i, i < k ∧ su us i = x ∧ rk le us i + 1 = st.most x
  str : ∀ x, x ∈ st.strands ↔ 0 < st.most x
  r1 : ∀ i, i < k → ∀ j, j < i → le (su us j) (su us i) = true → rk le us j < rk le us i
  r2 : ∀ i, i < k → 0 < rk le us i → ∃ j, j < i ∧ le (su us j) (su us i) = true ∧ rk le us j + 1 = rk le us i
theorem getD_set_self {α} (L : List α) (r : Nat) (x d : α) (h : r < L.length) : (L.set r x).getD r d = x := by
  rw [List.getD_eq_getElem?_getD, List.getElem?_set, if_pos rfl, if_pos h]; rfl
theorem getD_set_ne {α} (L : List α) (r i : Nat) (x d : α) (h : i ≠ r) : (L.set r x).getD i d = L.getD i d := by
  rw [List.getD_eq_getElem?_getD, List.getElem?_set, if_neg (fun e => h e.symm), List.getD_eq_getElem?_getD]
theorem inv_stN (le : Nat → Nat → Bool) (hrefl : ∀ x, le x x = true) (us : List Nat) : ∀ k, Inv le us k (stN le us k) := by
  intro k
  induction k with
  | zero =>
    exact ⟨fun r h => by simp [stN, init] at h, fun i h => by omega, fun r h => by simp [stN, init] at h, fun i h => by omega, fun x h => by simp [stN, init] at h, fun x => by simp [stN, init], fun i h => by omega, fun i h => by omega⟩
  | succ k ih =>
    have hs : stN le us (k + 1) = (stN le us k).step le k (su us k) := rfl
    have hrk : (stN le us k).rank le (su us k) = rk le us k := rfl
    rw [hs]
    have hok := (stN_okay le us k).rank le (su us k)
    rw [hrk] at hok
    generalize stN le us k = st at *
    have hst : st.step le k (su us k) = ⟨if st.most (su us k) = 0 then st.strands ++ [su us k] else st.strands, fun x => if x = su us k then rk le us k + 1 else st.most x, addAt st.ranks (rk le us k) k⟩ := by rw [← hrk]; rfl
    rw [hst]
    have hall : ∀ j, j < k → le (su us j) (su us k) = true → rk le us j < rk le us k := by
      intro j hj hle
      have h1 := ih.up j hj
      have h2 : su us j ∈ st.strands := (ih.str _).2 (by omega)
      have h3 := best_all (le := le) (most := st.most) (u := su us k) st.strands 0 _ h2 hle
      have h4 : bestFrom le st.most (su us k) st.strands 0 = rk le us k := hrk
      omega
    have hsome : 0 < rk le us k → ∃ j, j < k ∧ le (su us j) (su us k) = true ∧ rk le us j + 1 = rk le us k := by
      intro hp
      have h4 : bestFrom le st.most (su us k) st.strands 0 = rk le us k := hrk
      rcases best_some (le := le) (most := st.most) (u := su us k) st.strands 0 with h | ⟨s, hs, h1, h2⟩
      · omega
      · obtain ⟨i, hi, e1, e2⟩ := ih.some s ((ih.str s).1 hs)
        exact ⟨i, hi, by rw [e1]; exact h1, by omega⟩
    constructor
    · intro r hr
      show (addAt st.ranks (rk le us k) k).getD r [] = _
      have hr : r < (addAt st.ranks (rk le us k) k).length := hr
      rw [addAt_length] at hr
      rw [List.range_succ, List.filter_append]
      unfold addAt
      by_cases h : rk le us k = st.ranks.length
      · rw [if_pos h] at hr ⊢
        by_cases hr2 : r < st.ranks.length
        · rw [List.getD_eq_getElem?_getD, List.getElem?_append_left hr2, ← List.getD_eq_getElem?_getD, ih.rows r hr2]
          have : [k].filter (fun i => decide (rk le us i = r)) = [] := by simp; omega
          rw [this, List.append_nil]
        · obtain rfl : r = st.ranks.length := by omega
          have e1 : (List.range k).filter (fun i => decide (rk le us i = st.ranks.length)) = [] := by
            rw [List.filter_eq_nil_iff]
            intro i hi
            have := ih.lt i (List.mem_range.1 hi)
            simp; omega
          have e2 : [k].filter (fun i => decide (rk le us i = st.ranks.length)) = [k] := by simp [h]
          rw [e1, e2]
          simp
      · rw [if_neg h] at hr ⊢
        by_cases hr2 : r = rk le us k
        · subst hr2
          have e2 : [k].filter (fun i => decide (rk le us i = rk le us k)) = [k] := by simp
          rw [getD_set_self _ _ _ _ hr, ih.rows _ hr, e2]
        · have e2 : [k].filter (fun i => decide (rk le us i = r)) = [] := by simp; omega
          rw [getD_set_ne _ _ _ _ _ hr2, ih.rows _ hr, e2, List.append_nil]
    · intro i hi
      show _ < (addAt st.ranks (rk le us k) k).length
      rw [addAt_length]
      by_cases h : i = k
      · subst h; split <;> omega
      · have := ih.lt i (by omega)
        split <;> omega
    · intro r hr
      have hr : r < (addAt st.ranks (rk le us k) k).length := hr
      rw [addAt_length] at hr
      by_cases h : rk le us k = r
      · exact ⟨k, by omega, h⟩
      · have : r < st.ranks.length := by split at hr <;> omega
        obtain ⟨i, h1, h2⟩ := ih.all r this
        exact ⟨i, by omega, h2⟩
    · intro i hi
      show _ < (if su us i = su us k then rk le us k + 1 else st.most (su us i))
      by_cases h : i = k
      · subst h; rw [if_pos rfl]; omega
      · have h1 := ih.up i (by omega)
        split
        · rename_i e
          have := hall i (by omega) (by rw [e]; exact hrefl _)
          omega
        · exact h1
    · intro x hx
      have hx : 0 < (if x = su us k then rk le us k + 1 else st.most x) := hx
      show ∃ i, i < k + 1 ∧ su us i = x ∧ rk le us i + 1 = (if x = su us k then rk le us k + 1 else st.most x)
      by_cases h : x = su us k
      · rw [if_pos h]; exact ⟨k, by omega, h.symm, rfl⟩
      · rw [if_neg h] at hx ⊢
        obtain ⟨i, h1, h2, h3⟩ := ih.some x hx
        exact ⟨i, by omega, h2, h3⟩
    · intro x
      show x ∈ (if st.most (su us k) = 0 then st.strands ++ [su us k] else st.strands) ↔ 0 < (if x = su us k then rk le us k + 1 else st.most x)
      have h1 := ih.str x
      by_cases h : x = su us k
      · rw [if_pos h]
        subst h
        split
        · simp
        · rw [h1]; omega
      · rw [if_neg h]
        split
        · simp [h, h1]
        · exact h1
    · intro i hi j hj hle
      by_cases h : i = k
      · subst h; exact hall j hj hle
      · exact ih.r1 i (by omega) j hj hle
    · intro i hi hp
      by_cases h : i = k
      · subst h; exact hsome hp
      · exact ih.r2 i (by omega) hp

/-! ### the chain -/
def pick (le : Nat → Nat → Bool) (us : List Nat) (next : Nat) (row : List Nat) : Option Nat := row.find? (fun i => decide (i < next) && le (su us i) (su us next))
def chainFrom (le : Nat → Nat → Bool) (us : List Nat) (L : List (List Nat)) : Nat → Nat → List Nat → List Nat
  | 0, _, pl => pl
  | k + 1, next, pl => match pick le us next (L.getD k []) with
    | some i => chainFrom le us L k i (pl ++ [i])
    | none => chainFrom le us L k next pl
def chain (le : Nat → Nat → Bool) (us : List Nat) : List Nat :=
  let L := (stN le us us.length).ranks
  if L.length = 0 then [] else
    let n := (L.getD (L.length - 1) []).headD 0
    (chainFrom le us L (L.length - 1) n [n]).reverse

theorem pick_some {le : Nat → Nat → Bool} {us : List Nat} {N next k : Nat} {st : RS} (I : Inv le us N st) (hn : next < N) (hk : rk le us next = k + 1) :
    ∃ i, pick le us next (st.ranks.getD k []) = some i ∧ i < next ∧ le (su us i) (su us next) = true ∧ rk le us i = k := by
  obtain ⟨j, h1, h2, h3⟩ := I.r2 next hn (by omega)
  have hkl : k < st.ranks.length := by have := I.lt next hn; omega
  unfold pick
  rw [I.rows k hkl]
  have hex : ((List.range N).filter (fun i => decide (rk le us i = k))).find? (fun i => decide (i < next) && le (su us i) (su us next)) ≠ none := by
    intro h
    rw [List.find?_eq_none] at h
    have hm : j ∈ (List.range N).filter (fun i => decide (rk le us i = k)) := by
      rw [List.mem_filter]
      exact ⟨List.mem_range.2 (by omega), by simp; omega⟩
    have := h j hm
    simp [h1, h2] at this
  obtain ⟨i, hi⟩ := Option.ne_none_iff_exists'.1 hex
  refine ⟨i, hi, ?_⟩
  have hp := List.find?_some hi
  have hm := List.mem_of_find?_eq_some hi
  rw [List.mem_filter] at hm
  simp only [Bool.and_eq_true, decide_eq_true_eq] at hp
  exact ⟨hp.1, hp.2, by simpa using hm.2⟩
/-- a chain, from its end on -/
def Down (le : Nat → Nat → Bool) (us : List Nat) : Nat → List Nat → Prop
  | _, [] => True
  | next, i :: l => i < next ∧ le (su us i) (su us next) = true ∧ rk le us i + 1 = rk le us next ∧ Down le us i l
theorem chainFrom_eq {le : Nat → Nat → Bool} {us : List Nat} {N : Nat} {st : RS} (I : Inv le us N st) : ∀ (k next : Nat) (pl : List Nat), next < N → rk le us next = k →
    ∃ l, chainFrom le us st.ranks k next pl = pl ++ l ∧ l.length = k ∧ Down le us next l := by
  intro k
  induction k with
  | zero => intro next pl _ _; exact ⟨[], by simp [chainFrom], rfl, trivial⟩
  | succ k ih =>
    intro next pl hn hk
    obtain ⟨i, h1, h2, h3, h4⟩ := pick_some I hn hk
    obtain ⟨l, e1, e2, e3⟩ := ih i (pl ++ [i]) (by omega) h4
    refine ⟨i :: l, ?_, by simp [e2], ?_⟩
    · rw [chainFrom, h1]
      show chainFrom le us st.ranks k i (pl ++ [i]) = _
      rw [e1]; simp
    · exact ⟨h2, h3, by omega, e3⟩
theorem down_at {le : Nat → Nat → Bool} {us : List Nat} : ∀ (l : List Nat) (next : Nat), Down le us next l → ∀ t (h : t < l.length), rk le us l[t] + (t + 1) = rk le us next ∧ l[t] < next := by
  intro l
  induction l with
  | nil => intro next _ t h; simp at h
  | cons i l ih =>
    intro next hd t h
    cases t with
    | zero => exact ⟨hd.2.2.1, hd.1⟩
    | succ t =>
      have := ih i hd.2.2.2 t (by simpa using h)
      have h1 := hd.1
      have h2 := hd.2.2.1
      simp only [List.getElem_cons_succ]
      omega
theorem down_two {le : Nat → Nat → Bool} {us : List Nat} : ∀ (l : List Nat) (next : Nat), Down le us next l → ∀ t (h : t + 1 < (next :: l).length), (next :: l)[t + 1] < (next :: l)[t] ∧ le (su us (next :: l)[t + 1]) (su us (next :: l)[t]) = true := by
  intro l
  induction l with
  | nil => intro next _ t h; simp at h
  | cons i l ih =>
    intro next hd t h
    cases t with
    | zero => exact ⟨hd.1, hd.2.1⟩
    | succ t => exact ih i hd.2.2.2 t (by simpa using h)
/-- what the chain is -/
structure IsChain (le : Nat → Nat → Bool) (us : List Nat) (C : List Nat) : Prop where
  len : C.length = (stN le us us.length).ranks.length
  lt : ∀ t (h : t < C.length), C[t] < us.length
  rank : ∀ t (h : t < C.length), rk le us C[t] = t
  up : ∀ t (h : t + 1 < C.length), C[t] < C[t + 1] ∧ le (su us C[t]) (su us C[t + 1]) = true
theorem chain_is (le : Nat → Nat → Bool) (hrefl : ∀ x, le x x = true) (us : List Nat) : IsChain le us (chain le us) := by
  have I := inv_stN le hrefl us us.length
  unfold chain
  dsimp only
  generalize hst : stN le us us.length = st at *
  by_cases h0 : st.ranks.length = 0
  · rw [if_pos h0]
    exact ⟨by simp [hst, h0], fun t h => by simp at h, fun t h => by simp at h, fun t h => by simp at h⟩
  · rw [if_neg h0]
    obtain ⟨j, hj, hrj⟩ := I.all (st.ranks.length - 1) (by omega)
    have hrow := I.rows (st.ranks.length - 1) (by omega)
    obtain ⟨n, l0, hnl⟩ : ∃ n l0, st.ranks.getD (st.ranks.length - 1) [] = n :: l0 := by
      cases h : st.ranks.getD (st.ranks.length - 1) [] with
      | nil =>
        rw [h] at hrow
        have : j ∈ (List.range us.length).filter (fun i => decide (rk le us i = st.ranks.length - 1)) := by
          rw [List.mem_filter]; exact ⟨List.mem_range.2 hj, by simp [hrj]⟩
        rw [← hrow] at this
        simp at this
      | cons n l0 => exact ⟨n, l0, rfl⟩
    have hn : n ∈ (List.range us.length).filter (fun i => decide (rk le us i = st.ranks.length - 1)) := by rw [← hrow, hnl]; simp
    rw [List.mem_filter] at hn
    have hn1 : n < us.length := List.mem_range.1 hn.1
    have hn2 : rk le us n = st.ranks.length - 1 := by simpa using hn.2
    rw [hnl]
    show IsChain le us (chainFrom le us st.ranks (st.ranks.length - 1) n [n]).reverse
    obtain ⟨l, e1, e2, e3⟩ := chainFrom_eq I (st.ranks.length - 1) n [n] hn1 hn2
    rw [e1]
    have hl : ([n] ++ l).length = st.ranks.length := by simp; omega
    have hat : ∀ t (h : t < (n :: l).length), rk le us (n :: l)[t] + t = st.ranks.length - 1 ∧ (n :: l)[t] < us.length := by
      intro t h
      cases t with
      | zero => simp [hn2, hn1]
      | succ t =>
        have := down_at l n e3 t (by simpa using h)
        simp only [List.getElem_cons_succ]
        omega
    refine ⟨by rw [List.length_reverse, hl, hst], fun t h => ?_, fun t h => ?_, fun t h => ?_⟩
    · rw [List.getElem_reverse]
      exact (hat _ (by rw [List.length_reverse] at h; simp at h ⊢; omega)).2
    · rw [List.length_reverse] at h
      rw [List.getElem_reverse]
      have := (hat (([n] ++ l).length - 1 - t) (by simp; omega)).1
      have e : ([n] ++ l)[([n] ++ l).length - 1 - t]'(by omega) = (n :: l)[([n] ++ l).length - 1 - t]'(by simp; omega) := rfl
      rw [e]
      omega
    · rw [List.length_reverse] at h
      rw [List.getElem_reverse, List.getElem_reverse]
      have hh := down_two l n e3 (([n] ++ l).length - 1 - (t + 1)) (by simp at h ⊢; omega)
      have e : ([n] ++ l).length - 1 - (t + 1) + 1 = ([n] ++ l).length - 1 - t := by omega
      simp only [e] at hh
      exact hh
end Go.Proofs.Ytahhihhfjimppaa.B
/- plain: what Chain answers -/
namespace Go.Proofs.Ytahhihhfjimppaa.B
set_option linter.unusedSimpArgs false
set_option linter.unusedVariables false

theorem inj_le : ∀ (M N : Nat) (f : Nat → Nat), (∀ i, i < N → f i < M) → (∀ i j, i < j → j < N → f i ≠ f j) → N ≤ M := by
  intro M
  induction M with
  | zero =>
    intro N f h _
    cases N with
    | zero => exact Nat.le_refl _
    | succ N => have := h 0 (by omega); omega
  | succ M ih =>
    intro N f h hi
    by_cases hex : ∃ i, i < N ∧ f i = M
    · obtain ⟨i0, h0, e0⟩ := hex
      have := ih (N - 1) (fun i => if i < i0 then f i else f (i + 1)) (fun i hi2 => ?_) (fun i j hij hj => ?_)
      · omega
      · show (if i < i0 then f i else f (i + 1)) < M
        split
        · rename_i hlt
          have h1 := h i (by omega)
          have h2 := hi i i0 hlt h0
          omega
        · have h1 := h (i + 1) (by omega)
          have h2 := hi i0 (i + 1) (by omega) (by omega)
          omega
      · show (if i < i0 then f i else f (i + 1)) ≠ (if j < i0 then f j else f (j + 1))
        split <;> split
        · exact hi i j hij (by omega)
        · exact hi i (j + 1) (by omega) (by omega)
        · omega
        · exact hi (i + 1) (j + 1) (by omega) (by omega)
    · have := ih N f (fun i hi2 => by
        have h1 := h i hi2
        have h2 : f i ≠ M := fun e => hex ⟨i, hi2, e⟩
        omega) hi
      omega
theorem su_at {us : List Nat} {i : Nat} (h : i < us.length) : su us i = us[i] := by unfold su; rw [List.getD_eq_getElem?_getD, List.getElem?_eq_getElem h]; rfl
section
variable {le : Nat → Nat → Bool} {us C : List Nat}
theorem work_le (hrefl : ∀ x, le x x = true) (hc : IsChain le us C) {n : Nat} (hn : ∀ u ∈ us, u < n) : us.length ≤ n * C.length := by
  have I := inv_stN le hrefl us us.length
  have hl := hc.len
  refine inj_le (n * C.length) us.length (fun i => su us i * C.length + rk le us i) (fun i hi => ?_) (fun i j hij hj => ?_)
  · have h1 := I.lt i hi
    have h2 := hn us[i] (List.getElem_mem hi)
    rw [← su_at hi] at h2
    show su us i * C.length + rk le us i < n * C.length
    have h3 : (su us i + 1) * C.length ≤ n * C.length := Nat.mul_le_mul_right _ h2
    rw [Nat.add_mul, Nat.one_mul] at h3
    omega
  · show su us i * C.length + rk le us i ≠ su us j * C.length + rk le us j
    intro e
    have h1 := I.lt i (by omega)
    have h2 := I.lt j hj
    rw [← hl] at h1 h2
    have hs : su us i = su us j := by
      have a : (su us i * C.length + rk le us i) / C.length = su us i := by rw [Nat.mul_comm, Nat.mul_add_div (by omega), Nat.div_eq_of_lt h1, Nat.add_zero]
      have b : (su us j * C.length + rk le us j) / C.length = su us j := by rw [Nat.mul_comm, Nat.mul_add_div (by omega), Nat.div_eq_of_lt h2, Nat.add_zero]
      rw [← a, e, b]
    have := I.r1 j hj i hij (by rw [hs]; exact hrefl _)
    rw [hs] at e
    omega
theorem chain_le (hc : IsChain le us C) : C.length ≤ us.length := by rw [hc.len]; exact (stN_okay le us us.length).len
theorem chain_pos (hrefl : ∀ x, le x x = true) (hc : IsChain le us C) : 0 < C.length ↔ 0 < us.length := by
  have I := inv_stN le hrefl us us.length
  have h1 := chain_le hc
  refine ⟨fun h => by omega, fun h => ?_⟩
  have := I.lt 0 h
  rw [hc.len]; omega
theorem none_ahead (hrefl : ∀ x, le x x = true) (hc : IsChain le us C) (h0 : 0 < C.length) {i : Nat} (hi : i < C[0]) : le (su us i) (su us C[0]) = false := by
  have I := inv_stN le hrefl us us.length
  cases h : le (su us i) (su us C[0])
  · rfl
  · have h1 := I.r1 C[0] (hc.lt 0 h0) i hi h
    have h2 := hc.rank 0 h0
    omega
theorem rk_lt (hrefl : ∀ x, le x x = true) (hc : IsChain le us C) {i : Nat} (hi : i < us.length) : rk le us i < C.length := by
  rw [hc.len]; exact (inv_stN le hrefl us us.length).lt i hi
theorem rk_up (hrefl : ∀ x, le x x = true) {i j : Nat} (hij : i < j) (hj : j < us.length) (h : le (su us i) (su us j) = true) : rk le us i < rk le us j := (inv_stN le hrefl us us.length).r1 j hj i hij h
end
/-- of one use more -/
theorem stN_more (le : Nat → Nat → Bool) (us : List Nat) (u : Nat) : ∀ k, k ≤ us.length → stN le (us ++ [u]) k = stN le us k := by
  intro k
  induction k with
  | zero => intro _; rfl
  | succ k ih =>
    intro hk
    show (stN le (us ++ [u]) k).step le k ((us ++ [u]).getD k 0) = (stN le us k).step le k (us.getD k 0)
    rw [ih (by omega), List.getD_eq_getElem?_getD, List.getElem?_append_left (by omega), ← List.getD_eq_getElem?_getD]
theorem more_len (le : Nat → Nat → Bool) (us : List Nat) (u : Nat) : (stN le us us.length).ranks.length ≤ (stN le (us ++ [u]) (us ++ [u]).length).ranks.length ∧ (stN le (us ++ [u]) (us ++ [u]).length).ranks.length ≤ (stN le us us.length).ranks.length + 1 := by
  rw [List.length_append, List.length_singleton]
  show _ ≤ (addAt (stN le (us ++ [u]) us.length).ranks _ _).length ∧ (addAt (stN le (us ++ [u]) us.length).ranks _ _).length ≤ _
  rw [stN_more le us u _ (Nat.le_refl _), addAt_length]
  split <;> omega
end Go.Proofs.Ytahhihhfjimppaa.B
