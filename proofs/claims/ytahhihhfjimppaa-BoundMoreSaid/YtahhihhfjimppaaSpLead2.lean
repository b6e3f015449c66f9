/- The plain side of layer 12: a strand is ahead just of those to which it leads, the rest -/
import Derived.Test.YtahhihhfjimppaaSpLead
import Derived.Test.YtahhihhfjimppaaSpF
namespace Go.Proofs.Ytahhihhfjimppaa.S
set_option linter.unusedSimpArgs false
set_option linter.unusedVariables false

theorem linv_more {l : List Five} {s : State} {e h : List Nat} (I : LInv l s e h) {t : Nat × Nat} {r : List (Nat × Nat)} (hs : s.stk = t :: r) (hj : t.2 ≠ 0) (hk : s.ok (1, (t.1 : Int), (s.n : Int), (s.n : Int) + 1, (t.2 : Int))) :
    ∃ e' h', LInv (l ++ [(1, (t.1 : Int), (s.n : Int), (s.n : Int) + 1, (t.2 : Int))]) (s.turn 1) e' h' := by
  obtain ⟨hlast, _⟩ := stk_last hs
  have hstk := turn_stk hs 1
  have hn := turn_n1 hs 1
  rw [if_pos rfl, if_neg hj] at hstk hn
  obtain ⟨e', h', o', m1, m2, p1, p2, q1, q2⟩ := ord_more I.good I.ord (by rw [hlast]; exact hj)
  rw [hlast] at m1 m2 p1 p2 q1 q2
  have K1 := moved_kept m1
  have K2 := moved_kept m2
  have hmem := stk_mem I.good
  have hS := I.stk
  have hP := I.pend
  rw [hs] at hmem hS hP
  have hA : t.1 < s.n := (hmem t (by simp)).1
  have hJ : t.2 < s.n := (hmem t (by simp)).2
  have mA := m1 t.1 hA
  have nA := m2 t.1 hA
  rw [if_pos (Nat.le_refl _)] at mA nA
  have hbeh := stk_behind hS hP
  have hsound := I.sound
  have hall := I.all
  have hout := I.out
  have hjo := I.joins
  have hst := I.strands
  rw [hs] at hsound hall hout hjo hst
  have hev : ∀ u v, EV l (t :: r) u v ↔ edge l u v ∨ (u = t.1 ∧ v = t.2) ∨ (∃ p r', r = p :: r' ∧ v = p.2 ∧ u = t.2) ∨ virt r u v := by
    intro u v
    unfold EV
    rw [virt_consJ hj]
  have hev' : ∀ u v, EV (l ++ [(1, (t.1 : Int), (s.n : Int), (s.n : Int) + 1, (t.2 : Int))]) ((s.n, 0) :: (s.n + 1, t.2) :: r) u v ↔
      (edge l u v ∨ (u = t.1 ∧ (v = s.n ∨ v = s.n + 1))) ∨ (u = s.n ∧ v = t.2) ∨ (u = s.n + 1 ∧ v = t.2) ∨ (∃ p r', r = p :: r' ∧ v = p.2 ∧ u = t.2) ∨ virt r u v := by
    intro u v
    unfold EV
    rw [edge_snoc, virt_cons0 rfl, virt_consJ (t := (s.n + 1, t.2)) hj]
    constructor
    · rintro ((h | ⟨h1, ⟨_, h2⟩ | ⟨h2, _⟩⟩) | ⟨p, r', h3, h1, h2⟩ | ⟨h1, h2⟩ | h)
      · exact .inl (.inl h)
      · simp only at h1 h2; exact .inl (.inr ⟨by omega, by omega⟩)
      · exact absurd rfl h2
      · injection h3 with h3 h4; subst h3; exact .inr (.inl ⟨h2, h1⟩)
      · exact .inr (.inr (.inl ⟨h1, h2⟩))
      · exact .inr (.inr (.inr h))
    · rintro ((h | ⟨h1, h2⟩) | ⟨h1, h2⟩ | ⟨h1, h2⟩ | h)
      · exact .inl (.inl h)
      · exact .inl (.inr ⟨by simp only; omega, .inl ⟨rfl, by simp only; omega⟩⟩)
      · exact .inr (.inl ⟨_, _, rfl, h2, h1⟩)
      · exact .inr (.inr (.inl ⟨h1, h2⟩))
      · exact .inr (.inr (.inr h))
  have hAJ : ahd e h t.1 t.2 := (hsound t.1 t.2 ((hev _ _).2 (.inr (.inl ⟨rfl, rfl⟩)))).2.2
  have mJ := m1 t.2 hJ
  have nJ := m2 t.2 hJ
  have aj1 := hAJ.1
  have aj2 := hAJ.2
  rw [if_neg (by omega)] at mJ nJ
  have hnot : ∀ v, ¬ edge l t.1 v ∧ ¬ virt r t.1 v := by
    intro v
    refine ⟨(hout t (by simp) v).1, fun hv => ?_⟩
    obtain ⟨w, hw, h1⟩ := virt_src hv
    have h2 := hbeh w hw
    rcases h1 with h1 | ⟨_, h1⟩
    · rw [← h1] at h2; omega
    · rw [← h1] at h2; omega
  refine ⟨e', h', ⟨I.good.turn hk, o', ?_, ?_, ?_, ?_, ?_, ?_, ?_, ?_, ?_⟩⟩
  · rw [hstk]
    refine ⟨fun h => absurd rfl h, fun u r' hr => ?_, fun _ => ?_, fun u r' hr => ?_, Stk.kept K1 (fun u hu => hmem u (by simp [hu])) hS.2.2⟩
    · injection hr with hr; subst hr; exact ⟨by show e'.idxOf s.n < e'.idxOf (s.n + 1); omega, fun h => absurd rfl h⟩
    · show e'.idxOf (s.n + 1) < e'.idxOf t.2; omega
    · have hu := hmem u (by rw [hr]; simp)
      have z1 := (hS.2.1 u r' hr)
      have z3 := z1.2 hj
      have z2 := m1 u.1 hu.1
      rw [if_neg (by omega)] at z2
      exact ⟨by show e'.idxOf (s.n + 1) < _; omega, fun _ => by show e'.idxOf t.2 < _; omega⟩
  · rw [hstk]
    refine ⟨fun u hu => ?_, fun u hu => ?_, hP.1, fun u hu => hP.2.1 u hu, hP.2.2⟩
    · rcases List.mem_cons.1 hu with rfl | hu
      · exact hj
      · exact hP.2.1 u hu
    · rcases List.mem_cons.1 hu with rfl | hu
      · exact hj
      · exact hP.2.1 u hu
  · intro u v hu
    rw [hstk, hev'] at hu
    rw [hn]
    rcases hu with (hu | ⟨rfl, hu⟩) | ⟨rfl, rfl⟩ | ⟨rfl, rfl⟩ | ⟨p, r', hr, rfl, rfl⟩ | hu
    · have := hsound u v (.inl hu)
      exact ⟨by omega, by omega, (ahd_kept K1 K2 this.1 this.2.1).2 this.2.2⟩
    · refine ⟨by omega, by omega, ?_⟩
      unfold ahd
      rcases hu with rfl | rfl <;> omega
    · exact ⟨by omega, by omega, by unfold ahd; omega⟩
    · exact ⟨by omega, by omega, by unfold ahd; omega⟩
    · have z := hsound t.2 p.2 ((hev _ _).2 (.inr (.inr (.inl ⟨p, r', hr, rfl, rfl⟩))))
      exact ⟨by omega, by omega, (ahd_kept K1 K2 z.1 z.2.1).2 z.2.2⟩
    · have := hsound u v ((hev _ _).2 (.inr (.inr (.inr hu))))
      exact ⟨by omega, by omega, (ahd_kept K1 K2 this.1 this.2.1).2 this.2.2⟩
  · intro x y hx hy hxy
    rw [hn] at hx hy
    rw [hstk]
    by_cases hyn : y < s.n
    · by_cases hxn : x < s.n
      · obtain ⟨u, hu, hxu⟩ := hall x y hxn hyn ((ahd_kept K1 K2 hxn hyn).1 hxy)
        have hul := (hsound u y hu).1
        have hxu' : x = u ∨ ahd e' h' x u := hxu.imp id (fun z => (ahd_kept K1 K2 hxn hul).2 z)
        rcases (hev _ _).1 hu with hu | ⟨rfl, rfl⟩ | hu | hu
        · exact ⟨u, (hev' _ _).2 (.inl (.inl hu)), hxu'⟩
        · refine ⟨s.n, (hev' _ _).2 (.inr (.inl ⟨rfl, rfl⟩)), .inr ?_⟩
          have z := (le_iff I.ord hxn).1 hxu
          have z1 := m1 x hxn
          have z2 := m2 x hxn
          rw [if_pos z.1] at z1
          rw [if_pos z.2] at z2
          unfold ahd
          omega
        · exact ⟨u, (hev' _ _).2 (.inr (.inr (.inr (.inl hu)))), hxu'⟩
        · exact ⟨u, (hev' _ _).2 (.inr (.inr (.inr (.inr hu)))), hxu'⟩
      · have hx3 : e.idxOf t.1 + 1 ≤ e'.idxOf x ∧ e'.idxOf x ≤ e.idxOf t.1 + 2 ∧ h.idxOf t.1 + 1 ≤ h'.idxOf x ∧ h'.idxOf x ≤ h.idxOf t.1 + 2 := by
          obtain rfl | rfl : x = s.n ∨ x = s.n + 1 := by omega
          all_goals omega
        have hAy : ahd e h t.1 y := by
          have z1 := m1 y hyn
          have z2 := m2 y hyn
          have z3 := hxy.1
          have z4 := hxy.2
          unfold ahd
          constructor
          · by_cases hc : e.idxOf y ≤ e.idxOf t.1
            · rw [if_pos hc] at z1; omega
            · omega
          · by_cases hc : h.idxOf y ≤ h.idxOf t.1
            · rw [if_pos hc] at z2; omega
            · omega
        obtain ⟨u, hu, hAu⟩ := hall t.1 y hA hyn hAy
        have hul := (hsound u y hu).1
        have hlt : t.1 ≠ u → ahd e' h' x u := by
          intro hne
          have z := hAu.resolve_left hne
          have z1 := m1 u hul
          have z2 := m2 u hul
          have z3 := z.1
          have z4 := z.2
          rw [if_neg (by omega)] at z1 z2
          unfold ahd
          omega
        rcases (hev _ _).1 hu with hu | ⟨rfl, rfl⟩ | ⟨p, r', hr, rfl, rfl⟩ | hu
        · exact ⟨u, (hev' _ _).2 (.inl (.inl hu)), .inr (hlt (fun hE => (hnot y).1 (hE ▸ hu)))⟩
        · obtain rfl | rfl : x = s.n ∨ x = s.n + 1 := by omega
          · exact ⟨s.n, (hev' _ _).2 (.inr (.inl ⟨rfl, rfl⟩)), .inl rfl⟩
          · exact ⟨s.n + 1, (hev' _ _).2 (.inr (.inr (.inl ⟨rfl, rfl⟩))), .inl rfl⟩
        · exact ⟨t.2, (hev' _ _).2 (.inr (.inr (.inr (.inl ⟨p, r', hr, rfl, rfl⟩)))), .inr (hlt (fun hE => by rw [hE] at aj1; omega))⟩
        · exact ⟨u, (hev' _ _).2 (.inr (.inr (.inr (.inr hu)))), .inr (hlt (fun hE => (hnot y).2 (hE ▸ hu)))⟩
    · have hxA : x < s.n → e'.idxOf x ≤ e.idxOf t.1 + 1 → h'.idxOf x ≤ h.idxOf t.1 + 1 → x = t.1 ∨ ahd e h x t.1 := by
        intro hxn a1 a2
        refine (le_iff I.ord hxn).2 ?_
        have z1 := m1 x hxn
        have z2 := m2 x hxn
        constructor
        · by_cases hc : e.idxOf x ≤ e.idxOf t.1
          · exact hc
          · rw [if_neg hc] at z1; omega
        · by_cases hc : h.idxOf x ≤ h.idxOf t.1
          · exact hc
          · rw [if_neg hc] at z2; omega
      have z3 := hxy.1
      have z4 := hxy.2
      obtain rfl | rfl : y = s.n ∨ y = s.n + 1 := by omega
      · have hxn : x < s.n := by
          by_cases hc : x < s.n
          · exact hc
          · obtain rfl | rfl : x = s.n ∨ x = s.n + 1 := by omega
            all_goals omega
        exact ⟨t.1, (hev' _ _).2 (.inl (.inr ⟨rfl, .inl rfl⟩)), (hxA hxn (by omega) (by omega)).imp id (fun z => (ahd_kept K1 K2 hxn hA).2 z)⟩
      · have hxn : x < s.n := by
          by_cases hc : x < s.n
          · exact hc
          · obtain rfl | rfl : x = s.n ∨ x = s.n + 1 := by omega
            all_goals omega
        exact ⟨t.1, (hev' _ _).2 (.inl (.inr ⟨rfl, .inr rfl⟩)), (hxA hxn (by omega) (by omega)).imp id (fun z => (ahd_kept K1 K2 hxn hA).2 z)⟩
  · intro u hu
    rw [hstk] at hu
    rw [begun_snoc]
    rcases List.mem_cons.1 hu with rfl | hu
    · exact .inr (.inl ⟨rfl, .inl rfl⟩)
    · rcases List.mem_cons.1 hu with rfl | hu
      · exact .inr (.inl ⟨rfl, .inr (by show (s.n : Int) + 1 = ((s.n + 1 : Nat) : Int); omega)⟩)
      · exact .inl (hst u (by simp [hu]))
  · intro u v hu
    rw [begun_snoc]
    rcases edge_snoc.1 hu with hu | hu
    · exact .inl (I.srcs u v hu)
    · have : u = t.1 := by have z : (t.1 : Int) = (u : Int) := hu.1; omega
      exact .inl (this ▸ hst t (by simp))
  · intro u hu h0 hb
    rw [hstk] at hu
    rw [begun_snoc] at hb
    rcases List.mem_cons.1 hu with rfl | hu
    · exact h0 rfl
    · rcases List.mem_cons.1 hu with rfl | hu
      · rcases hb with hb | ⟨_, hb⟩ | ⟨hb, _⟩
        · exact hjo t (by simp) hj hb
        · simp only at hb; omega
        · simp at hb
      · have := (hmem u (by simp [hu])).2
        rcases hb with hb | ⟨_, hb⟩ | ⟨hb, _⟩
        · exact hjo u (by simp [hu]) h0 hb
        · simp only at hb; omega
        · simp at hb
  · intro u hu v
    rw [hstk] at hu
    have hlt : ∀ x v, edge l x v → x < s.n := fun x v hx => (hsound x v (.inl hx)).1
    have hcl : ∀ x : Nat, (∀ v, ¬ edge l x v) → x ≠ t.1 → ∀ v, ¬ edge (l ++ [(1, (t.1 : Int), (s.n : Int), (s.n : Int) + 1, (t.2 : Int))]) x v := by
      intro x h1 h2 v h3
      rcases edge_snoc.1 h3 with h3 | h3
      · exact h1 v h3
      · exact h2 (by have z : (t.1 : Int) = (x : Int) := h3.1; omega)
    rcases List.mem_cons.1 hu with rfl | hu
    · exact ⟨hcl _ (fun v hv => by have z : s.n < s.n := hlt _ _ hv; omega) (by show s.n ≠ t.1; omega) v, fun h0 => absurd rfl h0⟩
    · rcases List.mem_cons.1 hu with rfl | hu
      · exact ⟨hcl _ (fun v hv => by have z : s.n + 1 < s.n := hlt _ _ hv; omega) (by show s.n + 1 ≠ t.1; omega) v, fun _ => hcl _ (fun v => (hout t (by simp) v).2 hj) (fun hE => by have hE' : t.2 = t.1 := hE; rw [hE'] at aj1; omega) v⟩
      · have hb := hbeh u hu
        refine ⟨hcl _ (fun v => (hout u (by simp [hu]) v).1) (fun hE => ?_) v, fun h0 => hcl _ (fun v => (hout u (by simp [hu]) v).2 h0) (fun hE => ?_) v⟩
        · rw [hE] at hb; omega
        · rw [hE] at hb; omega
  · intro f hf
    rw [hn]
    rcases List.mem_append.1 hf with hf | hf
    · have := I.rng f hf
      omega
    · rw [List.mem_singleton.1 hf]
      simp only
      omega

theorem linv_end {l : List Five} {s : State} {e h : List Nat} (I : LInv l s e h) {t w : Nat × Nat} {r : List (Nat × Nat)} (hs : s.stk = t :: w :: r) (hj : t.2 = 0) (hk : s.ok (2, (t.1 : Int), 0, 0, (w.2 : Int))) :
    LInv (l ++ [(2, (t.1 : Int), 0, 0, (w.2 : Int))]) (s.turn 2) e h := by
  obtain ⟨hlast, _⟩ := stk_last hs
  have hstk := turn_stk hs 2
  have hn := turn_n1 hs 2
  rw [if_neg (by decide), if_pos rfl] at hstk
  rw [if_neg (by decide)] at hn
  obtain ⟨o', _⟩ := ord_else I.ord (k := 2) (by decide)
  have hmem := stk_mem I.good
  have hS := I.stk
  have hP := I.pend
  rw [hs] at hmem hS hP
  have hA : t.1 < s.n := (hmem t (by simp)).1
  have hbeh := stk_behind hS hP
  have hsound := I.sound
  have hall := I.all
  have hout := I.out
  have hjo := I.joins
  have hst := I.strands
  rw [hs] at hsound hall hout hjo hst
  have hev : ∀ u v, EV (l ++ [(2, (t.1 : Int), 0, 0, (w.2 : Int))]) (w :: r) u v ↔ EV l (t :: w :: r) u v := by
    intro u v
    unfold EV
    rw [edge_snoc, virt_cons0 hj]
    constructor
    · rintro ((h | ⟨h1, ⟨h2, _⟩ | ⟨_, h2⟩⟩) | h)
      · exact .inl h
      · simp at h2
      · simp only at h1 h2; exact .inr (.inl ⟨w, r, rfl, by omega, by omega⟩)
      · exact .inr (.inr h)
    · rintro (h | ⟨p, r', h3, h1, h2⟩ | h)
      · exact .inl (.inl h)
      · injection h3 with h3 h4; subst h3; exact .inl (.inr ⟨by simp only; omega, .inr ⟨by simp, by simp only; omega⟩⟩)
      · exact .inr h
  have hb2 : ∀ a, begun (l ++ [(2, (t.1 : Int), 0, 0, (w.2 : Int))]) a ↔ begun l a := by
    intro a; rw [begun_snoc]; simp
  refine ⟨I.good.turn hk, o', by rw [hstk]; exact hS.2.2, by rw [hstk]; exact hP.2.2, ?_, ?_, ?_, ?_, ?_, ?_, ?_⟩
  · intro u v hu; rw [hstk, hev] at hu; rw [hn]; exact hsound u v hu
  · intro x y hx hy hxy
    rw [hn] at hx hy
    obtain ⟨u, h1, h2⟩ := hall x y hx hy hxy
    exact ⟨u, by rw [hstk, hev]; exact h1, h2⟩
  · intro u hu; rw [hstk] at hu; rw [hb2]; exact hst u (by rcases List.mem_cons.1 hu with rfl | h <;> simp [*])
  · intro u v hu
    rw [hb2]
    rcases edge_snoc.1 hu with hu | hu
    · exact I.srcs u v hu
    · have : u = t.1 := by have z : (t.1 : Int) = (u : Int) := hu.1; omega
      exact this ▸ hst t (by simp)
  · intro u hu h0; rw [hstk] at hu; rw [hb2]; exact hjo u (List.mem_cons_of_mem _ hu) h0
  · intro u hu v
    rw [hstk] at hu
    have hcl : ∀ x : Nat, (∀ v, ¬ edge l x v) → x ≠ t.1 → ∀ v, ¬ edge (l ++ [(2, (t.1 : Int), 0, 0, (w.2 : Int))]) x v := by
      intro x h1 h2 v h3
      rcases edge_snoc.1 h3 with h3 | h3
      · exact h1 v h3
      · exact h2 (by have z : (t.1 : Int) = (x : Int) := h3.1; omega)
    have hb := hbeh u hu
    refine ⟨hcl _ (fun v => (hout u (List.mem_cons_of_mem _ hu) v).1) (fun hE => ?_) v, fun h0 => hcl _ (fun v => (hout u (List.mem_cons_of_mem _ hu) v).2 h0) (fun hE => ?_) v⟩
    · rw [hE] at hb; omega
    · rw [hE] at hb; omega
  · intro f hf
    rw [hn]
    rcases List.mem_append.1 hf with hf | hf
    · exact I.rng f hf
    · rw [List.mem_singleton.1 hf]
      have := (hmem w (by simp)).2
      simp only
      omega

theorem linv_join {l : List Five} {s : State} {e h : List Nat} (I : LInv l s e h) {t : Nat × Nat} {r : List (Nat × Nat)} (hs : s.stk = t :: r) (hj : t.2 ≠ 0) (hk : s.ok (3, (t.1 : Int), 0, 0, (t.2 : Int))) :
    LInv (l ++ [(3, (t.1 : Int), 0, 0, (t.2 : Int))]) (s.turn 3) e h := by
  obtain ⟨hlast, _⟩ := stk_last hs
  have hstk := turn_stk hs 3
  have hn := turn_n1 hs 3
  rw [if_neg (by decide), if_neg (by decide)] at hstk
  rw [if_neg (by decide)] at hn
  obtain ⟨o', _⟩ := ord_else I.ord (k := 3) (by decide)
  have hmem := stk_mem I.good
  have hS := I.stk
  have hP := I.pend
  rw [hs] at hmem hS hP
  have hA := hmem t (by simp)
  have hbeh := stk_behind hS hP
  have hsound := I.sound
  have hall := I.all
  have hout := I.out
  have hjo := I.joins
  have hst := I.strands
  rw [hs] at hsound hall hout hjo hst
  have hev : ∀ u v, EV (l ++ [(3, (t.1 : Int), 0, 0, (t.2 : Int))]) ((t.2, 0) :: r) u v ↔ EV l (t :: r) u v := by
    intro u v
    unfold EV
    rw [edge_snoc, virt_cons0 rfl, virt_consJ hj]
    constructor
    · rintro ((h | ⟨h1, ⟨h2, _⟩ | ⟨_, h2⟩⟩) | h)
      · exact .inl h
      · simp at h2
      · simp only at h1 h2; exact .inr (.inl ⟨by omega, by omega⟩)
      · exact .inr (.inr h)
    · rintro (h | ⟨h1, h2⟩ | h)
      · exact .inl (.inl h)
      · exact .inl (.inr ⟨by simp only; omega, .inr ⟨by simp, by simp only; omega⟩⟩)
      · exact .inr h
  have hb2 : ∀ a, begun (l ++ [(3, (t.1 : Int), 0, 0, (t.2 : Int))]) a ↔ begun l a ∨ a = t.2 := by
    intro a; rw [begun_snoc]
    constructor
    · rintro (h | ⟨h, _⟩ | ⟨_, h⟩)
      · exact .inl h
      · simp at h
      · simp only at h; exact .inr (by omega)
    · rintro (h | h)
      · exact .inl h
      · exact .inr (.inr ⟨rfl, by simp only; omega⟩)
  have hAJ : ahd e h t.1 t.2 := (hsound t.1 t.2 (.inr ((virt_consJ hj).2 (.inl ⟨rfl, rfl⟩)))).2.2
  have aj1 := hAJ.1
  refine ⟨I.good.turn hk, o', ?_, ?_, ?_, ?_, ?_, ?_, ?_, ?_, ?_⟩
  · rw [hstk]
    exact ⟨fun h => absurd rfl h, fun u r' hr => ⟨(hS.2.1 u r' hr).2 hj, fun h => absurd rfl h⟩, hS.2.2⟩
  · rw [hstk]
    exact ⟨fun u hu => hP.2.1 u hu, hP.2.1, hP.2.2⟩
  · intro u v hu; rw [hstk, hev] at hu; rw [hn]; exact hsound u v hu
  · intro x y hx hy hxy
    rw [hn] at hx hy
    obtain ⟨u, h1, h2⟩ := hall x y hx hy hxy
    exact ⟨u, by rw [hstk, hev]; exact h1, h2⟩
  · intro u hu
    rw [hstk] at hu
    rw [hb2]
    rcases List.mem_cons.1 hu with rfl | hu
    · exact .inr rfl
    · exact .inl (hst u (List.mem_cons_of_mem _ hu))
  · intro u v hu
    rw [hb2]
    rcases edge_snoc.1 hu with hu | hu
    · exact .inl (I.srcs u v hu)
    · have : u = t.1 := by have z : (t.1 : Int) = (u : Int) := hu.1; omega
      exact .inl (this ▸ hst t (by simp))
  · intro u hu h0 hb
    rw [hstk] at hu
    rw [hb2] at hb
    rcases List.mem_cons.1 hu with rfl | hu
    · exact h0 rfl
    · rcases hb with hb | hb
      · exact hjo u (List.mem_cons_of_mem _ hu) h0 hb
      · exact hP.1 u hu hb
  · intro u hu v
    rw [hstk] at hu
    have hcl : ∀ x : Nat, (∀ v, ¬ edge l x v) → x ≠ t.1 → ∀ v, ¬ edge (l ++ [(3, (t.1 : Int), 0, 0, (t.2 : Int))]) x v := by
      intro x h1 h2 v h3
      rcases edge_snoc.1 h3 with h3 | h3
      · exact h1 v h3
      · exact h2 (by have z : (t.1 : Int) = (x : Int) := h3.1; omega)
    rcases List.mem_cons.1 hu with rfl | hu
    · exact ⟨hcl _ (fun v => (hout t (by simp) v).2 hj) (fun hE => by have hE' : t.2 = t.1 := hE; rw [hE'] at aj1; omega) v, fun h0 => absurd rfl h0⟩
    · have hb := hbeh u hu
      refine ⟨hcl _ (fun v => (hout u (List.mem_cons_of_mem _ hu) v).1) (fun hE => ?_) v, fun h0 => hcl _ (fun v => (hout u (List.mem_cons_of_mem _ hu) v).2 h0) (fun hE => ?_) v⟩
      · rw [hE] at hb; omega
      · rw [hE] at hb; omega
  · intro f hf
    rw [hn]
    rcases List.mem_append.1 hf with hf | hf
    · exact I.rng f hf
    · rw [List.mem_singleton.1 hf]
      simp only
      omega

theorem linv_step {l : List Five} {s : State} {e h : List Nat} (I : LInv l s e h) {f : Five} (hk : s.ok f) : ∃ e' h', LInv (l ++ [f]) (s.turn f.1) e' h' := by
  obtain ⟨t, r, hs⟩ := stk_pos I.good
  rcases ok_cases hs hk with hf | ⟨h0, u, r', hr, hf⟩ | ⟨h0, hf⟩
  · by_cases hj : t.2 = 0
    · rw [if_pos hj] at hf
      subst hf
      exact linv_fork I hs hj hk
    · rw [if_neg hj] at hf
      subst hf
      exact linv_more I hs hj hk
  · subst hf hr
    exact ⟨e, h, linv_end I hs h0 hk⟩
  · subst hf
    exact ⟨e, h, linv_join I hs h0 hk⟩
theorem linv_run {m : List Five} : ∀ {l : List Five} {s t : State} {e h : List Nat}, LInv l s e h → run s m = some t → ∃ e' h', LInv (l ++ m) t e' h' := by
  induction m with
  | nil => intro l s t e h I hr; injection hr with hr; subst hr; exact ⟨e, h, by rw [List.append_nil]; exact I⟩
  | cons f r ih =>
    intro l s t e h I hr
    rw [run_cons] at hr
    split at hr
    · rename_i hk
      obtain ⟨e1, h1, I1⟩ := linv_step I hk
      obtain ⟨e2, h2, I2⟩ := ih I1 hr
      exact ⟨e2, h2, by rw [List.append_assoc] at I2; exact I2⟩
    · cases hr

/-- one split, as Leads takes it -/
def mark1 (M : List Bool) (f : Five) : List Bool :=
  if M.getD f.2.1.toNat false then (if f.1 = 1 then (M.set f.2.2.1.toNat true).set f.2.2.2.1.toNat true else M.set f.2.2.2.2.toNat true) else M
def pass (l : List Five) (M : List Bool) : List Bool := l.foldl mark1 M
def passes (l : List Five) : Nat → List Bool → List Bool
  | 0, M => M
  | k + 1, M => pass l (passes l k M)
def leads (l : List Five) (n a : Nat) : List Bool := (passes l n ((List.replicate n false).set a true)).set a false
theorem mark1_length (M : List Bool) (f : Five) : (mark1 M f).length = M.length := by
  unfold mark1
  split
  · split <;> simp
  · rfl
theorem pass_length (l : List Five) : ∀ M : List Bool, (pass l M).length = M.length := by
  induction l with
  | nil => intro M; rfl
  | cons f l ih => intro M; show (pass l (mark1 M f)).length = _; rw [ih, mark1_length]
theorem passes_length (l : List Five) (k : Nat) (M : List Bool) : (passes l k M).length = M.length := by
  induction k with
  | zero => rfl
  | succ k ih => rw [passes, pass_length, ih]
theorem getD_set_true {M : List Bool} {i j : Nat} : (M.set i true).getD j false = true ↔ (j = i ∧ i < M.length) ∨ M.getD j false = true := by
  rw [List.getD_eq_getElem?_getD, List.getElem?_set, List.getD_eq_getElem?_getD]
  by_cases h : i = j
  · subst h
    rw [if_pos rfl]
    by_cases hl : i < M.length
    · simp [hl]
    · rw [if_neg hl]
      have : M[i]? = none := List.getElem?_eq_none (by omega)
      simp [this, hl]
  · rw [if_neg h]
    constructor
    · exact .inr
    · rintro (⟨h1, _⟩ | h1)
      · exact absurd h1.symm h
      · exact h1
theorem mark1_mono {M : List Bool} {f : Five} {b : Nat} (h : M.getD b false = true) : (mark1 M f).getD b false = true := by
  unfold mark1
  split
  · split
    · rw [getD_set_true, getD_set_true]; exact .inr (.inr h)
    · rw [getD_set_true]; exact .inr h
  · exact h
theorem pass_mono {l : List Five} : ∀ {M : List Bool} {b : Nat}, M.getD b false = true → (pass l M).getD b false = true := by
  induction l with
  | nil => intro M b h; exact h
  | cons f l ih => intro M b h; exact ih (mark1_mono h)
/-- of a marked strand a step is taken -/
theorem pass_edge {l : List Five} {M : List Bool} {u v : Nat} (he : edge l u v) (hv : v < M.length) (hu : M.getD u false = true) : (pass l M).getD v false = true := by
  induction l generalizing M with
  | nil => obtain ⟨f, hf, _⟩ := he; simp at hf
  | cons g l ih =>
    obtain ⟨f, hf, h⟩ := he
    show (pass l (mark1 M g)).getD v false = true
    rcases List.mem_cons.1 hf with rfl | hf
    · refine pass_mono ?_
      unfold mark1
      have e1 : f.2.1.toNat = u := by rw [h.1]; rfl
      rw [e1, hu, if_pos rfl]
      rcases h.2 with ⟨k1, h2⟩ | ⟨k1, h2⟩
      · rw [if_pos k1, getD_set_true, getD_set_true, List.length_set]
        rcases h2 with h2 | h2
        · have e2 : f.2.2.1.toNat = v := by rw [h2]; rfl
          exact .inr (.inl ⟨e2.symm, by omega⟩)
        · have e2 : f.2.2.2.1.toNat = v := by rw [h2]; rfl
          exact .inl ⟨e2.symm, by omega⟩
      · have e2 : f.2.2.2.2.toNat = v := by rw [h2]; rfl
        rw [if_neg k1, getD_set_true]
        exact .inl ⟨e2.symm, by omega⟩
    · exact ih ⟨f, hf, h⟩ (by rw [mark1_length]; exact hv) (mark1_mono hu)
/-- what holds of the marked, and goes over steps, holds of all that are marked -/
theorem pass_sound {l : List Five} {Q : Nat → Prop} (hr : ∀ f ∈ l, 0 ≤ f.2.1 ∧ 0 ≤ f.2.2.1 ∧ 0 ≤ f.2.2.2.1 ∧ 0 ≤ f.2.2.2.2) (hq : ∀ u v, edge l u v → Q u → Q v) :
    ∀ {m : List Five} {M : List Bool}, (∀ f ∈ m, f ∈ l) → (∀ b, M.getD b false = true → Q b) → ∀ b, (pass m M).getD b false = true → Q b := by
  intro m
  induction m with
  | nil => intro M _ h; exact h
  | cons f m ih =>
    intro M hm h
    have hf := hm f (by simp)
    have hfr := hr f hf
    refine ih (fun g hg => hm g (by simp [hg])) ?_
    intro b hb
    unfold mark1 at hb
    split at hb
    · rename_i hA
      have hA' := h _ hA
      split at hb
      · rename_i k1
        rw [getD_set_true, getD_set_true] at hb
        rcases hb with ⟨hb, _⟩ | ⟨hb, _⟩ | hb
        · exact hq _ b ⟨f, hf, by omega, .inl ⟨k1, .inr (by omega)⟩⟩ hA'
        · exact hq _ b ⟨f, hf, by omega, .inl ⟨k1, .inl (by omega)⟩⟩ hA'
        · exact h b hb
      · rename_i k1
        rw [getD_set_true] at hb
        rcases hb with ⟨hb, _⟩ | hb
        · exact hq _ b ⟨f, hf, by omega, .inr ⟨k1, by omega⟩⟩ hA'
        · exact h b hb
    · exact h b hb

instance (e h : List Nat) (x y : Nat) : Decidable (ahd e h x y) := inferInstanceAs (Decidable (_ ∧ _))
theorem leads_of {l : List Five} {s : State} (hrun : run init l = some s) {a b : Nat} (ha : a < s.n) (hb : begun l b) (hbn : b < s.n) : S.ahead s.places a b = (leads l s.n a).getD b false := by
  obtain ⟨e, h, I⟩ := linv_run init_linv hrun
  rw [List.nil_append] at I
  have hah : S.ahead s.places a b = decide (ahd e h a b) := by
    unfold S.ahead S.there
    rw [Int.toNat_natCast, Int.toNat_natCast, I.ord.places I.good ha, I.ord.places I.good hbn, I.good.places_length]
    have c1 : (decide (0 ≤ (a : Int) ∧ (a : Int) < (s.n : Int))) = true := by simp; omega
    have c2 : (decide (0 ≤ (b : Int) ∧ (b : Int) < (s.n : Int))) = true := by simp; omega
    rw [c1, c2, Bool.true_and, Bool.true_and, Bool.eq_iff_iff]
    simp only [Bool.and_eq_true, decide_eq_true_eq]
    exact Iff.rfl
  rw [hah]
  have hlen : ∀ k, (passes l k ((List.replicate s.n false).set a true)).length = s.n := by intro k; rw [passes_length]; simp
  have h0 : ∀ c, ((List.replicate s.n false).set a true).getD c false = true ↔ c = a := by
    intro c
    rw [getD_set_true]
    constructor
    · rintro (h | h)
      · exact h.1
      · rw [List.getD_eq_getElem?_getD, List.getElem?_replicate] at h; split at h <;> simp at h
    · intro h; exact .inl ⟨h, by simpa using ha⟩
  have hsound : ∀ k c, (passes l k ((List.replicate s.n false).set a true)).getD c false = true → c = a ∨ ahd e h a c := by
    intro k
    induction k with
    | zero => intro c hc; exact .inl ((h0 c).1 hc)
    | succ k ih =>
      refine pass_sound (Q := fun c => c = a ∨ ahd e h a c) (fun f hf => by have := I.rng f hf; omega) ?_ (fun f hf => hf) ih
      intro u v huv hu
      have z := (I.sound u v (.inl huv)).2.2
      have z1 := z.1
      have z2 := z.2
      rcases hu with rfl | hu
      · exact .inr z
      · have z3 := hu.1
        have z4 := hu.2
        exact .inr ⟨by omega, by omega⟩
  have hcomp : ∀ k c, c < s.n → begun l c → (c = a ∨ ahd e h a c) → e.idxOf c ≤ e.idxOf a + k → (passes l k ((List.replicate s.n false).set a true)).getD c false = true := by
    intro k
    induction k with
    | zero =>
      intro c hc hbc hac hk
      rcases hac with rfl | hac
      · exact (h0 _).2 rfl
      · have := hac.1; omega
    | succ k ih =>
      intro c hc hbc hac hk
      rcases hac with rfl | hac
      · exact pass_mono (ih _ hc hbc (.inl rfl) (by omega))
      · obtain ⟨u, hu, hau⟩ := I.all a c ha hc hac
        rcases hu with hu | hu
        · have z := (I.sound u c (.inl hu))
          have z1 := z.2.2.1
          refine pass_edge hu (by rw [hlen]; exact hc) (ih u z.1 (I.srcs u c hu) (hau.imp Eq.symm id) (by omega))
        · obtain ⟨t, ht, h1, h2⟩ := virt_dst I.pend hu
          exact absurd (h2 ▸ hbc) (I.joins t ht h1)
  have hset : (leads l s.n a).getD b false = if b = a then false else (passes l s.n ((List.replicate s.n false).set a true)).getD b false := by
    unfold leads
    rw [List.getD_eq_getElem?_getD, List.getElem?_set]
    by_cases hE : a = b
    · subst hE
      rw [if_pos rfl, if_pos (by rw [hlen]; exact ha), if_pos rfl]; rfl
    · rw [if_neg hE, if_neg (Ne.symm hE), List.getD_eq_getElem?_getD]
  rw [hset]
  by_cases hE : b = a
  · subst hE
    rw [if_pos rfl]
    simp [ahd]
  · rw [if_neg hE]
    by_cases hab : ahd e h a b
    · have hbl := idx_lt ((I.ord.me b).2 hbn)
      rw [I.ord.le] at hbl
      rw [hcomp s.n b hbn hb (.inr hab) (by omega)]
      simpa using hab
    · have : ¬ (passes l s.n ((List.replicate s.n false).set a true)).getD b false = true := by
        intro h1
        rcases hsound _ _ h1 with h2 | h2
        · exact hE h2
        · exact hab h2
      rw [Bool.not_eq_true] at this
      rw [this]
      simpa using hab
theorem leads_rng {l : List Five} {s : State} (hrun : run init l = some s) : ∀ f ∈ l, (0 ≤ f.2.1 ∧ f.2.1 < s.n) ∧ (0 ≤ f.2.2.1 ∧ f.2.2.1 < s.n) ∧ (0 ≤ f.2.2.2.1 ∧ f.2.2.2.1 < s.n) ∧ (0 ≤ f.2.2.2.2 ∧ f.2.2.2.2 < s.n) := by
  obtain ⟨e, h, I⟩ := linv_run init_linv hrun
  rw [List.nil_append] at I
  exact I.rng
theorem leads_length (l : List Five) (n a : Nat) : (leads l n a).length = n := by unfold leads; rw [List.length_set, passes_length]; simp
end Go.Proofs.Ytahhihhfjimppaa.S
