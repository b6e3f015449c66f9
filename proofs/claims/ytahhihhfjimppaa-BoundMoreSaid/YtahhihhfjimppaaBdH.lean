/- plain: ranks, and the chain of them -/
import Derived.Test.YtahhihhfjimppaaBdF
namespace Go.Proofs.Ytahhihhfjimppaa.B
set_option linter.unusedSimpArgs false
set_option linter.unusedVariables false

theorem best_ge {le : Nat → Nat → Bool} {most : Nat → Nat} {u : Nat} : ∀ (l : List Nat) (r : Nat), r ≤ bestFrom le most u l r := by
  intro l
  induction l with
  | nil => intro r; exact Nat.le_refl _
  | cons s l ih =>
    intro r
    refine Nat.le_trans ?_ (ih (if le s u then max r (most s) else r))
    split <;> omega
theorem best_all {le : Nat → Nat → Bool} {most : Nat → Nat} {u : Nat} : ∀ (l : List Nat) (r : Nat), ∀ s ∈ l, le s u = true → most s ≤ bestFrom le most u l r := by
  intro l
  induction l with
  | nil => intro r s hs; simp at hs
  | cons t l ih =>
    intro r s hs hle
    rcases List.mem_cons.1 hs with rfl | hs
    · refine Nat.le_trans ?_ (best_ge l (if le s u then max r (most s) else r))
      rw [hle]; simp; omega
    · exact ih _ s hs hle
theorem best_some {le : Nat → Nat → Bool} {most : Nat → Nat} {u : Nat} : ∀ (l : List Nat) (r : Nat), bestFrom le most u l r = r ∨ ∃ s ∈ l, le s u = true ∧ most s = bestFrom le most u l r := by
  intro l
  induction l with
  | nil => intro r; exact .inl rfl
  | cons t l ih =>
    intro r
    have e : bestFrom le most u (t :: l) r = bestFrom le most u l (if le t u then max r (most t) else r) := rfl
    rw [e]
    rcases ih (if le t u then max r (most t) else r) with h | ⟨s, hs, h1, h2⟩
    · rw [h]
      cases hle : le t u
      · simp
      · rcases Nat.le_total r (most t) with hm | hm
        · exact .inr ⟨t, by simp, hle, by simp; omega⟩
        · left; simp; omega
    · exact .inr ⟨s, by simp [hs], h1, h2⟩

/-- the rank of a use -/
def rk (le : Nat → Nat → Bool) (us : List Nat) (i : Nat) : Nat := (stN le us i).rank le (us.getD i 0)
def su (us : List Nat) (i : Nat) : Nat := us.getD i 0
/-- what holds of the ranks of k uses -/
structure Inv (le : Nat → Nat → Bool) (us : List Nat) (k : Nat) (st : RS) : Prop where
  rows : ∀ r, r < st.ranks.length → st.ranks.getD r [] = (List.range k).filter (fun i => decide (rk le us i = r))
  lt : ∀ i, i < k → rk le us i < st.ranks.length
  all : ∀ r, r < st.ranks.length → ∃ i, i < k ∧ rk le us i = r
  up : ∀ i, i < k → rk le us i < st.most (su us i)
  some : ∀ x, 0 < st.most x → ∃ i, i < k ∧ su us i = x ∧ rk le us i + 1 = st.most x
  str : ∀ x, x ∈ st.strands ↔ 0 < st.most x
  r1 : ∀ i, i < k → ∀ j, j < i → le (su us j) (su us i) = true → rk le us j < rk le us i
  r2 : ∀ i, i < k → 0 < rk le us i → ∃ j, j < i ∧ le (su us j) (su us i) = true ∧ rk le us j + 1 = rk le us i
theorem getD_set_self {α} (L : List α) (r : Nat) (x d : α) (h : r < L.length) : (L.set r x).getD r d = x := by
  rw [List.getD_eq_getElem?_getD, List.getElem?_set, if_pos rfl, if_pos h]; rfl
theorem getD_set_ne {α} (L : List α) (r i : Nat) (x d : α) (h : i ≠ r) : (L.set r x).getD i d = L.getD i d := by
  rw [List.getD_eq_getElem?_getD, List.getElem?_set, if_neg (fun e => h e.symm), List.getD_eq_getElem?_getD]
theorem inv_stN (le : Nat → Nat → Bool) (hrefl : ∀ x, le x x = true) (us : List Nat) : ∀ k, Inv le us k (stN le us k) := by
  intro k
  induction k with
  | zero =>
    exact ⟨fun r h => by simp [stN, init] at h, fun i h => by omega, fun r h => by simp [stN, init] at h, fun i h => by omega, fun x h => by simp [stN, init] at h, fun x => by simp [stN, init], fun i h => by omega, fun i h => by omega⟩
  | succ k ih =>
    have hs : stN le us (k + 1) = (stN le us k).step le k (su us k) := rfl
    have hrk : (stN le us k).rank le (su us k) = rk le us k := rfl
    rw [hs]
    have hok := (stN_okay le us k).rank le (su us k)
    rw [hrk] at hok
    generalize stN le us k = st at *
    have hst : st.step le k (su us k) = ⟨if st.most (su us k) = 0 then st.strands ++ [su us k] else st.strands, fun x => if x = su us k then rk le us k + 1 else st.most x, addAt st.ranks (rk le us k) k⟩ := by rw [← hrk]; rfl
    rw [hst]
    have hall : ∀ j, j < k → le (su us j) (su us k) = true → rk le us j < rk le us k := by
      intro j hj hle
      have h1 := ih.up j hj
      have h2 : su us j ∈ st.strands := (ih.str _).2 (by omega)
      have h3 := best_all (le := le) (most := st.most) (u := su us k) st.strands 0 _ h2 hle
      have h4 : bestFrom le st.most (su us k) st.strands 0 = rk le us k := hrk
      omega
    have hsome : 0 < rk le us k → ∃ j, j < k ∧ le (su us j) (su us k) = true ∧ rk le us j + 1 = rk le us k := by
      intro hp
      have h4 : bestFrom le st.most (su us k) st.strands 0 = rk le us k := hrk
      rcases best_some (le := le) (most := st.most) (u := su us k) st.strands 0 with h | ⟨s, hs, h1, h2⟩
      · omega
      · obtain ⟨i, hi, e1, e2⟩ := ih.some s ((ih.str s).1 hs)
        exact ⟨i, hi, by rw [e1]; exact h1, by omega⟩
    constructor
    · intro r hr
      show (addAt st.ranks (rk le us k) k).getD r [] = _
      have hr : r < (addAt st.ranks (rk le us k) k).length := hr
      rw [addAt_length] at hr
      rw [List.range_succ, List.filter_append]
      unfold addAt
      by_cases h : rk le us k = st.ranks.length
      · rw [if_pos h] at hr ⊢
        by_cases hr2 : r < st.ranks.length
        · rw [List.getD_eq_getElem?_getD, List.getElem?_append_left hr2, ← List.getD_eq_getElem?_getD, ih.rows r hr2]
          have : [k].filter (fun i => decide (rk le us i = r)) = [] := by simp; omega
          rw [this, List.append_nil]
        · obtain rfl : r = st.ranks.length := by omega
          have e1 : (List.range k).filter (fun i => decide (rk le us i = st.ranks.length)) = [] := by
            rw [List.filter_eq_nil_iff]
            intro i hi
            have := ih.lt i (List.mem_range.1 hi)
            simp; omega
          have e2 : [k].filter (fun i => decide (rk le us i = st.ranks.length)) = [k] := by simp [h]
          rw [e1, e2]
          simp
      · rw [if_neg h] at hr ⊢
        by_cases hr2 : r = rk le us k
        · subst hr2
          have e2 : [k].filter (fun i => decide (rk le us i = rk le us k)) = [k] := by simp
          rw [getD_set_self _ _ _ _ hr, ih.rows _ hr, e2]
        · have e2 : [k].filter (fun i => decide (rk le us i = r)) = [] := by simp; omega
          rw [getD_set_ne _ _ _ _ _ hr2, ih.rows _ hr, e2, List.append_nil]
    · intro i hi
      show _ < (addAt st.ranks (rk le us k) k).length
      rw [addAt_length]
      by_cases h : i = k
      · subst h; split <;> omega
      · have := ih.lt i (by omega)
        split <;> omega
    · intro r hr
      have hr : r < (addAt st.ranks (rk le us k) k).length := hr
      rw [addAt_length] at hr
      by_cases h : rk le us k = r
      · exact ⟨k, by omega, h⟩
      · have : r < st.ranks.length := by split at hr <;> omega
        obtain ⟨i, h1, h2⟩ := ih.all r this
        exact ⟨i, by omega, h2⟩
    · intro i hi
      show _ < (if su us i = su us k then rk le us k + 1 else st.most (su us i))
      by_cases h : i = k
      · subst h; rw [if_pos rfl]; omega
      · have h1 := ih.up i (by omega)
        split
        · rename_i e
          have := hall i (by omega) (by rw [e]; exact hrefl _)
          omega
        · exact h1
    · intro x hx
      have hx : 0 < (if x = su us k then rk le us k + 1 else st.most x) := hx
      show ∃ i, i < k + 1 ∧ su us i = x ∧ rk le us i + 1 = (if x = su us k then rk le us k + 1 else st.most x)
      by_cases h : x = su us k
      · rw [if_pos h]; exact ⟨k, by omega, h.symm, rfl⟩
      · rw [if_neg h] at hx ⊢
        obtain ⟨i, h1, h2, h3⟩ := ih.some x hx
        exact ⟨i, by omega, h2, h3⟩
    · intro x
      show x ∈ (if st.most (su us k) = 0 then st.strands ++ [su us k] else st.strands) ↔ 0 < (if x = su us k then rk le us k + 1 else st.most x)
      have h1 := ih.str x
      by_cases h : x = su us k
      · rw [if_pos h]
        subst h
        split
        · simp
        · rw [h1]; omega
      · rw [if_neg h]
        split
        · simp [h, h1]
        · exact h1
    · intro i hi j hj hle
      by_cases h : i = k
      · subst h; exact hall j hj hle
      · exact ih.r1 i (by omega) j hj hle
    · intro i hi hp
      by_cases h : i = k
      · subst h; exact hsome hp
      · exact ih.r2 i (by omega) hp

/-! ### the chain -/
def pick (le : Nat → Nat → Bool) (us : List Nat) (next : Nat) (row : List Nat) : Option Nat := row.find? (fun i => decide (i < next) && le (su us i) (su us next))
def chainFrom (le : Nat → Nat → Bool) (us : List Nat) (L : List (List Nat)) : Nat → Nat → List Nat → List Nat
  | 0, _, pl => pl
  | k + 1, next, pl => match pick le us next (L.getD k []) with
    | some i => chainFrom le us L k i (pl ++ [i])
    | none => chainFrom le us L k next pl
def chain (le : Nat → Nat → Bool) (us : List Nat) : List Nat :=
  let L := (stN le us us.length).ranks
  if L.length = 0 then [] else
    let n := (L.getD (L.length - 1) []).headD 0
    (chainFrom le us L (L.length - 1) n [n]).reverse

theorem pick_some {le : Nat → Nat → Bool} {us : List Nat} {N next k : Nat} {st : RS} (I : Inv le us N st) (hn : next < N) (hk : rk le us next = k + 1) :
    ∃ i, pick le us next (st.ranks.getD k []) = some i ∧ i < next ∧ le (su us i) (su us next) = true ∧ rk le us i = k := by
  obtain ⟨j, h1, h2, h3⟩ := I.r2 next hn (by omega)
  have hkl : k < st.ranks.length := by have := I.lt next hn; omega
  unfold pick
  rw [I.rows k hkl]
  have hex : ((List.range N).filter (fun i => decide (rk le us i = k))).find? (fun i => decide (i < next) && le (su us i) (su us next)) ≠ none := by
    intro h
    rw [List.find?_eq_none] at h
    have hm : j ∈ (List.range N).filter (fun i => decide (rk le us i = k)) := by
      rw [List.mem_filter]
      exact ⟨List.mem_range.2 (by omega), by simp; omega⟩
    have := h j hm
    simp [h1, h2] at this
  obtain ⟨i, hi⟩ := Option.ne_none_iff_exists'.1 hex
  refine ⟨i, hi, ?_⟩
  have hp := List.find?_some hi
  have hm := List.mem_of_find?_eq_some hi
  rw [List.mem_filter] at hm
  simp only [Bool.and_eq_true, decide_eq_true_eq] at hp
  exact ⟨hp.1, hp.2, by simpa using hm.2⟩
/-- a chain, from its end on -/
def Down (le : Nat → Nat → Bool) (us : List Nat) : Nat → List Nat → Prop
  | _, [] => True
  | next, i :: l => i < next ∧ le (su us i) (su us next) = true ∧ rk le us i + 1 = rk le us next ∧ Down le us i l
theorem chainFrom_eq {le : Nat → Nat → Bool} {us : List Nat} {N : Nat} {st : RS} (I : Inv le us N st) : ∀ (k next : Nat) (pl : List Nat), next < N → rk le us next = k →
    ∃ l, chainFrom le us st.ranks k next pl = pl ++ l ∧ l.length = k ∧ Down le us next l := by
  intro k
  induction k with
  | zero => intro next pl _ _; exact ⟨[], by simp [chainFrom], rfl, trivial⟩
  | succ k ih =>
    intro next pl hn hk
    obtain ⟨i, h1, h2, h3, h4⟩ := pick_some I hn hk
    obtain ⟨l, e1, e2, e3⟩ := ih i (pl ++ [i]) (by omega) h4
    refine ⟨i :: l, ?_, by simp [e2], ?_⟩
    · rw [chainFrom, h1]
      show chainFrom le us st.ranks k i (pl ++ [i]) = _
      rw [e1]; simp
    · exact ⟨h2, h3, by omega, e3⟩
theorem down_at {le : Nat → Nat → Bool} {us : List Nat} : ∀ (l : List Nat) (next : Nat), Down le us next l → ∀ t (h : t < l.length), rk le us l[t] + (t + 1) = rk le us next ∧ l[t] < next := by
  intro l
  induction l with
  | nil => intro next _ t h; simp at h
  | cons i l ih =>
    intro next hd t h
    cases t with
    | zero => exact ⟨hd.2.2.1, hd.1⟩
    | succ t =>
      have := ih i hd.2.2.2 t (by simpa using h)
      have h1 := hd.1
      have h2 := hd.2.2.1
      simp only [List.getElem_cons_succ]
      omega
theorem down_two {le : Nat → Nat → Bool} {us : List Nat} : ∀ (l : List Nat) (next : Nat), Down le us next l → ∀ t (h : t + 1 < (next :: l).length), (next :: l)[t + 1] < (next :: l)[t] ∧ le (su us (next :: l)[t + 1]) (su us (next :: l)[t]) = true := by
  intro l
  induction l with
  | nil => intro next _ t h; simp at h
  | cons i l ih =>
    intro next hd t h
    cases t with
    | zero => exact ⟨hd.1, hd.2.1⟩
    | succ t => exact ih i hd.2.2.2 t (by simpa using h)
/-- what the chain is -/
structure IsChain (le : Nat → Nat → Bool) (us : List Nat) (C : List Nat) : Prop where
  len : C.length = (stN le us us.length).ranks.length
  lt : ∀ t (h : t < C.length), C[t] < us.length
  rank : ∀ t (h : t < C.length), rk le us C[t] = t
  up : ∀ t (h : t + 1 < C.length), C[t] < C[t + 1] ∧ le (su us C[t]) (su us C[t + 1]) = true
theorem chain_is (le : Nat → Nat → Bool) (hrefl : ∀ x, le x x = true) (us : List Nat) : IsChain le us (chain le us) := by
  have I := inv_stN le hrefl us us.length
  unfold chain
  dsimp only
  generalize hst : stN le us us.length = st at *
  by_cases h0 : st.ranks.length = 0
  · rw [if_pos h0]
    exact ⟨by simp [hst, h0], fun t h => by simp at h, fun t h => by simp at h, fun t h => by simp at h⟩
  · rw [if_neg h0]
    obtain ⟨j, hj, hrj⟩ := I.all (st.ranks.length - 1) (by omega)
    have hrow := I.rows (st.ranks.length - 1) (by omega)
    obtain ⟨n, l0, hnl⟩ : ∃ n l0, st.ranks.getD (st.ranks.length - 1) [] = n :: l0 := by
      cases h : st.ranks.getD (st.ranks.length - 1) [] with
      | nil =>
        rw [h] at hrow
        have : j ∈ (List.range us.length).filter (fun i => decide (rk le us i = st.ranks.length - 1)) := by
          rw [List.mem_filter]; exact ⟨List.mem_range.2 hj, by simp [hrj]⟩
        rw [← hrow] at this
        simp at this
      | cons n l0 => exact ⟨n, l0, rfl⟩
    have hn : n ∈ (List.range us.length).filter (fun i => decide (rk le us i = st.ranks.length - 1)) := by rw [← hrow, hnl]; simp
    rw [List.mem_filter] at hn
    have hn1 : n < us.length := List.mem_range.1 hn.1
    have hn2 : rk le us n = st.ranks.length - 1 := by simpa using hn.2
    rw [hnl]
    show IsChain le us (chainFrom le us st.ranks (st.ranks.length - 1) n [n]).reverse
    obtain ⟨l, e1, e2, e3⟩ := chainFrom_eq I (st.ranks.length - 1) n [n] hn1 hn2
    rw [e1]
    have hl : ([n] ++ l).length = st.ranks.length := by simp; omega
    have hat : ∀ t (h : t < (n :: l).length), rk le us (n :: l)[t] + t = st.ranks.length - 1 ∧ (n :: l)[t] < us.length := by
      intro t h
      cases t with
      | zero => simp [hn2, hn1]
      | succ t =>
        have := down_at l n e3 t (by simpa using h)
        simp only [List.getElem_cons_succ]
        omega
    refine ⟨by rw [List.length_reverse, hl, hst], fun t h => ?_, fun t h => ?_, fun t h => ?_⟩
    · rw [List.getElem_reverse]
      exact (hat _ (by rw [List.length_reverse] at h; simp at h ⊢; omega)).2
    · rw [List.length_reverse] at h
      rw [List.getElem_reverse]
      have := (hat (([n] ++ l).length - 1 - t) (by simp; omega)).1
      have e : ([n] ++ l)[([n] ++ l).length - 1 - t]'(by omega) = (n :: l)[([n] ++ l).length - 1 - t]'(by simp; omega) := rfl
      rw [e]
      omega
    · rw [List.length_reverse] at h
      rw [List.getElem_reverse, List.getElem_reverse]
      have hh := down_two l n e3 (([n] ++ l).length - 1 - (t + 1)) (by simp at h ⊢; omega)
      have e : ([n] ++ l).length - 1 - (t + 1) + 1 = ([n] ++ l).length - 1 - t := by omega
      simp only [e] at hh
      exact hh
end Go.Proofs.Ytahhihhfjimppaa.B
