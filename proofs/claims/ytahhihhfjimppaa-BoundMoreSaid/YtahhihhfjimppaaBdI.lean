/- plain: what Chain answers -/
import Derived.Test.YtahhihhfjimppaaBdH
namespace Go.Proofs.Ytahhihhfjimppaa.B
set_option linter.unusedSimpArgs false
set_option linter.unusedVariables false

theorem inj_le : ∀ (M N : Nat) (f : Nat → Nat), (∀ i, i < N → f i < M) → (∀ i j, i < j → j < N → f i ≠ f j) → N ≤ M := by
  intro M
  induction M with
  | zero =>
    intro N f h _
    cases N with
    | zero => exact Nat.le_refl _
    | succ N => have := h 0 (by omega); omega
  | succ M ih =>
    intro N f h hi
    by_cases hex : ∃ i, i < N ∧ f i = M
    · obtain ⟨i0, h0, e0⟩ := hex
      have := ih (N - 1) (fun i => if i < i0 then f i else f (i + 1)) (fun i hi2 => ?_) (fun i j hij hj => ?_)
      · omega
      · show (if i < i0 then f i else f (i + 1)) < M
        split
        · rename_i hlt
          have h1 := h i (by omega)
          have h2 := hi i i0 hlt h0
          omega
        · have h1 := h (i + 1) (by omega)
          have h2 := hi i0 (i + 1) (by omega) (by omega)
          omega
      · show (if i < i0 then f i else f (i + 1)) ≠ (if j < i0 then f j else f (j + 1))
        split <;> split
        · exact hi i j hij (by omega)
        · exact hi i (j + 1) (by omega) (by omega)
        · omega
        · exact hi (i + 1) (j + 1) (by omega) (by omega)
    · have := ih N f (fun i hi2 => by
        have h1 := h i hi2
        have h2 : f i ≠ M := fun e => hex ⟨i, hi2, e⟩
        omega) hi
      omega
theorem su_at {us : List Nat} {i : Nat} (h : i < us.length) : su us i = us[i] := by unfold su; rw [List.getD_eq_getElem?_getD, List.getElem?_eq_getElem h]; rfl
section
variable {le : Nat → Nat → Bool} {us C : List Nat}
theorem work_le (hrefl : ∀ x, le x x = true) (hc : IsChain le us C) {n : Nat} (hn : ∀ u ∈ us, u < n) : us.length ≤ n * C.length := by
  have I := inv_stN le hrefl us us.length
  have hl := hc.len
  refine inj_le (n * C.length) us.length (fun i => su us i * C.length + rk le us i) (fun i hi => ?_) (fun i j hij hj => ?_)
  · have h1 := I.lt i hi
    have h2 := hn us[i] (List.getElem_mem hi)
    rw [← su_at hi] at h2
    show su us i * C.length + rk le us i < n * C.length
    have h3 : (su us i + 1) * C.length ≤ n * C.length := Nat.mul_le_mul_right _ h2
    rw [Nat.add_mul, Nat.one_mul] at h3
    omega
  · show su us i * C.length + rk le us i ≠ su us j * C.length + rk le us j
    intro e
    have h1 := I.lt i (by omega)
    have h2 := I.lt j hj
    rw [← hl] at h1 h2
    have hs : su us i = su us j := by
      have a : (su us i * C.length + rk le us i) / C.length = su us i := by rw [Nat.mul_comm, Nat.mul_add_div (by omega), Nat.div_eq_of_lt h1, Nat.add_zero]
      have b : (su us j * C.length + rk le us j) / C.length = su us j := by rw [Nat.mul_comm, Nat.mul_add_div (by omega), Nat.div_eq_of_lt h2, Nat.add_zero]
      rw [← a, e, b]
    have := I.r1 j hj i hij (by rw [hs]; exact hrefl _)
    rw [hs] at e
    omega
theorem chain_le (hc : IsChain le us C) : C.length ≤ us.length := by rw [hc.len]; exact (stN_okay le us us.length).len
theorem chain_pos (hrefl : ∀ x, le x x = true) (hc : IsChain le us C) : 0 < C.length ↔ 0 < us.length := by
  have I := inv_stN le hrefl us us.length
  have h1 := chain_le hc
  refine ⟨fun h => by omega, fun h => ?_⟩
  have := I.lt 0 h
  rw [hc.len]; omega
theorem none_ahead (hrefl : ∀ x, le x x = true) (hc : IsChain le us C) (h0 : 0 < C.length) {i : Nat} (hi : i < C[0]) : le (su us i) (su us C[0]) = false := by
  have I := inv_stN le hrefl us us.length
  cases h : le (su us i) (su us C[0])
  · rfl
  · have h1 := I.r1 C[0] (hc.lt 0 h0) i hi h
    have h2 := hc.rank 0 h0
    omega
theorem rk_lt (hrefl : ∀ x, le x x = true) (hc : IsChain le us C) {i : Nat} (hi : i < us.length) : rk le us i < C.length := by
  rw [hc.len]; exact (inv_stN le hrefl us us.length).lt i hi
theorem rk_up (hrefl : ∀ x, le x x = true) {i j : Nat} (hij : i < j) (hj : j < us.length) (h : le (su us i) (su us j) = true) : rk le us i < rk le us j := (inv_stN le hrefl us us.length).r1 j hj i hij h
end
/-- of one use more -/
theorem stN_more (le : Nat → Nat → Bool) (us : List Nat) (u : Nat) : ∀ k, k ≤ us.length → stN le (us ++ [u]) k = stN le us k := by
  intro k
  induction k with
  | zero => intro _; rfl
  | succ k ih =>
    intro hk
    show (stN le (us ++ [u]) k).step le k ((us ++ [u]).getD k 0) = (stN le us k).step le k (us.getD k 0)
    rw [ih (by omega), List.getD_eq_getElem?_getD, List.getElem?_append_left (by omega), ← List.getD_eq_getElem?_getD]
theorem more_len (le : Nat → Nat → Bool) (us : List Nat) (u : Nat) : (stN le us us.length).ranks.length ≤ (stN le (us ++ [u]) (us ++ [u]).length).ranks.length ∧ (stN le (us ++ [u]) (us ++ [u]).length).ranks.length ≤ (stN le us us.length).ranks.length + 1 := by
  rw [List.length_append, List.length_singleton]
  show _ ≤ (addAt (stN le (us ++ [u]) us.length).ranks _ _).length ∧ (addAt (stN le (us ++ [u]) us.length).ranks _ _).length ≤ _
  rw [stN_more le us u _ (Nat.le_refl _), addAt_length]
  split <;> omega
end Go.Proofs.Ytahhihhfjimppaa.B
