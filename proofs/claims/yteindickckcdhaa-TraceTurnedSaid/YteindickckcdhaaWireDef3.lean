/- The plain side of layer 3: the reference's way of reading a number comes to the same -/
import Derived.Test.YteindickckcdhaaWireDef2
namespace Go.Proofs.Yteindickckcdhaa.W
set_option linter.unusedSimpArgs false
set_option linter.unusedVariables false

def val (l : List Nat) : Nat := l.foldr (fun c v => 128 * v + c % 128) 0
theorem val_enc (u : Nat) : val (enc u) = u := by
  induction u using enc.induct with
  | case1 u h => rw [enc_lt h]; simp [val]; omega
  | case2 u h ih =>
    rw [enc_ge h]
    unfold val at ih ⊢
    rw [List.foldr_cons, ih]
    omega
theorem enc_at (u : Nat) : ∀ i (h : i < (enc u).length), (i + 1 < (enc u).length → 128 ≤ (enc u)[i]) ∧ (i + 1 = (enc u).length → (enc u)[i] < 128) := by
  induction u using enc.induct with
  | case1 u h =>
    intro i hi
    have e := enc_lt h
    simp only [e] at hi ⊢
    have : i = 0 := by simpa using hi
    subst this
    exact ⟨by simp, fun _ => by simpa using h⟩
  | case2 u h ih =>
    intro i hi
    have e := enc_ge h
    simp only [e] at hi ⊢
    cases i with
    | zero =>
      have := enc_pos (u / 128)
      refine ⟨fun _ => by simp, fun h2 => ?_⟩
      simp only [List.length_cons] at h2
      omega
    | succ i =>
      simp only [List.length_cons] at hi ⊢
      have := ih i (by omega)
      simp only [List.getElem_cons_succ]
      exact ⟨fun h2 => this.1 (by omega), fun h2 => this.2 (by omega)⟩

/-- the first byte below 128 tells how many bytes the number has -/
theorem get_first {xs : List Nat} (hB : ∀ x ∈ xs, x < 256) {n : Int} {k : Nat} (h : get xs = some (n, k)) {i : Nat} (hall : ∀ j (hj : j < xs.length), j < i → 128 ≤ xs[j]) : i < k := by
  obtain ⟨h1, h2, hk, r, hr⟩ := get_some hB h
  have hp := enc_pos (turn n)
  rcases Nat.lt_or_ge i k with hlt | hge
  · exact hlt
  · exfalso
    unfold put at hk hr
    have hlt : k - 1 < xs.length := by rw [hr]; simp; omega
    have h3 := hall (k - 1) hlt (by omega)
    have h4 := (enc_at (turn n) (k - 1) (by omega)).2 (by omega)
    have h5 : xs[k - 1] = (enc (turn n))[k - 1]'(by omega) := by
      simp only [hr]
      rw [List.getElem_append_left]
    omega
theorem get_stop {xs : List Nat} (hB : ∀ x ∈ xs, x < 256) {n : Int} {k : Nat} (h : get xs = some (n, k)) {i : Nat} (hi : i < xs.length) (hlt : xs[i] < 128) (hall : ∀ j (hj : j < xs.length), j < i → 128 ≤ xs[j]) : k = i + 1 := by
  have h1 := get_first hB h hall
  obtain ⟨h2, h3, hk, r, hr⟩ := get_some hB h
  rcases Nat.lt_or_ge (i + 1) k with hl | hg
  · exfalso
    unfold put at hk hr
    have h4 := (enc_at (turn n) i (by omega)).1 (by omega)
    have h5 : xs[i] = (enc (turn n))[i]'(by omega) := by
      simp only [hr]
      rw [List.getElem_append_left]
    omega
  · omega
theorem get_none_of {xs : List Nat} (hB : ∀ x ∈ xs, x < 256) {i : Nat} (hi : i = xs.length ∨ i = 10) (hall : ∀ j (hj : j < xs.length), j < i → 128 ≤ xs[j]) : get xs = none := by
  cases h : get xs with
  | none => rfl
  | some p =>
    obtain ⟨n, k⟩ := p
    have h1 := get_first hB h hall
    have h2 := get_le hB h
    omega
/-- the reference's test -/
theorem get_test {xs : List Nat} (hB : ∀ x ∈ xs, x < 256) {i : Nat} (hi : i < xs.length) (hlt : xs[i] < 128) (hall : ∀ j (hj : j < xs.length), j < i → 128 ≤ xs[j]) :
    get xs = if put (unturn (val (xs.take (i + 1)) % 18446744073709551616)) = xs.take (i + 1) then some (unturn (val (xs.take (i + 1)) % 18446744073709551616), i + 1) else none := by
  have hr := unturn_le (val (xs.take (i + 1)) % 18446744073709551616) (by omega)
  split
  · rename_i he
    have h1 := get_put (unturn (val (xs.take (i + 1)) % 18446744073709551616)) (xs.drop (i + 1)) hr.1 hr.2
    rw [he, List.take_append_drop] at h1
    rw [h1]
    congr 2
    simp; omega
  · rename_i hne
    cases h : get xs with
    | none => rfl
    | some p =>
      exfalso
      obtain ⟨n, k⟩ := p
      have hk := get_stop hB h hi hlt hall
      obtain ⟨h2, h3, hk2, r, hr2⟩ := get_some hB h
      have e : xs.take (i + 1) = put n := by rw [← hk, hk2, hr2]; simp
      apply hne
      have ev : val (put n) = turn n := val_enc _
      rw [e, ev, Nat.mod_eq_of_lt (turn_lt n h2 h3), unturn_turn]
theorem val_cons (c : Nat) (l : List Nat) : val (c :: l) = 128 * val l + c % 128 := rfl
end Go.Proofs.Yteindickckcdhaa.W
