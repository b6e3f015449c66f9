/- The plain side of layer 3: rows and seals there and back; beginnings that are shorter -/
import Derived.Test.YteindickckcdhaaWireDef4
namespace Go.Proofs.Yteindickckcdhaa.W
set_option linter.unusedSimpArgs false
set_option linter.unusedVariables false

theorem len_take {l : List Nat} (hl : ∀ x ∈ l, x < 256) {m k j : Nat} (h : len (l.take j) = some (m, k)) : len l = some (m, k) ∧ k + m ≤ j := by
  have hlt : ∀ x ∈ l.take j, x < 256 := fun x hx => hl x (List.mem_of_mem_take hx)
  obtain ⟨h1, h2⟩ := len_some h
  have h3 := get_take hl h1
  have h4 := len_le hlt h
  rw [List.length_take] at h4
  exact ⟨len_of_get h3 (by omega), by omega⟩
theorem many_take {l : List Nat} (hl : ∀ x ∈ l, x < 256) {m j k : Nat} {ns : List Int} (h : many m (l.take j) = some (ns, k)) : many m l = some (ns, k) ∧ k ≤ j := by
  have hlt : ∀ x ∈ l.take j, x < 256 := fun x hx => hl x (List.mem_of_mem_take hx)
  obtain ⟨r, hr, hk⟩ := many_some hlt h
  have hle := many_le hlt h
  have hn := many_length h
  have : l = ns.flatMap put ++ (r ++ l.drop j) := by rw [← List.append_assoc, ← hr, List.take_append_drop]
  refine ⟨?_, by have := hle.2.1; rw [List.length_take] at this; omega⟩
  rw [this, ← hn, many_put ns _ hle.2.2.2, hk]
theorem getNums_take {l : List Nat} (hl : ∀ x ∈ l, x < 256) {j K : Nat} {ns : List Int} (h : getNums (l.take j) = some (ns, K)) : getNums l = some (ns, K) ∧ K ≤ j := by
  unfold getNums at h ⊢
  cases h1 : len (l.take j) with
  | none => rw [h1] at h; cases h
  | some p =>
    obtain ⟨m, k⟩ := p
    rw [h1] at h
    simp only at h
    obtain ⟨h2, h3⟩ := len_take hl h1
    rw [h2]
    simp only
    rw [List.drop_take] at h
    cases h4 : many m ((l.drop k).take (j - k)) with
    | none => rw [h4] at h; cases h
    | some q =>
      obtain ⟨ns', i⟩ := q
      rw [h4] at h
      simp only [Option.some.injEq, Prod.mk.injEq] at h
      obtain ⟨rfl, rfl⟩ := h
      obtain ⟨h5, h6⟩ := many_take (fun x hx => hl x (List.mem_of_mem_drop hx)) h4
      rw [h5]
      exact ⟨rfl, by omega⟩
theorem flat_ge (l : List Int) : l.length ≤ (l.flatMap put).length := by
  induction l with
  | nil => simp
  | cons a l ih =>
    have : 0 < (put a).length := enc_pos _
    simp at ih ⊢
    omega
theorem flat_byt (l : List Int) : ∀ x ∈ l.flatMap put, x < 256 := by
  intro x hx
  obtain ⟨n, _, h⟩ := List.mem_flatMap.1 hx
  exact enc_byt _ x h
theorem nums_byt (l : List Int) : ∀ x ∈ nums l, x < 256 := by
  intro x hx
  rcases List.mem_append.1 hx with h | h
  · exact enc_byt _ x h
  · exact flat_byt l x h
theorem getNums_nums (l : List Int) (r : List Nat) (h : ∀ n ∈ l, -9223372036854775808 ≤ n ∧ n ≤ 9223372036854775807) (hl : l.length ≤ 1000000) : getNums (nums l ++ r) = some (l, (nums l).length) := by
  have hg := flat_ge l
  have h1 : len (nums l ++ r) = some (l.length, (put l.length).length) := by
    unfold nums
    rw [List.append_assoc]
    exact len_of_get (get_put _ _ (by omega) (by omega)) (by simp at hg ⊢; omega)
  unfold getNums
  rw [h1]
  simp only
  have h2 : (nums l ++ r).drop (put l.length).length = l.flatMap put ++ r := by unfold nums; rw [List.append_assoc, List.drop_left]
  rw [h2, many_put l r h]
  simp [nums]
theorem getNums_short (l : List Int) (h : ∀ n ∈ l, -9223372036854775808 ≤ n ∧ n ≤ 9223372036854775807) (hl : l.length ≤ 1000000) {j : Nat} (hj : j < (nums l).length) : getNums ((nums l).take j) = none := by
  cases h1 : getNums ((nums l).take j) with
  | none => rfl
  | some p =>
    exfalso
    obtain ⟨ns, K⟩ := p
    obtain ⟨h2, h3⟩ := getNums_take (nums_byt l) h1
    have h4 := getNums_nums l [] h hl
    rw [List.append_nil, h2] at h4
    simp only [Option.some.injEq, Prod.mk.injEq] at h4
    omega
theorem nums_len (l : List Int) (h : ∀ n ∈ l, -9223372036854775808 ≤ n ∧ n ≤ 9223372036854775807) (hl : l.length ≤ 1000000) : 1 ≤ (nums l).length ∧ (nums l).length ≤ 10 + 10 * l.length := by
  have h1 : 0 < (put l.length).length := enc_pos _
  have h2 : (put l.length).length ≤ 10 := enc_le10 (turn_lt _ (by omega) (by omega))
  have h3 : (l.flatMap put).length ≤ 10 * l.length := by
    clear hl h1 h2
    induction l with
    | nil => simp
    | cons a l ih =>
      have h1 := h a (by simp)
      have h2 : (put a).length ≤ 10 := enc_le10 (turn_lt _ h1.1 h1.2)
      have h3 := ih (fun n hn => h n (by simp [hn]))
      simp at h3 ⊢
      omega
  unfold nums
  rw [List.length_append]
  omega

theorem sealed_byt (l : List Nat) (h : ∀ x ∈ l, x < 256) : ∀ x ∈ sealed l, x < 256 := by
  intro x hx
  unfold sealed at hx
  rcases List.mem_append.1 hx with hx | hx
  · rcases List.mem_append.1 hx with hx | hx
    · exact enc_byt _ x hx
    · exact h x hx
  · exact enc_byt _ x hx
theorem opened_sealed (l r : List Nat) (hl : l.length ≤ 1000000) : opened (sealed l ++ r) = some (l, (sealed l).length) := by
  have hs := sum_lt l
  have h1 : len (sealed l ++ r) = some (l.length, (put l.length).length) := by
    unfold sealed
    rw [List.append_assoc, List.append_assoc]
    exact len_of_get (get_put _ _ (by omega) (by omega)) (by simp)
  unfold opened
  rw [h1]
  simp only
  have h2 : (sealed l ++ r).drop ((put l.length).length + l.length) = put (sum l) ++ r := by
    unfold sealed
    rw [List.append_assoc, ← List.length_append, List.drop_left]
  have h3 : ((sealed l ++ r).drop (put l.length).length).take l.length = l := by
    unfold sealed
    rw [List.append_assoc, List.append_assoc, List.drop_left, List.take_left]
  rw [h2, get_put _ _ (by omega) (by omega), h3]
  simp only
  rw [if_pos trivial]
  simp [sealed, Nat.add_assoc]
theorem opened_take {l : List Nat} (hl : ∀ x ∈ l, x < 256) {j K : Nat} {x : List Nat} (h : opened (l.take j) = some (x, K)) : opened l = some (x, K) ∧ K ≤ j := by
  unfold opened at h ⊢
  cases h1 : len (l.take j) with
  | none => rw [h1] at h; cases h
  | some p =>
    obtain ⟨m, k⟩ := p
    rw [h1] at h
    simp only at h
    obtain ⟨h2, h3⟩ := len_take hl h1
    rw [h2]
    simp only
    rw [List.drop_take] at h
    have h5 : ((l.take j).drop k).take m = (l.drop k).take m := by
      rw [List.drop_take, List.take_take]
      congr 1
      omega
    rw [h5] at h
    cases h4 : get ((l.drop (k + m)).take (j - (k + m))) with
    | none => rw [h4] at h; cases h
    | some q =>
      obtain ⟨s, i⟩ := q
      rw [h4] at h
      simp only at h
      have hlt : ∀ x ∈ (l.drop (k + m)).take (j - (k + m)), x < 256 := fun x hx => hl x (List.mem_of_mem_drop (List.mem_of_mem_take hx))
      have h6 := get_take (fun x hx => hl x (List.mem_of_mem_drop hx)) h4
      have h7 := get_le hlt h4
      rw [List.length_take] at h7
      rw [h6]
      simp only
      by_cases hs : s = ((sum ((l.drop k).take m) : Nat) : Int)
      · rw [if_pos hs] at h ⊢
        simp only [Option.some.injEq, Prod.mk.injEq] at h
        obtain ⟨rfl, rfl⟩ := h
        exact ⟨rfl, by omega⟩
      · rw [if_neg hs] at h; cases h
theorem opened_short (l : List Nat) (hl : ∀ x ∈ l, x < 256) (hn : l.length ≤ 1000000) {j : Nat} (hj : j < (sealed l).length) : opened ((sealed l).take j) = none := by
  cases h1 : opened ((sealed l).take j) with
  | none => rfl
  | some p =>
    exfalso
    obtain ⟨x, K⟩ := p
    obtain ⟨h2, h3⟩ := opened_take (sealed_byt l hl) h1
    have h4 := opened_sealed l [] hn
    rw [List.append_nil, h2] at h4
    simp only [Option.some.injEq, Prod.mk.injEq] at h4
    omega
theorem sealed_len (l : List Nat) (hn : l.length ≤ 1000000) : (sealed l).length ≤ 20 + l.length ∧ 2 + l.length ≤ (sealed l).length := by
  have hs := sum_lt l
  have h1 : 0 < (put l.length).length := enc_pos _
  have h2 : (put l.length).length ≤ 10 := enc_le10 (turn_lt _ (by omega) (by omega))
  have h3 : 0 < (put (sum l : Nat)).length := enc_pos _
  have h4 : (put (sum l : Nat)).length ≤ 10 := enc_le10 (turn_lt _ (by omega) (by omega))
  unfold sealed
  simp only [List.length_append]
  omega
end Go.Proofs.Yteindickckcdhaa.W
