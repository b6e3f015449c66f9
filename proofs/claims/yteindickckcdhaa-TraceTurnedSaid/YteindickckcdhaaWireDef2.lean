/- The plain side of layer 3, more: lengths, texts, rows, sums, seals -/
import Derived.Test.YteindickckcdhaaWireDef
namespace Go.Proofs.Yteindickckcdhaa.W
set_option linter.unusedSimpArgs false
set_option linter.unusedVariables false

def len (l : List Nat) : Option (Nat × Nat) :=
  match get l with
  | some (n, k) => if 0 ≤ n ∧ n ≤ (l.length : Int) - k then some (n.toNat, k) else none
  | none => none
theorem len_some {l : List Nat} {n k : Nat} (h : len l = some (n, k)) : get l = some ((n : Int), k) ∧ (n : Int) ≤ (l.length : Int) - k := by
  unfold len at h
  cases hg : get l with
  | none => rw [hg] at h; cases h
  | some p =>
    obtain ⟨m, j⟩ := p
    rw [hg] at h
    simp only at h
    by_cases hc : 0 ≤ m ∧ m ≤ (l.length : Int) - j
    · rw [if_pos hc] at h
      simp only [Option.some.injEq, Prod.mk.injEq] at h
      obtain ⟨rfl, rfl⟩ := h
      have : ((m.toNat : Nat) : Int) = m := by omega
      rw [this]
      exact ⟨rfl, hc.2⟩
    · rw [if_neg hc] at h; cases h
theorem len_le {l : List Nat} (hl : ∀ x ∈ l, x < 256) {n k : Nat} (h : len l = some (n, k)) : 1 ≤ k ∧ k + n ≤ l.length := by
  obtain ⟨h1, h2⟩ := len_some h
  have := get_le hl h1
  omega
theorem len_of_get {l : List Nat} {n k : Nat} (h : get l = some ((n : Int), k)) (h2 : k + n ≤ l.length) : len l = some (n, k) := by
  unfold len
  rw [h]
  simp only
  rw [if_pos (by omega)]
  simp

def nums (l : List Int) : List Nat := put l.length ++ l.flatMap put
def many : Nat → List Nat → Option (List Int × Nat)
  | 0, _ => some ([], 0)
  | m + 1, l =>
    match get l with
    | none => none
    | some (n, k) => match many m (l.drop k) with
      | none => none
      | some (ns, j) => some (n :: ns, k + j)
theorem many_length {m : Nat} {l : List Nat} {ns : List Int} {j : Nat} (h : many m l = some (ns, j)) : ns.length = m := by
  induction m generalizing l ns j with
  | zero => simp only [many, Option.some.injEq, Prod.mk.injEq] at h; rw [← h.1]; rfl
  | succ m ih =>
    simp only [many] at h
    cases hg : get l with
    | none => rw [hg] at h; cases h
    | some p =>
      obtain ⟨n, k⟩ := p
      rw [hg] at h; simp only at h
      cases hm : many m (l.drop k) with
      | none => rw [hm] at h; cases h
      | some q => rw [hm] at h; simp only [Option.some.injEq, Prod.mk.injEq] at h; rw [← h.1, List.length_cons, ih hm]
theorem many_snoc {i : Nat} : ∀ {l : List Nat} {ns : List Int} {j k : Nat} {n : Int}, many i l = some (ns, j) → get (l.drop j) = some (n, k) → many (i + 1) l = some (ns ++ [n], j + k) := by
  induction i with
  | zero =>
    intro l ns j k n h hg
    simp only [many, Option.some.injEq, Prod.mk.injEq] at h
    obtain ⟨rfl, rfl⟩ := h
    simp only [List.drop_zero] at hg
    simp [many, hg]
  | succ i ih =>
    intro l ns j k n h hg
    simp only [many] at h
    cases hl : get l with
    | none => rw [hl] at h; cases h
    | some p =>
      obtain ⟨n1, k1⟩ := p
      rw [hl] at h; simp only at h
      cases hm : many i (l.drop k1) with
      | none => rw [hm] at h; cases h
      | some q =>
        obtain ⟨ns', j'⟩ := q
        rw [hm] at h; simp only [Option.some.injEq, Prod.mk.injEq] at h
        obtain ⟨rfl, rfl⟩ := h
        have := ih hm (n := n) (k := k) (by rw [List.drop_drop]; exact hg)
        rw [many, hl]; simp only
        rw [this]
        simp [Nat.add_assoc]
theorem many_fail {i : Nat} : ∀ {l : List Nat} {ns : List Int} {j m : Nat}, many i l = some (ns, j) → get (l.drop j) = none → i < m → many m l = none := by
  induction i with
  | zero =>
    intro l ns j m h hg hm
    simp only [many, Option.some.injEq, Prod.mk.injEq] at h
    obtain ⟨rfl, rfl⟩ := h
    obtain ⟨m, rfl⟩ : ∃ m', m = m' + 1 := ⟨m - 1, by omega⟩
    simp only [List.drop_zero] at hg
    simp [many, hg]
  | succ i ih =>
    intro l ns j m h hg hmi
    obtain ⟨m, rfl⟩ : ∃ m', m = m' + 1 := ⟨m - 1, by omega⟩
    simp only [many] at h ⊢
    cases hl : get l with
    | none => rfl
    | some p =>
      obtain ⟨n1, k1⟩ := p
      rw [hl] at h; simp only at h ⊢
      cases hm : many i (l.drop k1) with
      | none => rw [hm] at h; cases h
      | some q =>
        obtain ⟨ns', j'⟩ := q
        rw [hm] at h; simp only [Option.some.injEq, Prod.mk.injEq] at h
        obtain ⟨rfl, rfl⟩ := h
        rw [ih hm (by rw [List.drop_drop]; exact hg) (by omega)]
theorem many_le {m : Nat} : ∀ {l : List Nat} {ns : List Int} {j : Nat}, (∀ x ∈ l, x < 256) → many m l = some (ns, j) → m ≤ j ∧ j ≤ l.length ∧ j ≤ 10 * m ∧ ∀ n ∈ ns, -9223372036854775808 ≤ n ∧ n ≤ 9223372036854775807 := by
  induction m with
  | zero => intro l ns j hl h; simp only [many, Option.some.injEq, Prod.mk.injEq] at h; obtain ⟨rfl, rfl⟩ := h; simp
  | succ m ih =>
    intro l ns j hl h
    simp only [many] at h
    cases hg : get l with
    | none => rw [hg] at h; cases h
    | some p =>
      obtain ⟨n, k⟩ := p
      rw [hg] at h; simp only at h
      cases hm : many m (l.drop k) with
      | none => rw [hm] at h; cases h
      | some q =>
        obtain ⟨ns', j'⟩ := q
        rw [hm] at h; simp only [Option.some.injEq, Prod.mk.injEq] at h
        obtain ⟨rfl, rfl⟩ := h
        have h1 := get_le hl hg
        have h2 := ih (fun x hx => hl x (List.mem_of_mem_drop hx)) hm
        rw [List.length_drop] at h2
        refine ⟨by omega, by omega, by omega, fun x hx => ?_⟩
        rcases List.mem_cons.1 hx with rfl | hx
        · exact ⟨h1.2.2.2.1, h1.2.2.2.2⟩
        · exact h2.2.2.2 x hx
theorem many_put (ns : List Int) (r : List Nat) (h : ∀ n ∈ ns, -9223372036854775808 ≤ n ∧ n ≤ 9223372036854775807) : many ns.length (ns.flatMap put ++ r) = some (ns, (ns.flatMap put).length) := by
  induction ns with
  | nil => rfl
  | cons n ns ih =>
    have hn := h n (by simp)
    simp only [List.length_cons, many, List.flatMap_cons, List.append_assoc]
    rw [get_put n _ hn.1 hn.2]
    simp only [List.drop_left]
    rw [ih (fun x hx => h x (by simp [hx]))]
    simp
theorem many_some {m : Nat} : ∀ {l : List Nat} {ns : List Int} {j : Nat}, (∀ x ∈ l, x < 256) → many m l = some (ns, j) → ∃ r, l = ns.flatMap put ++ r ∧ j = (ns.flatMap put).length := by
  induction m with
  | zero => intro l ns j hl h; simp only [many, Option.some.injEq, Prod.mk.injEq] at h; obtain ⟨rfl, rfl⟩ := h; exact ⟨l, rfl, rfl⟩
  | succ m ih =>
    intro l ns j hl h
    simp only [many] at h
    cases hg : get l with
    | none => rw [hg] at h; cases h
    | some p =>
      obtain ⟨n, k⟩ := p
      rw [hg] at h; simp only at h
      cases hm : many m (l.drop k) with
      | none => rw [hm] at h; cases h
      | some q =>
        obtain ⟨ns', j'⟩ := q
        rw [hm] at h; simp only [Option.some.injEq, Prod.mk.injEq] at h
        obtain ⟨rfl, rfl⟩ := h
        obtain ⟨_, _, hk, r, hr⟩ := get_some hl hg
        obtain ⟨r', hr', hj⟩ := ih (fun x hx => hl x (List.mem_of_mem_drop hx)) hm
        subst hk
        rw [hr, List.drop_left] at hr'
        subst hr'
        exact ⟨r', by rw [hr]; simp, by simp [hj]⟩
def getNums (l : List Nat) : Option (List Int × Nat) :=
  match len l with
  | none => none
  | some (m, k) => match many m (l.drop k) with
    | none => none
    | some (ns, j) => some (ns, k + j)

def sumStep (p : Nat × Nat) (c : Nat) : Nat × Nat := ((p.1 + c) % 65521, (p.2 + (p.1 + c) % 65521) % 65521)
def sums (l : List Nat) : Nat × Nat := l.foldl sumStep (1, 0)
def sum (l : List Nat) : Nat := (sums l).2 * 65536 + (sums l).1
theorem sums_snoc (l : List Nat) (c : Nat) : sums (l ++ [c]) = sumStep (sums l) c := by simp [sums]
theorem sums_lt (l : List Nat) : (sums l).1 < 65521 ∧ (sums l).2 < 65521 := by
  unfold sums
  suffices ∀ p : Nat × Nat, p.1 < 65521 ∧ p.2 < 65521 → (l.foldl sumStep p).1 < 65521 ∧ (l.foldl sumStep p).2 < 65521 from this _ ⟨by decide, by decide⟩
  induction l with
  | nil => exact fun _ h => h
  | cons c l ih => intro p _; exact ih _ ⟨by simp [sumStep]; omega, by simp [sumStep]; omega⟩
theorem sum_lt (l : List Nat) : sum l < 4294967296 := by have := sums_lt l; unfold sum; omega
def sealed (l : List Nat) : List Nat := put l.length ++ l ++ put (sum l)
def opened (l : List Nat) : Option (List Nat × Nat) :=
  match len l with
  | none => none
  | some (n, k) => match get (l.drop (k + n)) with
    | none => none
    | some (s, j) => if s = (sum ((l.drop k).take n) : Nat) then some ((l.drop k).take n, k + n + j) else none
end Go.Proofs.Yteindickckcdhaa.W
