/- The plain side of layer 3: what a byte that is another one, or two that have changed places, do to the sum -/
import Derived.Test.YteindickckcdhaaWireDef5
namespace Go.Proofs.Yteindickckcdhaa.W
set_option linter.unusedSimpArgs false
set_option linter.unusedVariables false

/-- the two sums, not reduced -/
def big (p : Nat × Nat) (l : List Nat) : Nat × Nat := l.foldl (fun p c => (p.1 + c, p.2 + (p.1 + c))) p
theorem fold_big (l : List Nat) : ∀ p q : Nat × Nat, q = (p.1 % 65521, p.2 % 65521) → l.foldl sumStep q = ((big p l).1 % 65521, (big p l).2 % 65521) := by
  induction l with
  | nil => intro p q h; exact h
  | cons c l ih =>
    intro p q h
    unfold big at ih ⊢
    rw [List.foldl_cons, List.foldl_cons]
    apply ih
    subst h
    simp only [sumStep, Prod.mk.injEq]
    constructor <;> omega
theorem sums_big (l : List Nat) : sums l = ((big (1, 0) l).1 % 65521, (big (1, 0) l).2 % 65521) := fold_big l (1, 0) (1, 0) rfl
theorem big_from (l : List Nat) : ∀ s t : Nat, big (s, t) l = (s + l.sum, t + l.length * s + (big (0, 0) l).2) := by
  induction l with
  | nil => intro s t; simp [big]
  | cons c l ih =>
    intro s t
    have h1 : big (s, t) (c :: l) = big (s + c, t + (s + c)) l := rfl
    have h2 : big (0, 0) (c :: l) = big (0 + c, 0 + (0 + c)) l := rfl
    rw [h1, h2, ih, ih (0 + c)]
    simp only [List.sum_cons, List.length_cons, Prod.mk.injEq, Nat.zero_add]
    have e1 : l.length * (s + c) = l.length * s + l.length * c := Nat.mul_add _ _ _
    have e2 : (l.length + 1) * s = l.length * s + s := by rw [Nat.add_mul, Nat.one_mul]
    constructor <;> omega
theorem big_append (l m : List Nat) (p : Nat × Nat) : big p (l ++ m) = big (big p l) m := by simp [big]

theorem sum_one {a b : List Nat} {x y : Nat} (hx : x < 256) (hy : y < 256) : (sum (a ++ [x] ++ b) = sum (a ++ [y] ++ b)) ↔ x = y := by
  refine ⟨fun h => ?_, fun h => by rw [h]⟩
  have h1 := sums_lt (a ++ [x] ++ b)
  have h2 := sums_lt (a ++ [y] ++ b)
  unfold sum at h
  have h3 : (sums (a ++ [x] ++ b)).1 = (sums (a ++ [y] ++ b)).1 := by omega
  rw [sums_big, sums_big] at h3
  simp only [big_append] at h3
  generalize big (1, 0) a = p at h3
  obtain ⟨s, t⟩ := p
  have e : ∀ z, big (s, t) [z] = (s + z, t + (s + z)) := fun z => rfl
  rw [e, e, big_from, big_from b (s + y)] at h3
  simp only at h3
  omega
theorem sum_two {a b : List Nat} {x y : Nat} (hx : x < 256) (hy : y < 256) : (sum (a ++ [x, y] ++ b) = sum (a ++ [y, x] ++ b)) ↔ x = y := by
  refine ⟨fun h => ?_, fun h => by rw [h]⟩
  have h1 := sums_lt (a ++ [x, y] ++ b)
  have h2 := sums_lt (a ++ [y, x] ++ b)
  unfold sum at h
  have h3 : (sums (a ++ [x, y] ++ b)).2 = (sums (a ++ [y, x] ++ b)).2 := by omega
  rw [sums_big, sums_big] at h3
  simp only [big_append] at h3
  generalize big (1, 0) a = p at h3
  obtain ⟨s, t⟩ := p
  have e : ∀ z z', big (s, t) [z, z'] = (s + z + z', t + (s + z) + (s + z + z')) := fun z z' => rfl
  rw [e, e, big_from, big_from b (s + y + x)] at h3
  simp only at h3
  have e3 : s + x + y = s + y + x := by omega
  rw [e3] at h3
  generalize b.length * (s + y + x) = q at h3
  omega

/-- a seal of which one byte within is another one -/
theorem set_sealed (a b : List Nat) (x y : Nat) : (sealed (a ++ [x] ++ b)).set ((put ((a ++ [x] ++ b).length : Nat)).length + a.length) y = put ((a ++ [x] ++ b).length : Nat) ++ (a ++ [y] ++ b) ++ put (sum (a ++ [x] ++ b) : Nat) := by
  unfold sealed
  generalize put ((a ++ [x] ++ b).length : Nat) = p
  generalize put (sum (a ++ [x] ++ b) : Nat) = q
  have e : p ++ (a ++ [x] ++ b) ++ q = (p ++ a) ++ x :: (b ++ q) := by simp
  rw [e, show p.length + a.length = (p ++ a).length by simp, List.set_append_right _ _ (Nat.le_refl _)]
  simp
theorem opened_turned (a b : List Nat) (x y : Nat) (hn : a.length + b.length ≤ 100000) (hx : x < 256) (hy : y < 256) :
    (opened (put ((a ++ [x] ++ b).length : Nat) ++ (a ++ [y] ++ b) ++ put (sum (a ++ [x] ++ b) : Nat))).isSome = decide (x = y) := by
  have hl : (a ++ [x] ++ b).length = (a ++ [y] ++ b).length := by simp
  have hs := sum_lt (a ++ [x] ++ b)
  have hiff := sum_one (a := a) (b := b) hx hy
  have hlen : (a ++ [y] ++ b).length ≤ 1000000 := by simp; omega
  rw [hl]
  generalize sum (a ++ [x] ++ b) = s at hs hiff
  generalize a ++ [y] ++ b = o at hiff hlen
  have h1 : len (put (o.length : Nat) ++ o ++ put (s : Nat)) = some (o.length, (put (o.length : Nat)).length) := by
    rw [List.append_assoc]
    exact len_of_get (get_put _ _ (by omega) (by omega)) (by simp)
  unfold opened
  rw [h1]
  simp only
  have h2 : (put (o.length : Nat) ++ o ++ put (s : Nat)).drop ((put (o.length : Nat)).length + o.length) = put (s : Nat) ++ [] := by
    rw [← List.length_append, List.drop_left, List.append_nil]
  have h3 : ((put (o.length : Nat) ++ o ++ put (s : Nat)).drop (put (o.length : Nat)).length).take o.length = o := by
    rw [List.append_assoc, List.drop_left, List.take_left]
  rw [h2, get_put _ _ (by omega) (by omega), h3]
  simp only
  by_cases hxy : x = y
  · rw [if_pos (by rw [hiff.2 hxy])]
    simp [hxy]
  · rw [if_neg (fun h => hxy (hiff.1 (by omega)))]
    simp [hxy]
end Go.Proofs.Yteindickckcdhaa.W
