/- The plain side of layer 3: beginnings that are shorter -/
import Derived.Test.YteindickckcdhaaWireDef3
namespace Go.Proofs.Yteindickckcdhaa.W
set_option linter.unusedSimpArgs false
set_option linter.unusedVariables false

theorem get_take {l : List Nat} (hl : ∀ x ∈ l, x < 256) {j : Nat} {n : Int} {k : Nat} (h : get (l.take j) = some (n, k)) : get l = some (n, k) := by
  obtain ⟨h1, h2, hk, r, hr⟩ := get_some (fun x hx => hl x (List.mem_of_mem_take hx)) h
  have : l = put n ++ (r ++ l.drop j) := by rw [← List.append_assoc, ← hr, List.take_append_drop]
  rw [this, get_put n _ h1 h2, hk]
theorem len_take_none {l : List Nat} (hl : ∀ x ∈ l, x < 256) {m k j : Nat} (h : len l = some (m, k)) (hj : j < k + m) : len (l.take j) = none := by
  obtain ⟨h1, h2⟩ := len_some h
  unfold len
  cases hg : get (l.take j) with
  | none => rfl
  | some p =>
    obtain ⟨n, k'⟩ := p
    have h3 := get_take hl hg
    rw [h1] at h3
    simp only [Option.some.injEq, Prod.mk.injEq] at h3
    obtain ⟨rfl, rfl⟩ := h3
    simp only
    rw [if_neg]
    rw [List.length_take]
    omega
theorem len_put (r t : List Nat) (h : r.length ≤ 1000000) : len (put r.length ++ (r ++ t)) = some (r.length, (put r.length).length) :=
  len_of_get (get_put _ _ (by omega) (by omega)) (by simp)
end Go.Proofs.Yteindickckcdhaa.W
