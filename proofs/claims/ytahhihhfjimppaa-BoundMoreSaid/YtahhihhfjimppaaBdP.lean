/- plain: Steps grows -/
import Derived.Test.YtahhihhfjimppaaBdL
namespace Go.Proofs.Ytahhihhfjimppaa.B
set_option linter.unusedSimpArgs false
set_option linter.unusedVariables false

theorem mono3 {X X' Y Y' Z Z' : Int} (x0 : 0 < X) (x1 : X ≤ X') (y0 : 0 < Y) (y1 : Y ≤ Y') (z0 : 0 < Z) (z1 : Z ≤ Z') (h : X < X' ∨ Y < Y' ∨ Z < Z') : X * (Y * Z + 1) < X' * (Y' * Z' + 1) := by
  have yz : Y * Z ≤ Y' * Z' := Int.mul_le_mul y1 z1 (by omega) (by omega)
  have yz0 : 0 < Y * Z := Int.mul_pos y0 z0
  rcases h with h | h | h
  · have a1 : X * (Y * Z + 1) ≤ X * (Y' * Z' + 1) := Int.mul_le_mul_of_nonneg_left (by omega) (by omega)
    have a2 : X * (Y' * Z' + 1) < X' * (Y' * Z' + 1) := Int.mul_lt_mul_of_pos_right h (by omega)
    omega
  · have yz2 : Y * Z < Y' * Z' := by
      have b1 : Y * Z < Y' * Z := Int.mul_lt_mul_of_pos_right h z0
      have b2 : Y' * Z ≤ Y' * Z' := Int.mul_le_mul_of_nonneg_left z1 (by omega)
      omega
    have a1 : X * (Y * Z + 1) < X * (Y' * Z' + 1) := Int.mul_lt_mul_of_pos_left (by omega) x0
    have a2 : X * (Y' * Z' + 1) ≤ X' * (Y' * Z' + 1) := Int.mul_le_mul_of_nonneg_right x1 (by omega)
    omega
  · have yz2 : Y * Z < Y' * Z' := by
      have b1 : Y * Z < Y * Z' := Int.mul_lt_mul_of_pos_left h y0
      have b2 : Y * Z' ≤ Y' * Z' := Int.mul_le_mul_of_nonneg_right y1 (by omega)
      omega
    have a1 : X * (Y * Z + 1) < X * (Y' * Z' + 1) := Int.mul_lt_mul_of_pos_left (by omega) x0
    have a2 : X * (Y' * Z' + 1) ≤ X' * (Y' * Z' + 1) := Int.mul_le_mul_of_nonneg_right x1 (by omega)
    omega
theorem steps_eq {s nd : Int} {u : Nat} {t p : Int} (h : ¬ bad s nd t p) : steps s nd u t p = p + s * (28 * s + 1) * (72 * s * (64 * (nd + s + 4)) * ((u : Int) + t + s * s + 1) + 1) := by
  unfold steps; rw [if_neg h]
theorem steps_bad {s nd : Int} {u : Nat} {t p : Int} (h : bad s nd t p) : steps s nd u t p = -1 := by
  unfold steps; rw [if_pos h]
theorem not_bad {s nd t p : Int} : ¬ bad s nd t p ↔ 1 ≤ s ∧ s ≤ 8 ∧ 0 ≤ nd ∧ nd ≤ 1000 ∧ 0 ≤ p ∧ p ≤ 1048576 ∧ 0 ≤ t ∧ t ≤ 64 := by
  unfold bad
  constructor
  · intro h; omega
  · intro h; omega
theorem facs {s nd : Int} {u : Nat} {t p : Int} (h : ¬ bad s nd t p) : 0 < s * (28 * s + 1) ∧ 0 < 72 * s * (64 * (nd + s + 4)) ∧ 0 < (u : Int) + t + s * s + 1 := by
  have hb := not_bad.1 h
  have h1 : 0 < s * (28 * s + 1) := Int.mul_pos (by omega) (by omega)
  have h2 : 0 < 72 * s * (64 * (nd + s + 4)) := Int.mul_pos (by omega) (by omega)
  have h3 : 0 ≤ s * s := Int.mul_nonneg (by omega) (by omega)
  exact ⟨h1, h2, by omega⟩
theorem steps_pos {s nd : Int} {u : Nat} {t p : Int} (h : ¬ bad s nd t p) : 0 ≤ steps s nd u t p := by
  rw [steps_eq h]
  obtain ⟨h1, h2, h3⟩ := facs (u := u) h
  have hb := not_bad.1 h
  have := Int.mul_pos h1 (show 0 < 72 * s * (64 * (nd + s + 4)) * ((u : Int) + t + s * s + 1) + 1 by have := Int.mul_pos h2 h3; omega)
  omega
/-- what a step more may come to -/
def More (n a : Int) : Prop := a < 0 ∨ n < a
theorem more_use {s nd : Int} {u : Nat} {t p : Int} (h : ¬ bad s nd t p) : More (steps s nd u t p) (steps s nd (u + 1) t p) := by
  right
  rw [steps_eq h, steps_eq h]
  obtain ⟨h1, h2, h3⟩ := facs (u := u) h
  have := mono3 h1 (Int.le_refl _) h2 (Int.le_refl _) h3 (show (u : Int) + t + s * s + 1 ≤ ((u + 1 : Nat) : Int) + t + s * s + 1 by omega) (.inr (.inr (by omega)))
  omega
theorem more_task {s nd : Int} {u : Nat} {t p : Int} (h : ¬ bad s nd t p) : More (steps s nd u t p) (steps s nd u (t + 1) p) := by
  by_cases hb : bad s nd (t + 1) p
  · left; rw [steps_bad hb]; omega
  · right
    rw [steps_eq h, steps_eq hb]
    obtain ⟨h1, h2, h3⟩ := facs (u := u) h
    have := mono3 h1 (Int.le_refl _) h2 (Int.le_refl _) h3 (show (u : Int) + t + s * s + 1 ≤ (u : Int) + (t + 1) + s * s + 1 by omega) (.inr (.inr (by omega)))
    omega
theorem more_node {s nd : Int} {u : Nat} {t p : Int} (h : ¬ bad s nd t p) : More (steps s nd u t p) (steps s (nd + 1) u t p) := by
  by_cases hb : bad s (nd + 1) t p
  · left; rw [steps_bad hb]; omega
  · right
    rw [steps_eq h, steps_eq hb]
    obtain ⟨h1, h2, h3⟩ := facs (u := u) h
    have hs := not_bad.1 h
    have hy : 72 * s * (64 * (nd + s + 4)) < 72 * s * (64 * (nd + 1 + s + 4)) := Int.mul_lt_mul_of_pos_left (by omega) (by omega)
    have := mono3 h1 (Int.le_refl _) h2 (by omega) h3 (Int.le_refl _) (.inr (.inl hy))
    omega
theorem more_seat {s nd : Int} {u : Nat} {t p : Int} (h : ¬ bad s nd t p) : More (steps s nd u t p) (steps (s + 1) nd u t p) := by
  by_cases hb : bad (s + 1) nd t p
  · left; rw [steps_bad hb]; omega
  · right
    rw [steps_eq h, steps_eq hb]
    obtain ⟨h1, h2, h3⟩ := facs (u := u) h
    have hs := not_bad.1 h
    have hx : s * (28 * s + 1) < (s + 1) * (28 * (s + 1) + 1) := by
      have a1 : s * (28 * s + 1) < (s + 1) * (28 * s + 1) := Int.mul_lt_mul_of_pos_right (by omega) (by omega)
      have a2 : (s + 1) * (28 * s + 1) ≤ (s + 1) * (28 * (s + 1) + 1) := Int.mul_le_mul_of_nonneg_left (by omega) (by omega)
      omega
    have hy : 72 * s * (64 * (nd + s + 4)) ≤ 72 * (s + 1) * (64 * (nd + (s + 1) + 4)) := Int.mul_le_mul (by omega) (by omega) (by omega) (by omega)
    have hz : s * s ≤ (s + 1) * (s + 1) := Int.mul_le_mul (by omega) (by omega) (by omega) (by omega)
    have := mono3 h1 (Int.le_of_lt hx) h2 hy h3 (show (u : Int) + t + s * s + 1 ≤ (u : Int) + t + (s + 1) * (s + 1) + 1 by omega) (.inl hx)
    omega
theorem more_pick {s nd : Int} {u : Nat} {t p : Int} (h : ¬ bad s nd t p) (hp : p ≤ 65535) : steps s nd u t (p + 1) = steps s nd u t p + 1 := by
  have hs := not_bad.1 h
  have hb : ¬ bad s nd t (p + 1) := not_bad.2 (by omega)
  rw [steps_eq h, steps_eq hb]
  omega
end Go.Proofs.Ytahhihhfjimppaa.B
