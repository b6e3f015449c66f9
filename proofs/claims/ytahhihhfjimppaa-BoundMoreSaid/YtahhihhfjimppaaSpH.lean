/- what the law's arguments are; SpEither walked -/
import Derived.Test.YtahhihhfjimppaaSpG
import Derived.Test.YtahhihhfjimppaaFlat
namespace Go.Proofs.Ytahhihhfjimppaa
open Go.RowKit
set_option linter.unusedSimpArgs false
set_option linter.unusedVariables false
set_option maxRecDepth 100000

theorem flat_split : Flat Try.prog 59 := by
  have hi : Try.prog.underlying 3 = some (.int .i64) := by kernel_rfl
  refine flat_struct (fs := _) Try.underlying59 (by kernel_rfl) (fun f hf => ?_)
  simp only [List.mem_cons, List.not_mem_nil, or_false] at hf
  rcases hf with rfl | rfl | rfl | rfl | rfl <;> exact flat_int hi

theorem fives : ∀ (n : Nat) (zs : List Int), zs.length = n * 5 → ∃ l : List S.Five, l.length = n ∧ fcs l = is zs
  | 0, zs, h => by
    have h0 : zs = [] := List.eq_nil_of_length_eq_zero (by simpa using h)
    exact ⟨[], rfl, by rw [h0]; rfl⟩
  | n + 1, zs, h => by
    match zs, h with
    | a :: b :: c :: d :: e :: r, h =>
      obtain ⟨l, hl, hf⟩ := fives n r (by simp at h; omega)
      exact ⟨(a, b, c, d, e) :: l, by simp [hl], by rw [fcs_cons, hf]; rfl⟩
    | [], h => simp at h
    | [_], h => simp at h; omega
    | [_, _], h => simp at h; omega
    | [_, _, _], h => simp at h; omega
    | [_, _, _, _], h => simp at h; omega
theorem flat_fives {w : World} {A : Option Addr} {len cap : Nat} {zs : List Int} (h : IsFlat 5 w A len cap zs) : ∃ l : List S.Five, l.length = len ∧ Rd w w.heap.size A (fcs l) := by
  obtain ⟨l, hl, hf⟩ := fives len zs h.1
  exact ⟨l, hl, by rw [hf]; exact h.2.1⟩
end Go.Proofs.Ytahhihhfjimppaa
