/- walks: plain, Same, awake -/
import Derived.Test.YtahhihhfjimppaaSpE
import Derived.Test.YtahhihhfjimppaaSpF
namespace Go.Proofs.Ytahhihhfjimppaa
open Go.RowKit
set_option linter.unusedSimpArgs false
set_option linter.unusedVariables false
set_option maxRecDepth 100000

theorem Own.rdk {w : World} {e : TypeId} {size g n cap : Nat} {xs : List Value} (h : Own w e size g n cap xs) : Rd w w.heap.size (some ⟨g, 0, none⟩) xs := by
  refine .inr ⟨g, 0, rfl, h.lt, fun j u hu => ?_⟩
  have hj : j < xs.length := (List.getElem?_eq_some_iff.1 hu).1
  rw [Nat.zero_add, h.cell j (by rw [← h.len]; exact hj), hu]

def S.plain : List S.Five := [(1, 0, 1, 2, 3), (2, 1, 0, 0, 3), (3, 2, 0, 0, 3)]
theorem neq_pairs (w : World) (a b c d : Int) : (Op.equalIn 10000 65 (.agg #[.int .i64 a, .int .i64 b]) (.agg #[.int .i64 c, .int .i64 d])).run Try.prog w = .ok (decide (a = c) && decide (b = d)) w := by
  have hu : Try.prog.underlying 65 = some (.array 2 3) := by kernel_rfl
  have hb : Try.prog.underlying 3 = some (.int .i64) := by kernel_rfl
  obtain ⟨i, hi⟩ : ∃ i, Try.prog.info? 3 = some i := Option.isSome_iff_exists.1 (by kernel_rfl)
  rw [show (10000 : Nat) = 9999 + 1 from rfl, run_equalIn_array w 9999 _ _ hu hi]
  have hc : Try.prog.cellsOf 3 = 1 := by kernel_rfl
  rw [hc, show List.range 2 = [0, 1] from rfl]
  by_cases h1 : a = c <;> by_cases h2 : b = d <;> simp [Op.eqItems, go_sem, hb, hi, h1, h2]

def S.plainP : List (Nat × Nat) := [(0, 0), (1, 2), (2, 1), (3, 3)]
def OfGood (w : World) (e : Ending) (w' : World) : Prop :=
  Below w.heap.size w w' ∧ ∃ g cap, e = .returned (.tuple #[.slice (some ⟨g, 0, none⟩) 4 cap, .int .i64 0]) ∧ Rd w' w'.heap.size (some ⟨g, 0, none⟩) (tcs S.plainP)
def OfBad (w : World) (e : Ending) (w' : World) : Prop :=
  Below w.heap.size w w' ∧ e = .returned (.tuple #[.slice none 0 0, .int .i64 1])
theorem of_plain (A : Option Addr) (c : Nat) (w : World) (hr : Rd w w.heap.size A (fcs S.plain)) : Calls Try.prog 20 #[.slice A 3 c] w (OfGood w) := by
  refine (of_any S.plain A c w hr (by decide)).mono ?_
  rintro e w' ⟨hb, ⟨h, _⟩ | ⟨s, g, cap, h, rfl, ho, _⟩⟩
  · exact absurd h (by decide)
  · have hs : S.run S.init S.plain = some ⟨[1, 2, 3, 0], [2, 3, 1, 0], [(3, 0)], 4⟩ := by rfl
    rw [hs] at h
    injection h with h
    subst h
    exact ⟨hb, g, cap, rfl, ho.rdk⟩
theorem of_unplain (A : Option Addr) (c : Nat) (w : World) (hr : Rd w w.heap.size A (fcs (S.plain.drop 1))) : Calls Try.prog 20 #[.slice A 2 c] w (OfBad w) := by
  refine (of_any (S.plain.drop 1) A c w hr (by decide)).mono ?_
  rintro e w' ⟨hb, ⟨_, rfl⟩ | ⟨s, g, cap, h, _⟩⟩
  · exact ⟨hb, rfl⟩
  · have hs : S.run S.init (S.plain.drop 1) = none := by decide
    rw [hs] at h
    cases h

end Go.Proofs.Ytahhihhfjimppaa
