/- parts of slices, under one name for their address; bytes as a string -/
import Derived.Test.YteindickckcdhaaMem
import Derived.Laws.BytesArg
import Derived.Laws.Slices
namespace Go.Proofs.Yteindickckcdhaa
open Go.RowKit
set_option linter.unusedSimpArgs false
set_option linter.unusedVariables false

section
variable {P : Program} {w : World} {B : Nat} {A : Option Addr} {xs : List Value} {t e : TypeId} {i : TypeInfo}
theorem elem_of {t e : TypeId} (ht : P.underlying t = some (.slice e)) : P.elem t = e := by unfold Program.elem; rw [ht]
theorem cut_lh (ht : P.underlying t = some (.slice e)) (hi : P.info? e = some i) (hs : i.size = 1) (h : Rd w B A xs) (n c l m : Nat) (lI hI : Int) (hl : lI = l) (hh : hI = ((l + m : Nat) : Int)) (hn : xs.length = n) (hnc : n ≤ c) (hm : l + m ≤ c) :
    ∃ X, (∀ w', (Instr.slice t (.slice A n c) (some (.int .i64 lI)) (some (.int .i64 hI)) none).run P w' = .ok (.slice X m (c - l)) w') ∧ Rd w B X ((xs.drop l).take m) := by
  refine ⟨if c = l then A else A.map (·.add l), fun w' => ?_, (h.cut (by omega)).take m⟩
  have he := elem_of ht
  rw [run_slice_lh w' t A n c (by rw [he]; exact ht) .i64 .i64 lI hI (by omega) (by omega) (by omega)]
  subst hl hh
  simp [he, sizeOf, typeInfo, hi, hs, sliced, Result.andThen]
  omega
theorem cut_l (ht : P.underlying t = some (.slice e)) (hi : P.info? e = some i) (hs : i.size = 1) (h : Rd w B A xs) (n c l : Nat) (lI : Int) (hl : lI = l) (hn : xs.length = n) (hnc : n ≤ c) (hm : l ≤ n) :
    ∃ X, (∀ w', (Instr.slice t (.slice A n c) (some (.int .i64 lI)) none none).run P w' = .ok (.slice X (n - l) (c - l)) w') ∧ Rd w B X (xs.drop l) := by
  refine ⟨if c = l then A else A.map (·.add l), fun w' => ?_, h.cut (by omega)⟩
  have he := elem_of ht
  rw [run_slice_l w' t A n c (by rw [he]; exact ht) .i64 lI (by omega) (by omega)]
  subst hl
  simp [he, sizeOf, typeInfo, hi, hs, sliced, Result.andThen]
theorem cut_h (ht : P.underlying t = some (.slice e)) (hi : P.info? e = some i) (hs : i.size = 1) (h : Rd w B A xs) (n c m : Nat) (hI : Int) (hh : hI = m) (hm : m ≤ c) :
    (∀ w', (Instr.slice t (.slice A n c) none (some (.int .i64 hI)) none).run P w' = .ok (.slice A m c) w') ∧ Rd w B A (xs.take m) := by
  refine ⟨fun w' => ?_, h.take m⟩
  have he := elem_of ht
  rw [run_slice_h w' t A n c (by rw [he]; exact ht) .i64 hI (by omega) (by omega)]
  subst hh
  by_cases hc : c = 0
  · subst hc
    simp [he, sizeOf, typeInfo, hi, hs, sliced, Result.andThen]
  · have hz : (0 : Nat) = 0 * i.size := by omega
    have ha : ∀ o : Option Addr, o.map (·.add 0) = o := by
      intro o
      cases o with
      | none => rfl
      | some a => simp [Addr.add]
    simp [he, sizeOf, typeInfo, hi, hs, sliced, Result.andThen, hc, ha]
/-- b[:n:n] -/
theorem cut_hm (ht : P.underlying t = some (.slice e)) (hi : P.info? e = some i) (hs : i.size = 1) (h : Rd w B A xs) (n c m : Nat) (hI mI : Int) (hh : hI = m) (hmm : mI = m) (hm : m ≤ c) :
    (∀ w', (Instr.slice t (.slice A n c) none (some (.int .i64 hI)) (some (.int .i64 mI))).run P w' = .ok (.slice A m m) w') ∧ Rd w B A (xs.take m) := by
  refine ⟨fun w' => ?_, h.take m⟩
  have he := elem_of ht
  rw [run_slice_hm w' t A n c (by rw [he]; exact ht) .i64 .i64 hI mI (by omega) (by omega) (by omega)]
  subst hh hmm
  have ha : ∀ o : Option Addr, o.map (·.add 0) = o := by
    intro o
    cases o with
    | none => rfl
    | some a => simp [Addr.add]
  by_cases hc : m = 0
  · subst hc
    simp [he, sizeOf, typeInfo, hi, hs, sliced, Result.andThen]
  · simp [he, sizeOf, typeInfo, hi, hs, sliced, Result.andThen, hc, ha]
theorem conv_str {dst : TypeId} (ht : P.underlying t = some (.slice e)) (he : P.underlying e = some (.int .u8)) (hd : P.underlying dst = some .string) {l : List Nat} (h : Rd w B A (bs l)) (n c : Nat) (hn : n = l.length) :
    (convert t dst (.slice A n c)).run P w = .ok (.string (strOfNums (l.map fun b : Nat => (b : Int)))) w := by
  subst hn
  rcases h with h | ⟨b, off, rfl, hb, hc⟩
  · have : l = [] := List.eq_nil_of_length_eq_zero (by rw [← bs_length, h]; rfl)
    subst this
    rcases A with _ | ⟨b, off, sp⟩
    · rw [run_convert_bytes_nil w t e ht he _ _ dst hd]; rfl
    · have := run_convert_bytes_string (P := P) w t dst e (some ⟨b, off, sp⟩) 0 c ht he hd
      rw [show ([] : List Nat).length = 0 from rfl, this]
      have hl : (loadCells ⟨b, off, sp⟩ 0).run P w = .ok (([] : List Int).map (Value.int .u8)).toArray w := by
        simp [loadCells, loadCellsFrom]
      rw [run_bytesToString w _ 0 c [] hl]
      rfl
  · refine run_convert_bytes_arg w t e ht he b off _ c _ (by simp) (fun i hi => ?_) dst hd
    rw [hc i _ (bs_at l i hi)]
    simp [List.getD, hi]
end
end Go.Proofs.Yteindickckcdhaa
