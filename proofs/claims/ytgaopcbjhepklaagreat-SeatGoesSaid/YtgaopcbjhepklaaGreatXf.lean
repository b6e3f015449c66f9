/- Literal rows in a context of known blocks. -/
import Derived.Test.YtgaopcbjhepklaaGreatXe
namespace Go.Proofs.YtgaopcbjhepklaaGreat
open Go.RowKit
set_option linter.unusedSimpArgs false
set_option linter.unusedVariables false
set_option maxRecDepth 100000

def fillS (sz : Nat) : List Value → List (Nat × Value) → (List Value → Prop) → Prop
  | cs, [], K => K cs
  | cs, (i, v) :: l, K => cellsK v fun vs => chk (Nat.beq vs.length sz && Nat.ble (i * sz + vs.length) cs.length) (forceL (putAt cs (i * sz) vs) fun cs' => fillS sz cs' l K)
theorem fillS_iff {sz : Nat} : ∀ {ps : List (Nat × Value)} {cs : List Value} {K : List Value → Prop}, fillS sz cs ps K → ∃ cs', Instr.fill (fun i => some (i * sz, sz)) cs.toArray ps = some cs'.toArray ∧ K cs'
  | [], cs, K, h => ⟨cs, rfl, h⟩
  | (i, v) :: ps, cs, K, h => by
    unfold fillS at h
    have h1 := cellsK_iff h
    obtain ⟨h2, h3⟩ := chk_iff h1
    rw [forceL_eq] at h3
    obtain ⟨cs', h4, h5⟩ := fillS_iff h3
    refine ⟨cs', ?_, h5⟩
    simp only [Bool.and_eq_true] at h2
    have hl := Nat.eq_of_beq_eq_true h2.1
    have hb := Nat.le_of_ble_eq_true h2.2
    simp only [Array.length_toList] at hl hb
    simp only [Instr.fill, hl, ne_eq, not_true_eq_false, decide_false, Bool.false_or, List.size_toArray]
    rw [if_neg (by simp; omega)]
    have e1 : v.cells.zipIdx.foldl (fun cs (x : Value × Nat) => match x with | (c, j) => cs.setIfInBounds (i * sz + j) c) cs.toArray = (putAt cs (i * sz) v.cells.toList).toArray := by
      have := fill_fold v.cells.toList cs (i * sz) 0
      rw [Nat.add_zero] at this
      rw [← this, ← Array.foldl_toList, Array.toList_zipIdx]
    rw [e1]
    simpa using h4
section
variable {P : Program} {w0 : World} {X : Nat → Prop} {M : Mm}
/-- a literal row -/
theorem bsM {t e : TypeId} {ti te : TyI} {n : Nat} {ps : Array (Nat × Value)} (hu : P.underlying t = some (.slice e)) (hi : TyOk P e te) (hs : Nat.blt 0 (n * te.size) = true) (hm : Nat.ble (n * te.size) 1000000 = true) {K : Value → Ctx → Prop}
    (h : forceL ((List.range (n * te.size)).map fun x => te.zv.cells[x % te.zv.cells.size]!) fun cs0 => fillS te.size cs0 ps.toList fun cs => ∀ b, K (.slice (some ⟨b, 0, none⟩) n n) (CtxM w0 X ((b, .cs e cs) :: M))) : SemVC P (CtxM w0 X M) (Instr.buildSlice t n ps) K := by
  rw [forceL_eq] at h
  obtain ⟨cs, h1, h2⟩ := fillS_iff h
  have hs := Nat.le_of_ble_eq_true hs
  have hm := Nat.le_of_ble_eq_true hm
  constructor
  intro w hw
  obtain ⟨h3, h4⟩ := newM hw e cs
  refine ⟨_, _, _, ?_, h3, h4, h2 w.heap.size⟩
  have h5 : ¬ 2 ^ 24 < n * te.size := by omega
  have h6 : ¬ n * te.size = 0 := by omega
  have e1 : (Array.range (n * te.size)).map (fun x => te.zv.cells[x % te.zv.cells.size]!) = ((List.range (n * te.size)).map fun x => te.zv.cells[x % te.zv.cells.size]!).toArray := by apply Array.ext'; simp
  rw [← e1] at h1
  simp only [Instr.buildSlice, Sem.run_bind, run_underlying hu, Result.andThen_ok, hi.run_size, h5, h6, gt_iff_lt, if_false, Sem.run_pure, hi.run_zero, h1, newRow, newObj, Sem.run]
  rfl
end
end Go.Proofs.YtgaopcbjhepklaaGreat
