/- The conditions of one operation serve. -/
import Derived.Test.YtgaopcbjhepklaaGreatWb
import Derived.Laws.Tables
namespace Go.Proofs.YtgaopcbjhepklaaGreat
open Go.RowKit
set_option linter.unusedSimpArgs false
set_option linter.unusedVariables false

def putK (N : Fk) (dst : Option Tmp) (x : SV) (ss : SS) (K : SS → Prop) : Prop := match dst with
  | none => K ss
  | some d => chk (Nat.blt d N.n) (match ss with | ⟨s, b⟩ => K ⟨upd s d x, b⟩)
def applyB (b : Nat → Option (TypeId × List Value)) (δ : Option (Nat × TypeId × List Value)) : Nat → Option (TypeId × List Value) := match δ with
  | none => b
  | some (d, t, cs) => upd b d (some (t, cs))
/-- what is wanted behind an operation -/
def Nx (N : Fk) (K : Ctx → SS → Prop) (a : Act) (w : World) : Prop := ∃ C ss, Rep N C ss a w ∧ K C ss

theorem valK_iff {x : SV} {K : Value → Prop} (h : valK x K) : ∃ v, x = .v v ∧ K v := by
  cases x with
  | v x => exact ⟨x, rfl, h⟩
  | p b off => exact False.elim h
theorem valsK_iff {ev : Operand → SV} : ∀ {l : List Operand} {K : List Value → Prop}, valsK ev l K → ∃ vs, l.map ev = vs.map SV.v ∧ K vs
  | [], K, h => ⟨[], rfl, h⟩
  | x :: l, K, h => by
    obtain ⟨v, h1, h2⟩ := valK_iff h
    obtain ⟨vs, h3, h4⟩ := valsK_iff h2
    exact ⟨v :: vs, by simp [h1, h3], h4⟩
theorem partsK_iff {ev : Operand → SV} : ∀ {l : List (Nat × Operand)} {K : List (Nat × Value) → Prop}, partsK ev l K → ∃ ps, l.map (fun p => (p.1, ev p.2)) = ps.map (fun p => (p.1, SV.v p.2)) ∧ K ps
  | [], K, h => ⟨[], rfl, h⟩
  | (i, x) :: l, K, h => by
    obtain ⟨v, h1, h2⟩ := valK_iff h
    obtain ⟨vs, h3, h4⟩ := partsK_iff h2
    exact ⟨(i, v) :: vs, by simp [h1, h3], h4⟩
theorem optK_iff {ev : Operand → SV} {x : Option Operand} {K : Option Value → Prop} (h : optK ev x K) : ∃ v, x.map ev = v.map SV.v ∧ K v := by
  cases x with
  | none => exact ⟨none, rfl, h⟩
  | some x => obtain ⟨v, h1, h2⟩ := valK_iff h; exact ⟨some v, by simp [h1], h2⟩
theorem fillK_iff {offs : List (Nat × Option Nat)} {places : List (Nat × Nat)} (hp : offs = places.map fun p => (p.1, some p.2)) : ∀ {ps : List (Nat × Value)} {cs : List Value} {K : List Value → Prop}, fillK offs cs ps K → ∃ cs', Instr.fill (places.toArray[·]?) cs.toArray ps = some cs'.toArray ∧ K cs'
  | [], cs, K, h => ⟨cs, rfl, h⟩
  | (i, v) :: ps, cs, K, h => by
    unfold fillK at h
    split at h
    · rename_i o sz ho
      have h1 := cellsK_iff h
      obtain ⟨h2, h3⟩ := chk_iff h1
      rw [forceL_eq] at h3
      obtain ⟨cs', h4, h5⟩ := fillK_iff hp h3
      refine ⟨cs', ?_, h5⟩
      simp only [Bool.and_eq_true] at h2
      have hl := Nat.eq_of_beq_eq_true h2.1
      have hb := Nat.le_of_ble_eq_true h2.2
      simp only [Array.length_toList] at hl hb
      have hpl : places[i]? = some (o, sz) := by
        rw [hp] at ho
        rw [List.getElem?_map] at ho
        cases e : places[i]? with
        | none => rw [e] at ho; cases ho
        | some q => rw [e] at ho; simp at ho; obtain ⟨rfl, rfl⟩ := ho; rfl
      simp only [Instr.fill, List.getElem?_toArray, hpl, hl, ne_eq, not_true_eq_false, decide_false, Bool.false_or, List.size_toArray]
      rw [if_neg (by simp; omega)]
      have e1 : v.cells.zipIdx.foldl (fun cs (x : Value × Nat) => match x with | (c, j) => cs.setIfInBounds (o + j) c) cs.toArray = (putAt cs o v.cells.toList).toArray := by
        have := fill_fold v.cells.toList cs o 0
        rw [Nat.add_zero] at this
        rw [← this, ← Array.foldl_toList, Array.toList_zipIdx]
      rw [e1]
      simpa using h4
    · exact False.elim h

section
variable {P : Program} {T : List (Nat × TyI)} {N : Fk} {C : Ctx} {ρ : Nat → Nat} {ss : SS} {a : Act} {w : World} {o : Oper} {K : Ctx → SS → Prop} {Q : Exit → Act → World → Prop}
theorem wp_value {v : Value} {w' : World} {next : Act → World → Prop} (h : (execOp a.eval o).run P w = .ok (.value v) w') (hn : next (a.put o.dst v) w') : o.wp P a w next Q := by
  unfold Oper.wp
  rw [h]
  exact hn
theorem fin_slot (r : RepAt N C ρ ss a w) {x : SV} (hx : ∀ b off, x = .p b off → (ss.b b).isSome = true) {dst : Option Tmp} (h : putK N dst x ss (K C)) : Nx N K (a.put dst (x.den ρ)) w := by
  cases dst with
  | none => exact ⟨C, ss, ⟨ρ, r⟩, h⟩
  | some d =>
    obtain ⟨h1, h2⟩ := chk_iff h
    exact ⟨C, _, ⟨ρ, r.put (Nat.le_of_ble_eq_true h1) x hx⟩, h2⟩
theorem fin_v (r : RepAt N C ρ ss a w) {x : Value} {dst : Option Tmp} (h : putK N dst (.v x) ss (K C)) : Nx N K (a.put dst x) w := fin_slot (x := .v x) r (fun _ _ h => by cases h) h
theorem sem_ok {m : Sem Value} (hm : (execOp a.eval o).run P w = (do pure (Next.value (← m))).run P w) (r : RepAt N C ρ ss a w) (h : SemVC P C m fun v C' => putK N o.dst (.v v) ss (K C')) : o.wp P a w (Nx N K) Q := by
  replace h := h.out
  obtain ⟨v, w', C', h1, h2, h3, h4⟩ := h w r.rest
  refine wp_value (v := v) (w' := w') ?_ (fin_v (r.goes h2 h3) h4)
  rw [hm]
  simp [h1]
theorem addr_add (b off n : Nat) : (⟨b, off, none⟩ : Addr).add n = ⟨b, off + n, none⟩ := by unfold Addr.add; split <;> simp_all
theorem run_loadVar_box {ty : TypeId} {i : TyI} (hi : TyOk P ty i) {g off : Nat} {t : TypeId} {cs : List Value} (hg : w.heap[g]? = some (.cells cs.toArray t (0, 0))) (hag : i.d.agg = true) {l : List Value} (hl : (cs.drop off).take i.size = l) (hs : l.length = i.size) :
    (loadVar ty ⟨g, off, none⟩).run P w = .ok (.agg l.toArray) w := by
  have h1 : (loadCells ⟨g, off, none⟩ l.length).run P w = .ok l.toArray w := run_loadCells_list w _ l fun j v hv => by
    rw [addr_add, cell_of_row w g _ cs.toArray t (0, 0) hg]
    rw [← hl] at hv
    have hj := (List.getElem?_eq_some_iff.1 hv).1
    rw [List.getElem?_take, if_pos (by simp at hj; omega), List.getElem?_drop] at hv
    simpa using hv
  rw [hs] at h1
  simp [loadVar, hi.run_isAgg, hag, hi.run_size, h1]
theorem run_loadVar_one {ty : TypeId} {i : TyI} (hi : TyOk P ty i) {g off : Nat} {t : TypeId} {cs : List Value} (hg : w.heap[g]? = some (.cells cs.toArray t (0, 0))) (hag : i.d.agg = false) {v : Value} {l : List Value} (hl : cs.drop off = v :: l) :
    (loadVar ty ⟨g, off, none⟩).run P w = .ok v w := by
  have h1 : w.cell? ⟨g, off, none⟩ = some v := by
    rw [cell_of_row w g _ cs.toArray t (0, 0) hg]
    have : (cs.drop off)[0]? = some v := by rw [hl]; rfl
    rw [List.getElem?_drop] at this
    simpa using this
  simp [loadVar, hi.run_isAgg, hag, load, Sem.run, h1]
theorem run_storeVar_box {ty : TypeId} {i : TyI} (hi : TyOk P ty i) {g off : Nat} {t : TypeId} {cs : List Value} (hg : w.heap[g]? = some (.cells cs.toArray t (0, 0))) {v : Value} (hs : v.cells.toList.length = i.size) (hl : off + v.cells.toList.length ≤ cs.length) (h1 : ∀ u ∈ v.cells.toList, u.oneCell' = true) :
    (storeVar ty ⟨g, off, none⟩ v).run P w = .ok () (w.setRow g (putAt cs off v.cells.toList).toArray) := by
  have h2 := run_storeCells_at P g off t v.cells.toList 0 cs.toArray w hg (by simpa using hl) h1
  rw [putAt_eq _ _ _ hl]
  simp only [Nat.add_zero] at h2
  have hs' : v.cells.size = i.size := by simpa using hs
  simp [storeVar, hi.run_size, hs', h2]
theorem run_field {ty : TypeId} {i : TyI} (hi : TyOk P ty i) {offs : List (Nat × Option Nat)} (hd : i.d = .st offs) {f off sz : Nat} (ho : offs[f]? = some (off, some (sz + 1))) (ad : Addr) :
    (Instr.fieldAt ty (.pointer (some ad)) f).run P w = .ok (.pointer (some (ad.add off))) w := by
  have h1 := hi.desc
  cases e : P.underlying ty with
  | none => rw [e] at h1; cases h1
  | some d =>
    rw [e, hd] at h1
    injection h1 with h1
    cases d <;> try (simp [TD.of] at h1; done)
    rename_i fs
    simp only [TD.of, TD.st.injEq] at h1
    subst h1
    rw [List.getElem?_map] at ho
    cases ef : fs.toList[f]? with
    | none => rw [ef] at ho; cases ho
    | some fd =>
      rw [ef] at ho
      simp at ho
      obtain ⟨rfl, q, h2, h3⟩ := ho
      have hf : fs[f]? = some fd := by simpa using ef
      simp [Instr.fieldAt, run_underlying e, hf, Instr.sureAddr, fieldPlace, sizeOf, typeInfo, h2, h3]
theorem TyOk.built {ty : TypeId} {i : TyI} (hi : TyOk P ty i) {offs : List (Nat × Option Nat)} (hd : i.d = .st offs) {ps : List (Nat × Value)} {K : List Value → Prop} (h : fillK offs i.zv.cells.toList ps K) : ∃ cs, P.built ty ps = some cs.toArray ∧ K cs := by
  have h1 := hi.desc
  have hfull := hi.full
  have hz := hi.zero
  rw [hd] at h1 hfull
  cases e : P.underlying ty with
  | none => rw [e] at h1; cases h1
  | some d =>
    rw [e] at h1
    injection h1 with h1
    cases d <;> try (simp [TD.of] at h1; done)
    rename_i fs
    simp only [TD.of, TD.st.injEq] at h1
    have hm : ∃ places : List (Nat × Nat), fs.toList.mapM (fun f => (P.info? f.type).map fun i => (f.offset, i.size)) = some places ∧ offs = places.map fun p => (p.1, some p.2) := by
      rw [← h1] at hfull ⊢
      simp only [TD.full] at hfull
      generalize fs.toList = l at *
      clear h1 e h
      induction l with
      | nil => exact ⟨[], rfl, rfl⟩
      | cons f l ih =>
        simp only [List.map_cons, List.all_cons, Bool.and_eq_true] at hfull
        obtain ⟨pl, h2, h3⟩ := ih hfull.2
        obtain ⟨q, hq⟩ := Option.isSome_iff_exists.1 hfull.1
        cases ei : P.info? f.type with
        | none => rw [ei] at hq; cases hq
        | some fi => exact ⟨(f.offset, fi.size) :: pl, by simp [List.mapM_cons, ei, h2], by simp [ei, h3]⟩
    obtain ⟨places, h2, h3⟩ := hm
    obtain ⟨cs, h4, h5⟩ := fillK_iff h3 h
    refine ⟨cs, ?_, h5⟩
    cases ei : P.info? ty with
    | none => rw [ei] at hz; cases hz
    | some ti =>
      rw [ei] at hz
      have hz : ti.zero = some i.zv := hz
      simp only [Program.built, ei, e, hz, h2]
      exact h4
end
end Go.Proofs.YtgaopcbjhepklaaGreat
