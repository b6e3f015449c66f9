/- Texts for the law BoundSerial, part 6: no statement of its own, lemmas for the proof; their conditions stand in them. -/
import Derived.Test.YtahhihhfjimppaaBoundSerialM5
import Derived.Laws.Tables
import Derived.Deep.LoopGhost
import Derived.Orders
/- The conditions of one operation serve. -/
namespace Go.Proofs.Ytahhihhfjimppaa
open Go.RowKit
set_option linter.unusedSimpArgs false
set_option linter.unusedVariables false

def putK (N : Nat) (dst : Option Tmp) (x : SV) (ss : SS) (K : SS → Prop) : Prop := match dst with
  | none => K ss
  | some d => chk (Nat.blt d N) (match ss with | ⟨s, b⟩ => K ⟨upd s d x, b⟩)
def applyB (b : Nat → Option (TypeId × List Value)) (δ : Option (Nat × TypeId × List Value)) : Nat → Option (TypeId × List Value) := match δ with
  | none => b
  | some (d, t, cs) => upd b d (some (t, cs))
/-- what is wanted behind an operation -/
def Nx (N : Nat) (K : Ctx → SS → Prop) (a : Act) (w : World) : Prop := ∃ C ss, Rep N C ss a w ∧ K C ss

theorem valK_iff {x : SV} {K : Value → Prop} (h : valK x K) : ∃ v, x = .v v ∧ K v := by
  cases x with
  | v x => exact ⟨x, rfl, h⟩
  | p b off => exact False.elim h
theorem valsK_iff {ev : Operand → SV} : ∀ {l : List Operand} {K : List Value → Prop}, valsK ev l K → ∃ vs, l.map ev = vs.map SV.v ∧ K vs
  | [], K, h => ⟨[], rfl, h⟩
  | x :: l, K, h => by
    obtain ⟨v, h1, h2⟩ := valK_iff h
    obtain ⟨vs, h3, h4⟩ := valsK_iff h2
    exact ⟨v :: vs, by simp [h1, h3], h4⟩
theorem partsK_iff {ev : Operand → SV} : ∀ {l : List (Nat × Operand)} {K : List (Nat × Value) → Prop}, partsK ev l K → ∃ ps, l.map (fun p => (p.1, ev p.2)) = ps.map (fun p => (p.1, SV.v p.2)) ∧ K ps
  | [], K, h => ⟨[], rfl, h⟩
  | (i, x) :: l, K, h => by
    obtain ⟨v, h1, h2⟩ := valK_iff h
    obtain ⟨vs, h3, h4⟩ := partsK_iff h2
    exact ⟨(i, v) :: vs, by simp [h1, h3], h4⟩
theorem optK_iff {ev : Operand → SV} {x : Option Operand} {K : Option Value → Prop} (h : optK ev x K) : ∃ v, x.map ev = v.map SV.v ∧ K v := by
  cases x with
  | none => exact ⟨none, rfl, h⟩
  | some x => obtain ⟨v, h1, h2⟩ := valK_iff h; exact ⟨some v, by simp [h1], h2⟩
theorem fillK_iff {offs : List (Nat × Option Nat)} {places : List (Nat × Nat)} (hp : offs = places.map fun p => (p.1, some p.2)) : ∀ {ps : List (Nat × Value)} {cs : List Value} {K : List Value → Prop}, fillK offs cs ps K → ∃ cs', Instr.fill (places.toArray[·]?) cs.toArray ps = some cs'.toArray ∧ K cs'
  | [], cs, K, h => ⟨cs, rfl, h⟩
  | (i, v) :: ps, cs, K, h => by
    unfold fillK at h
    split at h
    · rename_i o sz ho
      have h1 := cellsK_iff h
      obtain ⟨h2, h3⟩ := chk_iff h1
      rw [forceL_eq] at h3
      obtain ⟨cs', h4, h5⟩ := fillK_iff hp h3
      refine ⟨cs', ?_, h5⟩
      simp only [Bool.and_eq_true] at h2
      have hl := Nat.eq_of_beq_eq_true h2.1
      have hb := Nat.le_of_ble_eq_true h2.2
      simp only [Array.length_toList] at hl hb
      have hpl : places[i]? = some (o, sz) := by
        rw [hp] at ho
        rw [List.getElem?_map] at ho
        cases e : places[i]? with
        | none => rw [e] at ho; cases ho
        | some q => rw [e] at ho; simp at ho; obtain ⟨rfl, rfl⟩ := ho; rfl
      simp only [Instr.fill, List.getElem?_toArray, hpl, hl, ne_eq, not_true_eq_false, decide_false, Bool.false_or, List.size_toArray]
      rw [if_neg (by simp; omega)]
      have e1 : v.cells.zipIdx.foldl (fun cs (x : Value × Nat) => match x with | (c, j) => cs.setIfInBounds (o + j) c) cs.toArray = (putAt cs o v.cells.toList).toArray := by
        have := fill_fold v.cells.toList cs o 0
        rw [Nat.add_zero] at this
        rw [← this, ← Array.foldl_toList, Array.toList_zipIdx]
      rw [e1]
      simpa using h4
    · exact False.elim h

section
variable {P : Program} {T : List (Nat × TyI)} {N : Nat} {C : Ctx} {ρ : Nat → Nat} {ss : SS} {a : Act} {w : World} {o : Oper} {K : Ctx → SS → Prop} {Q : Exit → Act → World → Prop}
theorem wp_value {v : Value} {w' : World} {next : Act → World → Prop} (h : (execOp a.eval o).run P w = .ok (.value v) w') (hn : next (a.put o.dst v) w') : o.wp P a w next Q := by
  unfold Oper.wp
  rw [h]
  exact hn
theorem fin_slot (r : RepAt N C ρ ss a w) {x : SV} (hx : ∀ b off, x = .p b off → (ss.b b).isSome = true) {dst : Option Tmp} (h : putK N dst x ss (K C)) : Nx N K (a.put dst (x.den ρ)) w := by
  cases dst with
  | none => exact ⟨C, ss, ⟨ρ, r⟩, h⟩
  | some d =>
    obtain ⟨h1, h2⟩ := chk_iff h
    exact ⟨C, _, ⟨ρ, r.put (Nat.le_of_ble_eq_true h1) x hx⟩, h2⟩
theorem fin_v (r : RepAt N C ρ ss a w) {x : Value} {dst : Option Tmp} (h : putK N dst (.v x) ss (K C)) : Nx N K (a.put dst x) w := fin_slot (x := .v x) r (fun _ _ h => by cases h) h
theorem sem_ok {m : Sem Value} (hm : (execOp a.eval o).run P w = (do pure (Next.value (← m))).run P w) (r : RepAt N C ρ ss a w) (h : SemVC P C m fun v C' => putK N o.dst (.v v) ss (K C')) : o.wp P a w (Nx N K) Q := by
  replace h := h.out
  obtain ⟨v, w', C', h1, h2, h3, h4⟩ := h w r.rest
  refine wp_value (v := v) (w' := w') ?_ (fin_v (r.goes h2 h3) h4)
  rw [hm]
  simp [h1]
theorem addr_add (b off n : Nat) : (⟨b, off, none⟩ : Addr).add n = ⟨b, off + n, none⟩ := by unfold Addr.add; split <;> simp_all
theorem run_loadVar_box {ty : TypeId} {i : TyI} (hi : TyOk P ty i) {g off : Nat} {t : TypeId} {cs : List Value} (hg : w.heap[g]? = some (.cells cs.toArray t (0, 0))) (hag : i.d.agg = true) {l : List Value} (hl : (cs.drop off).take i.size = l) (hs : l.length = i.size) :
    (loadVar ty ⟨g, off, none⟩).run P w = .ok (.agg l.toArray) w := by
  have h1 : (loadCells ⟨g, off, none⟩ l.length).run P w = .ok l.toArray w := run_loadCells_list w _ l fun j v hv => by
    rw [addr_add, cell_of_row w g _ cs.toArray t (0, 0) hg]
    rw [← hl] at hv
    have hj := (List.getElem?_eq_some_iff.1 hv).1
    rw [List.getElem?_take, if_pos (by simp at hj; omega), List.getElem?_drop] at hv
    simpa using hv
  rw [hs] at h1
  simp [loadVar, hi.run_isAgg, hag, hi.run_size, h1]
theorem run_loadVar_one {ty : TypeId} {i : TyI} (hi : TyOk P ty i) {g off : Nat} {t : TypeId} {cs : List Value} (hg : w.heap[g]? = some (.cells cs.toArray t (0, 0))) (hag : i.d.agg = false) {v : Value} {l : List Value} (hl : cs.drop off = v :: l) :
    (loadVar ty ⟨g, off, none⟩).run P w = .ok v w := by
  have h1 : w.cell? ⟨g, off, none⟩ = some v := by
    rw [cell_of_row w g _ cs.toArray t (0, 0) hg]
    have : (cs.drop off)[0]? = some v := by rw [hl]; rfl
    rw [List.getElem?_drop] at this
    simpa using this
  simp [loadVar, hi.run_isAgg, hag, load, Sem.run, h1]
theorem run_storeVar_box {ty : TypeId} {i : TyI} (hi : TyOk P ty i) {g off : Nat} {t : TypeId} {cs : List Value} (hg : w.heap[g]? = some (.cells cs.toArray t (0, 0))) {v : Value} (hs : v.cells.toList.length = i.size) (hl : off + v.cells.toList.length ≤ cs.length) (h1 : ∀ u ∈ v.cells.toList, u.oneCell' = true) :
    (storeVar ty ⟨g, off, none⟩ v).run P w = .ok () (w.setRow g (putAt cs off v.cells.toList).toArray) := by
  have h2 := run_storeCells_at P g off t v.cells.toList 0 cs.toArray w hg (by simpa using hl) h1
  rw [putAt_eq _ _ _ hl]
  simp only [Nat.add_zero] at h2
  have hs' : v.cells.size = i.size := by simpa using hs
  simp [storeVar, hi.run_size, hs', h2]
theorem run_field {ty : TypeId} {i : TyI} (hi : TyOk P ty i) {offs : List (Nat × Option Nat)} (hd : i.d = .st offs) {f off sz : Nat} (ho : offs[f]? = some (off, some (sz + 1))) (ad : Addr) :
    (Instr.fieldAt ty (.pointer (some ad)) f).run P w = .ok (.pointer (some (ad.add off))) w := by
  have h1 := hi.desc
  cases e : P.underlying ty with
  | none => rw [e] at h1; cases h1
  | some d =>
    rw [e, hd] at h1
    injection h1 with h1
    cases d <;> try (simp [TD.of] at h1; done)
    rename_i fs
    simp only [TD.of, TD.st.injEq] at h1
    subst h1
    rw [List.getElem?_map] at ho
    cases ef : fs.toList[f]? with
    | none => rw [ef] at ho; cases ho
    | some fd =>
      rw [ef] at ho
      simp at ho
      obtain ⟨rfl, q, h2, h3⟩ := ho
      have hf : fs[f]? = some fd := by simpa using ef
      simp [Instr.fieldAt, run_underlying e, hf, Instr.sureAddr, fieldPlace, sizeOf, typeInfo, h2, h3]
theorem TyOk.built {ty : TypeId} {i : TyI} (hi : TyOk P ty i) {offs : List (Nat × Option Nat)} (hd : i.d = .st offs) {ps : List (Nat × Value)} {K : List Value → Prop} (h : fillK offs i.zv.cells.toList ps K) : ∃ cs, P.built ty ps = some cs.toArray ∧ K cs := by
  have h1 := hi.desc
  have hfull := hi.full
  have hz := hi.zero
  rw [hd] at h1 hfull
  cases e : P.underlying ty with
  | none => rw [e] at h1; cases h1
  | some d =>
    rw [e] at h1
    injection h1 with h1
    cases d <;> try (simp [TD.of] at h1; done)
    rename_i fs
    simp only [TD.of, TD.st.injEq] at h1
    have hm : ∃ places : List (Nat × Nat), fs.toList.mapM (fun f => (P.info? f.type).map fun i => (f.offset, i.size)) = some places ∧ offs = places.map fun p => (p.1, some p.2) := by
      rw [← h1] at hfull ⊢
      simp only [TD.full] at hfull
      generalize fs.toList = l at *
      clear h1 e h
      induction l with
      | nil => exact ⟨[], rfl, rfl⟩
      | cons f l ih =>
        simp only [List.map_cons, List.all_cons, Bool.and_eq_true] at hfull
        obtain ⟨pl, h2, h3⟩ := ih hfull.2
        obtain ⟨q, hq⟩ := Option.isSome_iff_exists.1 hfull.1
        cases ei : P.info? f.type with
        | none => rw [ei] at hq; cases hq
        | some fi => exact ⟨(f.offset, fi.size) :: pl, by simp [List.mapM_cons, ei, h2], by simp [ei, h3]⟩
    obtain ⟨places, h2, h3⟩ := hm
    obtain ⟨cs, h4, h5⟩ := fillK_iff h3 h
    refine ⟨cs, ?_, h5⟩
    cases ei : P.info? ty with
    | none => rw [ei] at hz; cases hz
    | some ti =>
      rw [ei] at hz
      have hz : ti.zero = some i.zv := hz
      simp only [Program.built, ei, e, hz, h2]
      exact h4
end
end Go.Proofs.Ytahhihhfjimppaa
/- The conditions of one operation serve: all operations. -/
namespace Go.Proofs.Ytahhihhfjimppaa
open Go.RowKit
set_option linter.unusedSimpArgs false
set_option linter.unusedVariables false
section
variable {P : Program} {T : List (Nat × TyI)} {N : Nat} {C : Ctx} {ρ : Nat → Nat} {ss : SS} {a : Act} {w : World} {o : Oper} {K : Ctx → SS → Prop} {Q : Exit → Act → World → Prop}
abbrev FinK (N : Nat) (ss : SS) (dst : Option Tmp) (K : Ctx → SS → Prop) : OutK := fun C' x δ => putK N dst x ⟨ss.s, applyB ss.b δ⟩ (K C')
theorem den_of_v {x : SV} {v : Value} (h : x = .v v) : x.den ρ = v := by rw [h]; rfl
theorem args_of (r : RepAt N C ρ ss a w) {l : List Operand} {vs : List Value} (h : l.map ss.eval = vs.map SV.v) : l.map a.eval = vs := by
  have : l.map a.eval = (l.map ss.eval).map (SV.den ρ) := by
    rw [List.map_map]
    exact List.map_congr_left fun x _ => r.eval x
  rw [this, h, List.map_map]
  simp [Function.comp_def, SV.den]
theorem parts_of (r : RepAt N C ρ ss a w) {l : List (Nat × Operand)} {ps : List (Nat × Value)} (h : l.map (fun p => (p.1, ss.eval p.2)) = ps.map (fun p => (p.1, SV.v p.2))) : l.map (fun p => (p.1, a.eval p.2)) = ps := by
  have : l.map (fun p => (p.1, a.eval p.2)) = (l.map (fun p => (p.1, ss.eval p.2))).map (fun p => (p.1, p.2.den ρ)) := by
    rw [List.map_map]
    exact List.map_congr_left fun x _ => by simp [r.eval]
  rw [this, h, List.map_map]
  simp [Function.comp_def, SV.den]
theorem opt_of (r : RepAt N C ρ ss a w) {x : Option Operand} {v : Option Value} (h : x.map ss.eval = v.map SV.v) : x.map a.eval = v := by
  cases x with
  | none => cases v with
    | none => rfl
    | some v => cases h
  | some x => cases v with
    | none => cases h
    | some v => simp at h ⊢; rw [r.eval, h]; rfl
theorem new_ok (r : RepAt N C ρ ss a w) {d : Nat} {t : TypeId} {cs : List Value} (hd : ss.b d = none) (ho : o.dst = some d) (hrun : (execOp a.eval o).run P w = .ok (.value (.pointer (some ⟨w.heap.size, 0, none⟩))) (w.alloc (.cells cs.toArray t))) (h : FinK N ss o.dst K C (.p d 0) (some (d, t, cs))) : o.wp P a w (Nx N K) Q := by
  refine wp_value hrun ?_
  have r' := r.new d hd t cs
  have := fin_slot (K := K) (x := .p d 0) (dst := o.dst) r' (fun b off e => by
    cases e
    show (upd ss.b d _ d).isSome = true
    rw [upd_same]; rfl) h
  simpa [SV.den, upd_same] using this
theorem bin_ok (r : RepAt N C ρ ss a w) {op : BinOp} {t t' : TypeId} {x y : Operand} (ho : o.op = .binOp op t x y t') {va vb : Value} (hx : ss.eval x = .v va) (hy : ss.eval y = .v vb) (h : binK P op t x y C va vb fun v C' => putK N o.dst (.v v) ss (K C')) : o.wp P a w (Nx N K) Q := by
  have ex : a.eval x = va := by rw [r.eval, hx]; rfl
  have ey : a.eval y = vb := by rw [r.eval, hy]; rfl
  have hgen : (execOp a.eval o).run P w = (do pure (Next.value (← (do eqGuard op t x y va vb; binOp op t va vb)))).run P w := by
    simp only [execOp, ho, ex, ey]
  have rest : (SemVC P C (do eqGuard op t x y va vb; binOp op t va vb) fun v C' => putK N o.dst (.v v) ss (K C')) → o.wp P a w (Nx N K) Q := fun h => sem_ok hgen r h
  have int : ∀ k1 n1 k2 n2, va = .int k1 n1 → vb = .int k2 n2 → (eqGuard op t x y va vb).run P w = .ok () w := by
    intro k1 n1 k2 n2 e1 e2
    subst e1 e2
    unfold eqGuard
    split <;> simp
  unfold binK at h
  split at h
  · rename_i k1 n1 k2 n2
    have hg := int _ _ _ _ rfl rfl
    have hval : ∀ v, (binOp op t (.int k1 n1) (.int k2 n2)).run P w = .ok v w → putK N o.dst (.v v) ss (K C) → o.wp P a w (Nx N K) Q := fun v h1 h2 => by
      refine wp_value (v := v) (w' := w) ?_ (fin_v r h2)
      rw [hgen]
      simp [hg, h1]
    have hsem : (SemVC P C (binOp op t (.int k1 n1) (.int k2 n2)) fun v C' => putK N o.dst (.v v) ss (K C')) → o.wp P a w (Nx N K) Q := fun h => by
      refine sem_ok (m := binOp op t (.int k1 n1) (.int k2 n2)) ?_ r h
      rw [hgen]
      simp [hg]
    split at h
    · exact hsem (by simpa [binOp] using h)
    · exact hsem (by simpa [binOp] using h)
    · exact hsem h
    · exact hsem h
    · exact hsem h
    · exact hsem h
    · obtain ⟨hk, h'⟩ := chk_iff h
      clear h
      have hk := of_decide_eq_true hk
      subst hk
      cases op
      all_goals first
        | exact False.elim h'
        | exact hval _ (by simp only [binOp, ne_eq, not_true_eq_false, if_false, Op.intArith, Op.intCmp]; rfl) h'
        | (obtain ⟨h0, h'⟩ := h'; exact hval _ (by simp only [binOp, ne_eq, not_true_eq_false, if_false, Op.intDiv, h0]; rfl) h')
  · exact rest h
end
end Go.Proofs.Ytahhihhfjimppaa
/- The conditions of one operation serve: the rest. -/
namespace Go.Proofs.Ytahhihhfjimppaa
open Go.RowKit
set_option linter.unusedSimpArgs false
set_option linter.unusedVariables false
section
variable {P : Program} {T : List (Nat × TyI)} {N : Nat} {C : Ctx} {ρ : Nat → Nat} {ss : SS} {a : Act} {w : World} {o : Oper} {K : Ctx → SS → Prop} {Q : Exit → Act → World → Prop}
theorem TyOk.slice {t : TypeId} {i : TyI} (hi : TyOk P t i) {sz : Nat} (hd : i.d = .sl (some sz)) : ∃ e, P.underlying t = some (.slice e) ∧ ∀ w, (sizeOf e).run P w = .ok sz w := by
  have h1 := hi.desc
  cases e : P.underlying t with
  | none => rw [e] at h1; cases h1
  | some d =>
    rw [e, hd] at h1
    injection h1 with h1
    cases d <;> try (simp [TD.of] at h1; done)
    rename_i el
    simp only [TD.of, TD.sl.injEq] at h1
    refine ⟨el, rfl, fun w => ?_⟩
    cases ei : P.info? el with
    | none => rw [ei] at h1; cases h1
    | some ti => rw [ei] at h1; injection h1 with h1; simp [sizeOf, typeInfo, ei, h1]
theorem run_sliceBound {k : IntKind} {i : Int} {y : Nat} {c : BoundsCode} (h0 : 0 ≤ i) (h1 : i ≤ y) : (Instr.sliceBound (.int k i) y c).run P w = .ok i.toNat w := by
  simp [Instr.sliceBound, asIntOf, h0, h1]
theorem slice_ok {t : TypeId} {x : Value} {lo hi : Option Value} (hT : TabOk P T) (r : RepAt N C ρ ss a w) (hm : (execOp a.eval o).run P w = (do pure (Next.value (← Instr.sliceAt t x lo hi none))).run P w)
    (h : sliceK P T C t x lo hi fun v C' => putK N o.dst (.v v) ss (K C')) : o.wp P a w (Nx N K) Q := by
  have gen : (SemVC P C (Instr.sliceAt t x lo hi none) fun v C' => putK N o.dst (.v v) ss (K C')) → o.wp P a w (Nx N K) Q := fun h => sem_ok hm r h
  unfold sliceK at h
  split at h
  · rename_i A n c i hl
    have hi := hT _ _ hl
    split at h
    · rename_i sz hd
      obtain ⟨e, hu, hs⟩ := hi.slice hd
      split at h
      · rename_i k hh
        replace h := h.out
        obtain ⟨_, h1, h2, h3⟩ := h
        simp only [Option.getD_none, Option.getD_some, Option.isSome_some, if_true] at h1 h2
        refine wp_value (w' := w) ?_ (fin_v r h3)
        rw [hm]
        simp [Instr.sliceAt, Instr.slice, run_underlying hu, Instr.sliceBounds, run_sliceBound h1 h2, hs]
      · rename_i k ll
        replace h := h.out
        obtain ⟨h0, h1, h2, h3⟩ := h
        simp only [Option.getD_none, Option.getD_some] at h0 h1
        refine wp_value (w' := w) ?_ (fin_v r h3)
        rw [hm]
        simp [Instr.sliceAt, Instr.slice, run_underlying hu, Instr.sliceBounds, run_sliceBound h0 h1, hs]
      · rename_i k ll k' hh
        replace h := h.out
        obtain ⟨h0, h1, h2, h3⟩ := h
        simp only [Option.getD_none, Option.getD_some, Option.isSome_some, if_true] at h0 h1 h2
        refine wp_value (w' := w) ?_ (fin_v r h3)
        rw [hm]
        simp [Instr.sliceAt, Instr.slice, run_underlying hu, Instr.sliceBounds, run_sliceBound (Int.le_trans h0 h1) h2, run_sliceBound h0 (show ll ≤ ((hh.toNat : Nat) : Int) by omega), hs]
      · exact gen h
    · exact False.elim h
  · exact gen h
theorem call_ok (hT : TabOk P T) (r : RepAt N C ρ ss a w) {c : Call} (ho : o.op = .call c) (h : callK P T C o.type c ss.eval fun v C' => putK N o.dst (.v v) ss (K C')) : o.wp P a w (Nx N K) Q := by
  obtain ⟨cal, args, ats⟩ := c
  unfold callK at h
  simp only at h
  have bi : ∀ (b : Builtin) (vs : List Value), cal = .builtin b → args.toList.map ss.eval = vs.map SV.v → args.map a.eval = vs.toArray := fun b vs _ h2 => by
    apply Array.ext'
    rw [Array.toList_map]
    exact args_of r h2
  have sem : ∀ (m : Sem Value), (execOp a.eval o).run P w = (do pure (Next.value (← m))).run P w → (SemVC P C m fun v C' => putK N o.dst (.v v) ss (K C')) → o.wp P a w (Nx N K) Q := fun m h1 h2 => sem_ok h1 r h2
  split at h
  · rename_i f
    obtain ⟨vs, h1, h2⟩ := valsK_iff h
    replace h2 := h2.out
    obtain ⟨he, hc⟩ := h2
    have hargs : args.map a.eval = vs.toArray := by
      apply Array.ext'
      rw [Array.toList_map]
      exact args_of r h1
    unfold Oper.wp
    have hrun : (execOp a.eval o).run P w = .ok (.enter f vs.toArray) w := by
      have := he vs.toArray w
      simp [execOp, ho, resolve, Deferred.ofValue, Act.eval, invoke, hargs, this]
    rw [hrun]
    show Calls P f vs.toArray w _
    refine (hc w r.rest).mono fun e w' ⟨v, C', h3, h4, h5, h6⟩ => ?_
    subst h3
    exact fin_v (r.goes h4 h5) h6
  · obtain ⟨vs, h1, h2⟩ := valsK_iff h
    have hargs := bi .len vs rfl h1
    split at h2
    · rename_i A n cc t hats
      split at h2
      · rename_i i hl
        split at h2
        · rename_i sz hd
          have hi := hT _ _ hl
          have hfull := hi.full
          rw [hd] at hfull
          obtain ⟨sz', rfl⟩ := Option.isSome_iff_exists.1 hfull
          obtain ⟨e, hu, _⟩ := hi.slice hd
          refine wp_value (w' := w) ?_ (fin_v r h2)
          have hats' : ats = #[t] := by rw [← Array.toArray_toList (xs := ats), hats]
          subst hats'
          simp [execOp, ho, resolve, invoke, builtin, hargs, Builtin.len_, run_underlying hu, goInt]
        · exact False.elim h2
      · exact False.elim h2
    · exact sem _ (by simp [execOp, ho, resolve, invoke, builtin, hargs]) h2
  · obtain ⟨vs, h1, h2⟩ := valsK_iff h
    have hargs := bi .append vs rfl h1
    exact sem _ (by simp [execOp, ho, resolve, invoke, builtin, hargs]) h2
  · obtain ⟨vs, h1, h2⟩ := valsK_iff h
    have hargs := bi .copy vs rfl h1
    exact sem _ (by simp [execOp, ho, resolve, invoke, builtin, hargs]) h2
  · obtain ⟨vs, h1, h2⟩ := valsK_iff h
    have hargs := bi .cap vs rfl h1
    exact sem _ (by simp [execOp, ho, resolve, invoke, builtin, hargs]) h2
  · obtain ⟨vs, h1, h2⟩ := valsK_iff h
    have hargs := bi .max vs rfl h1
    exact sem _ (by simp [execOp, ho, resolve, invoke, builtin, hargs]) h2
  · obtain ⟨vs, h1, h2⟩ := valsK_iff h
    have hargs := bi .min vs rfl h1
    exact sem _ (by simp [execOp, ho, resolve, invoke, builtin, hargs]) h2
  · exact False.elim h
/-- the conditions of an operation serve -/
theorem opK_sound (hT : TabOk P T) (r : RepAt N C ρ ss a w) (h : opK P T o C ss.eval ss.b (FinK N ss o.dst K)) : o.wp P a w (Nx N K) Q := by
  have evv : ∀ {x : Operand} {v : Value}, ss.eval x = .v v → a.eval x = v := fun {x v} h => by rw [r.eval, h]; rfl
  have evp : ∀ {x : Operand} {b off : Nat}, ss.eval x = .p b off → a.eval x = .pointer (some ⟨ρ b, off, none⟩) := fun {x b off} h => by rw [r.eval, h]; rfl
  cases ho : o.op <;> simp only [opK, ho, forceV_eq] at h <;> try exact False.elim h
  case move x => exact wp_value (w' := w) (by simp [execOp, ho, r.eval]) (fin_slot r (r.wfe x) h)
  case assign x => exact wp_value (w' := w) (by simp [execOp, ho, r.eval]) (fin_slot r (r.wfe x) h)
  case pick c x y =>
    split at h
    · rename_i t ht
      cases t with
      | true => exact wp_value (w' := w) (by simp [execOp, ho, r.eval, ht, SV.den, asBool]) (fin_slot r (r.wfe x) h)
      | false => exact wp_value (w' := w) (by simp [execOp, ho, r.eval, ht, SV.den, asBool]) (fin_slot r (r.wfe y) h)
    · exact False.elim h
  case alloc t =>
    split at h
    · rename_i d hd
      split at h
      · rename_i i hb hl
        have hi := hT _ _ hl
        have h1 := cellsK_iff h
        refine new_ok r hb hd ?_ h1
        simp [execOp, ho, Instr.alloc, hi.run_zero, newVar, newRow, newObj, Sem.run]
      · exact False.elim h
    · exact False.elim h
  case box t x =>
    split at h
    · rename_i d hd
      split at h
      · rename_i hb
        obtain ⟨v, hv, h1⟩ := valK_iff h
        have h2 := cellsK_iff h1
        refine new_ok r hb hd ?_ h2
        simp [execOp, ho, Instr.box, evv hv, newVar, newRow, newObj, Sem.run]
      · exact False.elim h
    · exact False.elim h
  case build t parts =>
    split at h
    · rename_i i hl
      split at h
      · rename_i offs hd
        have hi := hT _ _ hl
        obtain ⟨ps, hp, h1⟩ := partsK_iff h
        have h2 := cellsK_iff h1
        obtain ⟨cs, h3, h4⟩ := hi.built hd h2
        refine wp_value (w' := w) ?_ (fin_v r h4)
        have hps : (parts.map fun (x : Nat × Operand) => match x with | (i, x) => (i, a.eval x)).toList = ps := by
          rw [← parts_of r hp]
          simp
        have := run_build w t (parts.map fun (x : Nat × Operand) => match x with | (i, x) => (i, a.eval x)) cs.toArray (by rw [hps]; exact h3)
        simp only [execOp, ho, Sem.run_bind, this, Result.andThen_ok, Sem.run_pure]
      · exact False.elim h
    · exact False.elim h
  case fieldAddr t x f =>
    split at h
    · rename_i i hl
      split at h
      · rename_i offs hd
        split at h
        · rename_i off sz hf
          have hi := hT _ _ hl
          split at h
          · rename_i b o' hx
            refine wp_value (w' := w) (v := .pointer (some ⟨ρ b, o' + off, none⟩)) ?_ ?_
            · have := run_field hi hd hf (w := w) ⟨ρ b, o', none⟩
              rw [addr_add] at this
              simp [execOp, ho, evp hx, this]
            · exact fin_slot (x := .p b (o' + off)) r (fun b' off' e => by cases e; exact r.wfe x _ _ hx) h
          · rename_i ad hx
            refine wp_value (w' := w) ?_ (fin_v r h)
            have := run_field hi hd hf (w := w) ad
            simp [execOp, ho, evv hx, this]
          · exact False.elim h
        · exact False.elim h
      · exact False.elim h
    · exact False.elim h
  case load t x =>
    split at h
    · rename_i b off hx
      split at h
      · rename_i ty cs i hb hl
        have hi := hT _ _ hl
        obtain ⟨hg, _⟩ := r.box _ _ _ hb
        split at h
        · rename_i hag
          rw [forceL_eq] at h
          obtain ⟨hs, h⟩ := chk_iff h
          have hs := Nat.eq_of_beq_eq_true hs
          refine wp_value (w' := w) ?_ (fin_v r h)
          have := run_loadVar_box hi hg hag (off := off) rfl hs
          simp [execOp, ho, evp hx, Instr.loadAt, Instr.sureAddr, this]
        · rename_i hag
          split at h
          · rename_i v l hv
            refine wp_value (w' := w) ?_ (fin_v r h)
            have := run_loadVar_one hi hg hag hv
            simp [execOp, ho, evp hx, Instr.loadAt, Instr.sureAddr, this]
          · exact False.elim h
      · exact False.elim h
    · rename_i v hx
      exact sem_ok (by simp [execOp, ho, evv hx]) r h
  case store t x y =>
    split at h
    · rename_i b off hx
      split at h
      · rename_i ty cs i hb hl
        have hi := hT _ _ hl
        obtain ⟨hg, _⟩ := r.box _ _ _ hb
        obtain ⟨v, hv, h1⟩ := valK_iff h
        have h2 := cellsK_iff h1
        obtain ⟨hc, h3⟩ := chk_iff h2
        rw [forceL_eq] at h3
        simp only [Bool.and_eq_true] at hc
        have hst := run_storeVar_box hi hg (Nat.eq_of_beq_eq_true hc.1.1) (Nat.le_of_ble_eq_true hc.1.2) (allOne_spec hc.2)
        unfold Oper.wp
        have hrun : (execOp a.eval o).run P w = .ok .skip (w.setRow (ρ b) (putAt cs off v.cells.toList).toArray) := by
          simp [execOp, ho, evp hx, evv hv, Instr.storeAt, Instr.sureAddr, hst]
        rw [hrun]
        show Nx N K (a.put o.dst undef) _
        exact fin_v (r.setBox hb) h3
      · exact False.elim h
    · rename_i v hx
      obtain ⟨u, hu, h1⟩ := valK_iff h
      replace h1 := h1.out
      obtain ⟨w', C', h2, h3, h4, h5⟩ := h1 w r.rest
      unfold Oper.wp
      have hrun : (execOp a.eval o).run P w = .ok .skip w' := by simp [execOp, ho, evv hx, evv hu, h2]
      rw [hrun]
      show Nx N K (a.put o.dst undef) _
      exact fin_v (r.goes h3 h4) h5
  case binOp op t x y t' =>
    obtain ⟨va, hx, h1⟩ := valK_iff h
    obtain ⟨vb, hy, h2⟩ := valK_iff h1
    exact bin_ok r ho hx hy h2
  case unOp op t x =>
    obtain ⟨va, hx, h1⟩ := valK_iff h
    split at h1
    · refine wp_value (w' := w) ?_ (fin_v r h1)
      simp [execOp, ho, evv hx, Op.unary]
    · exact sem_ok (by simp [execOp, ho, evv hx]) r h1
  case convert s d x =>
    obtain ⟨va, hx, h1⟩ := valK_iff h
    exact sem_ok (by simp [execOp, ho, evv hx]) r h1
  case extract x i =>
    split at h
    · rename_i vs hx
      split at h
      · rename_i v hv
        refine wp_value (w' := w) ?_ (fin_v r h)
        have hv' : vs[i]? = some v := by simpa using hv
        simp [execOp, ho, evv hx, Instr.extract, hv']
      · exact False.elim h
    · exact False.elim h
  case indexAddr t x i =>
    split at h
    · rename_i A n c hx
      split at h
      · rename_i ti k kk hl hi
        split at h
        · rename_i sz hd
          obtain ⟨e, hu, hs⟩ := (hT _ _ hl).slice hd
          replace h := h.out
          obtain ⟨ad, rfl, h0, h1, h2⟩ := h
          refine wp_value (w' := w) ?_ (fin_v r h2)
          simp [execOp, ho, evv hx, evv hi, Instr.indexAt, asIntOf, run_underlying hu, h0, h1, hs]
        · exact False.elim h
      · exact False.elim h
    · exact False.elim h
  case slice t x lo hi mx =>
    cases mx with
    | some m => exact False.elim h
    | none =>
      simp only at h
      obtain ⟨vx, hx, h1⟩ := valK_iff h
      obtain ⟨vl, hl, h2⟩ := optK_iff h1
      obtain ⟨vh, hh, h3⟩ := optK_iff h2
      exact slice_ok hT r (by simp [execOp, ho, evv hx, opt_of r hl, opt_of r hh]) h3
  case buildSlice t n parts =>
    obtain ⟨ps, hp, h1⟩ := partsK_iff h
    refine sem_ok ?_ r h1
    have hps : (parts.map fun (x : Nat × Operand) => match x with | (i, x) => (i, a.eval x)) = ps.toArray := by
      apply Array.ext'
      rw [Array.toList_map]
      exact parts_of r hp
    simp only [execOp, ho, hps]
  case makeSlice t l c =>
    obtain ⟨vl, hl, h1⟩ := valK_iff h
    obtain ⟨vc, hc, h2⟩ := valK_iff h1
    exact sem_ok (by simp [execOp, ho, evv hl, evv hc]) r h2
  case call c => exact call_ok hT r ho h
end
end Go.Proofs.Ytahhihhfjimppaa
/- The conditions of code: definitions. -/
namespace Go.Proofs.Ytahhihhfjimppaa
open Go.RowKit
set_option linter.unusedSimpArgs false
set_option linter.unusedVariables false

def gsel (want : Bool) (A B : Prop) : Prop := match want with
  | true => A
  | false => B
def litB (ss : SS) (g : Nat) (b : Bool) : SS := match ss with
  | ⟨s, bx⟩ => ⟨upd s g (.v (.bool b)), bx⟩
def opAt : List Oper → Nat → Option Oper
  | [], _ => none
  | o :: _, 0 => some o
  | _ :: l, n + 1 => opAt l n
theorem opAt_eq (l : List Oper) (i : Nat) : opAt l i = l[i]? := by
  induction l generalizing i with
  | nil => simp [opAt]
  | cons o l ih => cases i with
    | zero => rfl
    | succ n => simp [opAt, ih]
/-- an operation that is guarded: wanted, or not -/
def guardK (ops : List Oper) (o : Oper) (ss : SS) (A B : SS → Prop) : Prop := match o.guard with
  | none => A ss
  | some (j, want) => match opAt ops j with
    | some og => match og.dst with
      | some g => match ss.s g with
        | .v (.bool b) => splitB b (gsel want (A (litB ss g true)) (B (litB ss g true))) (gsel want (B (litB ss g false)) (A (litB ss g false)))
        | .v (.tuple _) => B ss
        | _ => False
      | none => False
    | none => False
def finK (N : Nat) (dst : Option Tmp) (x : SV) (s : Nat → SV) (b : Nat → Option (TypeId × List Value)) (δ : Option (Nat × TypeId × List Value)) (K : SS → Prop) : Prop := match δ with
  | none => putK N dst x ⟨s, b⟩ K
  | some (d, t, cs) => putK N dst x ⟨s, upd b d (some (t, cs))⟩ K
theorem finK_eq (N : Nat) (dst : Option Tmp) (x : SV) (s : Nat → SV) (b : Nat → Option (TypeId × List Value)) (δ : Option (Nat × TypeId × List Value)) (K : SS → Prop) : finK N dst x s b δ K = putK N dst x ⟨s, applyB b δ⟩ K := by
  cases δ <;> rfl
def stepK (P : Program) (T : List (Nat × TyI)) (N : Nat) (ops : List Oper) (o : Oper) (C : Ctx) (ss : SS) (K : Ctx → SS → Prop) : Prop :=
  guardK ops o ss (fun ss => match ss with | ⟨s, b⟩ => opK P T o C (SS.eval ⟨s, b⟩) b fun C' x δ => finK N o.dst x s b δ (K C')) (fun ss => putK N o.dst (.v undef) ss (K C))
theorem stepK_eq (P : Program) (T : List (Nat × TyI)) (N : Nat) (ops : List Oper) (o : Oper) (C : Ctx) (ss : SS) (K : Ctx → SS → Prop) : stepK P T N ops o C ss K = guardK ops o ss (fun ss => opK P T o C ss.eval ss.b fun C' x δ => putK N o.dst x ⟨ss.s, applyB ss.b δ⟩ (K C')) (fun ss => putK N o.dst (.v undef) ss (K C)) := by
  unfold stepK
  simp only [finK_eq]
def opsK (P : Program) (T : List (Nat × TyI)) (N : Nat) (ops : List Oper) (l : List Oper) : Ctx → SS → (Ctx → SS → Prop) → Prop :=
  List.rec (motive := fun _ => Ctx → SS → (Ctx → SS → Prop) → Prop) (fun C ss K => K C ss) (fun o _ ih C ss K => stepK P T N ops o C ss fun C' ss' => ih C' ss' K) l

/-! ### regions that draw their order -/
inductive Plan where
  | done
  | pure (i : Nat) (late : List Nat) (next : Plan)
  | alt (i : Nat) (next : Plan) (more : Plan)
  | stop
def pureOp : Op → Bool
  | .move _ | .assign _ | .pick .. | .build .. | .fieldAddr .. | .load .. | .binOp .. | .unOp .. | .extract .. | .indexAddr .. | .slice .. => true
  | .call { callee := .builtin .len, .. } => true
  | _ => false
/-- the conditions of an operation that yields a value and turns nothing; rb: the box that it reads -/
def pureK (T : List (Nat × TyI)) (o : Oper) (ev : Operand → SV) (bx : Nat → Option (TypeId × List Value)) (K : SV → Option Nat → Prop) : Prop :=
  match o.op with
  | .move x => forceV (ev x) fun x => K x none
  | .assign x => forceV (ev x) fun x => K x none
  | .pick c a b => match ev c with
    | .v (.bool t) => splitB t (forceV (ev a) fun x => K x none) (forceV (ev b) fun x => K x none)
    | _ => False
  | .build t parts => match lookT T t with
    | some i => match i.d with
      | .st offs => partsK ev parts.toList fun ps => cellsK i.zv fun cs => fillK offs cs ps fun cs => K (.v (.agg cs.toArray)) none
      | _ => False
    | none => False
  | .fieldAddr t x f => match lookT T t with
    | some i => match i.d with
      | .st offs => match offs[f]? with
        | some (o, some (sz + 1)) => match ev x with
          | .p b off => K (.p b (off + o)) none
          | .v (.pointer (some a)) => K (.v (.pointer (some (a.add o)))) none
          | _ => False
        | _ => False
      | _ => False
    | none => False
  | .load t x => match ev x with
    | .p b off => match bx b, lookT T t with
      | some (_, cs), some i => match i.d.agg with
        | true => forceL ((cs.drop off).take i.size) fun l => chk (Nat.beq l.length i.size) (K (.v (.agg l.toArray)) (some b))
        | false => match cs.drop off with
          | v :: _ => K (.v v) (some b)
          | [] => False
      | _, _ => False
    | _ => False
  | .binOp op t x y _ => valK (ev x) fun a => valK (ev y) fun b => match a, b with
    | .int k a, .int k' b => match op with
      | .shl => False
      | .shr => False
      | .and => False
      | .or => False
      | .xor => False
      | .andNot => False
      | op => chk (decide (k = k')) (intK op k a b fun v => K (.v v) none)
    | _, _ => False
  | .unOp op _ x => valK (ev x) fun a => match op, a with
    | .not, .bool b => K (.v (.bool !b)) none
    | _, _ => False
  | .extract x i => match ev x with
    | .v (.tuple vs) => match vs.toList[i]? with
      | some v => K (.v v) none
      | none => False
    | _ => False
  | .indexAddr t x i => match ev x with
    | .v (.slice A n c) => match lookT T t, ev i with
      | some ti, .v (.int _ k) => match ti.d with
        | .sl (some sz) => IdxVC A n k sz fun v => K (.v v) none
        | _ => False
      | _, _ => False
    | _ => False
  | .slice t x lo hi none => valK (ev x) fun x => optK ev lo fun lo => optK ev hi fun hi => match x, lookT T t with
    | .slice A n c, some i => match i.d with
      | .sl (some sz) => match lo, hi with
        | none, some (.int _ h) => CutVC A n c sz none (some h) fun v => K (.v v) none
        | some (.int _ l), none => CutVC A n c sz (some l) none fun v => K (.v v) none
        | some (.int _ l), some (.int _ h) => CutVC A n c sz (some l) (some h) fun v => K (.v v) none
        | _, _ => False
      | _ => False
    | _, _ => False
  | .call c => match c.callee with
    | .builtin .len => valsK ev c.args.toList fun vs => match vs, c.argTypes.toList with
      | [.slice _ n _], [t] => match lookT T t with
        | some i => match i.d with
          | .sl _ => K (.v (.int .i64 n)) none
          | _ => False
        | none => False
      | _, _ => False
    | _ => False
  | _ => False
/-- the stores that may come ahead are of other boxes -/
def lateK (ss : SS) (rb : Option Nat) : List Nat → Prop → Prop
  | [], A => A
  | t :: l, A => match rb with
    | none => A
    | some b => match ss.s t with
      | .p b' _ => match Nat.beq b' b with
        | true => False
        | false => lateK ss rb l A
      | _ => False
def planK (P : Program) (T : List (Nat × TyI)) (N : Nat) (ops : List Oper) (π : Plan) : Ctx → SS → (Ctx → SS → Prop) → Prop :=
  Plan.rec (motive := fun _ => Ctx → SS → (Ctx → SS → Prop) → Prop) (fun C ss K => K C ss)
    (fun i late _ ih C ss K => match opAt ops i with
      | some o => guardK ops o ss
          (fun ss => pureK T o ss.eval ss.b fun x rb => lateK ss rb late (putK N o.dst x ss fun ss' => ih C ss' K))
          (fun ss => putK N o.dst (.v undef) ss fun ss' => ih C ss' K)
      | none => False)
    (fun i _ more ih ih2 C ss K => match opAt ops i with
      | some o => match more with
        | .stop => stepK P T N ops o C ss fun C' ss' => ih C' ss' K
        | _ => (stepK P T N ops o C ss fun C' ss' => ih C' ss' K) ∧ ih2 C ss K
      | none => False)
    (fun _ _ _ => True) π
theorem planK_done (P : Program) (T : List (Nat × TyI)) (N : Nat) (ops : List Oper) (C : Ctx) (ss : SS) (K : Ctx → SS → Prop) : planK P T N ops .done C ss K = K C ss := rfl
theorem planK_stop (P : Program) (T : List (Nat × TyI)) (N : Nat) (ops : List Oper) (C : Ctx) (ss : SS) (K : Ctx → SS → Prop) : planK P T N ops .stop C ss K = True := rfl
theorem planK_pure (P : Program) (T : List (Nat × TyI)) (N : Nat) (ops : List Oper) (i : Nat) (late : List Nat) (next : Plan) (C : Ctx) (ss : SS) (K : Ctx → SS → Prop) : planK P T N ops (.pure i late next) C ss K = match opAt ops i with
      | some o => guardK ops o ss
          (fun ss => pureK T o ss.eval ss.b fun x rb => lateK ss rb late (putK N o.dst x ss fun ss' => planK P T N ops next C ss' K))
          (fun ss => putK N o.dst (.v undef) ss fun ss' => planK P T N ops next C ss' K)
      | none => False := rfl
theorem planK_alt_eq (P : Program) (T : List (Nat × TyI)) (N : Nat) (ops : List Oper) (i : Nat) (next more : Plan) (C : Ctx) (ss : SS) (K : Ctx → SS → Prop) : planK P T N ops (.alt i next more) C ss K = match opAt ops i with
      | some o => match more with
        | .stop => stepK P T N ops o C ss fun C' ss' => planK P T N ops next C' ss' K
        | more => (stepK P T N ops o C ss fun C' ss' => planK P T N ops next C' ss' K) ∧ planK P T N ops more C ss K
      | none => False := by
  show (match opAt ops i with
      | some o => match more with
        | .stop => stepK P T N ops o C ss fun C' ss' => planK P T N ops next C' ss' K
        | _ => (stepK P T N ops o C ss fun C' ss' => planK P T N ops next C' ss' K) ∧ planK P T N ops more C ss K
      | none => False) = _
  split
  · cases more <;> rfl
  · rfl

/-! ### code -/
def falls : Code → Bool
  | .ret => false
  | .exit _ => false
  | .goto _ => false
  | .seq a b => falls a && falls b
  | .cond _ a b => falls a || falls b
  | _ => true
def guarded : List Oper → Bool
  | [] => false
  | o :: l => match o.guard with
    | none => guarded l
    | some _ => true
def joins : Code → Bool
  | .cond _ a b => falls a && falls b
  | .region _ ops _ => guarded ops.toList
  | .block _ _ => false
  | _ => false
/-- less is known of a state -/
def Wk (ss : SS) (Ψ : SS → Prop) : Prop := ∀ N C ρ a w, RepAt N C ρ ss a w → ∃ ss', Ψ ss' ∧ RepAt N C ρ ss' a w
theorem Wk.self {ss : SS} {Ψ : SS → Prop} (h : Ψ ss) : Wk ss Ψ := fun N C ρ a w r => ⟨ss, h, r⟩
theorem Wk.mono {ss : SS} {Ψ Ψ' : SS → Prop} (h : Wk ss Ψ) (hk : ∀ ss, Ψ ss → Ψ' ss) : Wk ss Ψ' := fun N C ρ a w r => by
  obtain ⟨ss', h1, h2⟩ := h N C ρ a w r
  exact ⟨ss', hk _ h1, h2⟩
structure JoinVC (A : (Ctx → SS → Prop) → Prop) (K : Ctx → SS → Prop) : Prop where
  out : A K ∨ ∃ J : Ctx → SS → Prop, A (fun C ss => Wk ss (J C)) ∧ ∀ C ss, J C ss → K C ss
theorem JoinVC.go {A : (Ctx → SS → Prop) → Prop} {K : Ctx → SS → Prop} (h : A K) : JoinVC A K := ⟨.inl h⟩
theorem JoinVC.cut {A : (Ctx → SS → Prop) → Prop} {K : Ctx → SS → Prop} (J : Ctx → SS → Prop) (h : A (fun C ss => Wk ss (J C))) (hk : ∀ C ss, J C ss → K C ss) : JoinVC A K := ⟨.inr ⟨J, h, hk⟩⟩
structure LoopVC (B : Ctx → SS → (Ctx → SS → Prop) → Prop) (C : Ctx) (ss : SS) : Prop where
  out : ∃ (Inv : Nat → Ctx → SS → Prop) (n : Nat), Wk ss (Inv n C) ∧ ∀ n C ss, Inv n C ss → B C ss fun C' ss' => ∃ n', n' < n ∧ Wk ss' (Inv n' C')
theorem LoopVC.intro {B : Ctx → SS → (Ctx → SS → Prop) → Prop} {C : Ctx} {ss : SS} (Inv : Nat → Ctx → SS → Prop) (n : Nat) (h0 : Wk ss (Inv n C)) (h : ∀ n C ss, Inv n C ss → B C ss fun C' ss' => ∃ n', n' < n ∧ Wk ss' (Inv n' C')) : LoopVC B C ss := by
  exact ⟨⟨Inv, n, h0, h⟩⟩
/-- some slots and boxes are known; the other slots have some values -/
def mkS : List (Nat × SV) → (Nat → Value) → Nat → SV
  | [], r, t => .v (r t)
  | (d, x) :: l, r, t => bif Nat.beq t d then x else mkS l r t
def mkB : List (Nat × TypeId × List Value) → Nat → Option (TypeId × List Value)
  | [], _ => none
  | (d, x) :: l, t => bif Nat.beq t d then some x else mkB l t
def fitS (ss : SS) : List (Nat × SV) → Prop
  | [] => True
  | (d, x) :: l => ss.s d = x ∧ fitS ss l
def fitB (ss : SS) : List (Nat × TypeId × List Value) → Prop
  | [] => True
  | (d, x) :: l => ss.b d = some x ∧ fitB ss l
def ptrOk (bl : List (Nat × TypeId × List Value)) : List (Nat × SV) → Bool
  | [] => true
  | (_, .p b _) :: l => (mkB bl b).isSome && ptrOk bl l
  | (_, .v _) :: l => ptrOk bl l
theorem beq_false {t d : Nat} (h : t ≠ d) : Nat.beq t d = false := by
  cases e : Nat.beq t d with
  | false => rfl
  | true => exact absurd (Nat.eq_of_beq_eq_true e) h
theorem mkB_fit {ss : SS} : ∀ {bl : List (Nat × TypeId × List Value)}, fitB ss bl → ∀ b x, mkB bl b = some x → ss.b b = some x
  | [], _, b, x, h => by cases h
  | (d, y) :: l, hf, b, x, h => by
    by_cases e : b = d
    · subst e
      simp only [mkB, Nat.beq_refl, cond_true] at h
      rw [hf.1, h]
    · simp only [mkB, beq_false e, cond_false] at h
      exact mkB_fit hf.2 b x h
theorem mkS_fit {ss : SS} {ρ : Nat → Nat} : ∀ {l : List (Nat × SV)}, fitS ss l → ∀ t, (mkS l (fun t => (ss.s t).den ρ) t).den ρ = (ss.s t).den ρ
  | [], _, t => rfl
  | (d, y) :: l, hf, t => by
    by_cases e : t = d
    · subst e
      simp only [mkS, Nat.beq_refl, cond_true]
      rw [hf.1]
    · simp only [mkS, beq_false e, cond_false]
      exact mkS_fit hf.2 t
theorem mkS_ptr {bl : List (Nat × TypeId × List Value)} {r : Nat → Value} : ∀ {l : List (Nat × SV)}, ptrOk bl l = true → ∀ t b off, mkS l r t = .p b off → (mkB bl b).isSome = true
  | [], _, t, b, off, h => by cases h
  | (d, y) :: l, hp, t, b, off, h => by
    have hl : ptrOk bl l = true := by
      cases y with
      | v x => exact hp
      | p b off => simp only [ptrOk, Bool.and_eq_true] at hp; exact hp.2
    by_cases e : t = d
    · subst e
      simp only [mkS, Nat.beq_refl, cond_true] at h
      subst h
      simp only [ptrOk, Bool.and_eq_true] at hp
      exact hp.1
    · simp only [mkS, beq_false e, cond_false] at h
      exact mkS_ptr hl t b off h
theorem Wk.fit {ss : SS} {Ψ : SS → Prop} (l : List (Nat × SV)) (bl : List (Nat × TypeId × List Value)) (h1 : fitS ss l) (h2 : fitB ss bl) (hp : ptrOk bl l = true) (h : ∀ r, Ψ ⟨mkS l r, mkB bl⟩) : Wk ss Ψ := fun N C ρ a w r => by
  refine ⟨_, h fun t => (ss.s t).den ρ, r.size, r.nod, fun t => ?_, fun b ty cs hb => r.box b ty cs (mkB_fit h2 b _ hb), fun b b' hb hb' e => ?_, fun t b off ht => mkS_ptr hp t b off ht, r.rest⟩
  · rw [r.slot t]
    exact (mkS_fit h1 t).symm
  · have some_of : ∀ b, (mkB bl b).isSome = true → (ss.b b).isSome = true := fun b h => by
      obtain ⟨x, hx⟩ := Option.isSome_iff_exists.1 h
      rw [mkB_fit h2 b x hx]; rfl
    exact r.inj b b' (some_of b hb) (some_of b' hb') e
abbrev EK := Exit → Ctx → SS → Prop
def blockE (id : Nat) (K : Ctx → SS → Prop) (E : EK) : EK := fun e C ss => match e with
  | .exit id' => match Nat.beq id' id with
    | true => K C ss
    | false => E (.exit id') C ss
  | e => E e C ss
def vc (P : Program) (T : List (Nat × TyI)) (N : Nat) (D : Nat → Plan) : Code → Ctx → SS → (Ctx → SS → Prop) → EK → Prop
  | .skip, C, ss, K, _ => K C ss
  | .label _, C, ss, K, _ => K C ss
  | .region id ops draw, C, ss, K, _ => match draw with
    | false => opsK P T N ops.toList ops.toList C ss K
    | true => planK P T N ops.toList (D id) C ss K
  | .seq x y, C, ss, K, E => match joins x with
    | true => JoinVC (fun J => vc P T N D x C ss J E) fun C' ss' => vc P T N D y C' ss' K E
    | false => vc P T N D x C ss (fun C' ss' => vc P T N D y C' ss' K E) E
  | .cond c x y, C, ss, K, E => match ss.eval c with
    | .v (.bool b) => splitB b (vc P T N D x C ss K E) (vc P T N D y C ss K E)
    | _ => False
  | .block id c, C, ss, K, E => vc P T N D c C ss K (blockE id K E)
  | .loop c, C, ss, _, E => LoopVC (fun C ss K => vc P T N D c C ss K E) C ss
  | .exit id, C, ss, _, E => E (.exit id) C ss
  | .goto l, C, ss, _, E => E (.goto l) C ss
  | .ret, C, ss, _, E => E .ret C ss
  | .scope _, _, _, _, _ => False
  | .rangeFunc .., _, _, _, _ => False
  | .refuse _, _, _, _, _ => False
end Go.Proofs.Ytahhihhfjimppaa
/- The conditions of code serve. -/
namespace Go.Proofs.Ytahhihhfjimppaa
open Go.RowKit
set_option linter.unusedSimpArgs false
set_option linter.unusedVariables false

def liftQ (N : Nat) (K : Ctx → SS → Prop) (E : EK) : Exit → Act → World → Prop := fun e a w => match e with
  | .normal => Nx N K a w
  | e => Nx N (E e) a w
theorem litB_eq {ss : SS} {g : Nat} {b : Bool} (h : ss.s g = .v (.bool b)) : litB ss g b = ss := by
  have : upd ss.s g (.v (.bool b)) = ss.s := by
    funext t
    by_cases e : t = g
    · subst e; rw [upd_same, h]
    · rw [upd_ne _ _ e]
  simp [litB, this]
section
variable {P : Program} {T : List (Nat × TyI)} {N : Nat} {D : Nat → Plan} {C : Ctx} {ρ : Nat → Nat} {ss : SS} {a : Act} {w : World} {o : Oper} {K : Ctx → SS → Prop} {E : EK} {Q : Exit → Act → World → Prop} {ops : Array Oper}
theorem guardK_iff {A B : SS → Prop} (r : RepAt N C ρ ss a w) (h : guardK ops.toList o ss A B) : (Region.wanted o (yielded ops a.tmps) = true ∧ A ss) ∨ (Region.wanted o (yielded ops a.tmps) = false ∧ B ss) := by
  unfold guardK at h
  split at h
  · rename_i hg
    exact .inl ⟨by simp [Region.wanted, hg], h⟩
  · rename_i j want hg
    split at h
    · rename_i og hj
      split at h
      · rename_i g hd
        split at h
        · rename_i b hb
          have hslot : a.tmps.getD g undef = .bool b := by rw [r.slot g, hb]; rfl
          have hs : a.tmps[g]? = some (.bool b) := by
            rw [Array.getD_eq_getD_getElem?] at hslot
            cases e : a.tmps[g]? with
            | none => rw [e] at hslot; simp [undef] at hslot
            | some v => rw [e] at hslot; simp at hslot; rw [hslot]
          have hoj : ops[j]? = some og := by rw [opAt_eq] at hj; simpa using hj
          have hy : yielded ops a.tmps j = some b := by simp [yielded, hoj, hd, hs]
          have hw : Region.wanted o (yielded ops a.tmps) = (b == want) := by simp [Region.wanted, hg, hy]
          rw [hw]
          cases b with
          | true =>
            rw [litB_eq hb] at h
            cases want with
            | true => exact .inl ⟨rfl, h⟩
            | false => exact .inr ⟨rfl, h⟩
          | false =>
            simp only [splitB] at h
            rw [litB_eq hb] at h
            cases want with
            | true => exact .inr ⟨rfl, h⟩
            | false => exact .inl ⟨rfl, h⟩
        · rename_i vs hb
          have hslot : a.tmps.getD g undef = .tuple vs := by rw [r.slot g, hb]; rfl
          have hoj : ops[j]? = some og := by rw [opAt_eq] at hj; simpa using hj
          have hy : yielded ops a.tmps j = none := by
            rw [Array.getD_eq_getD_getElem?] at hslot
            simp only [yielded, hoj, Option.bind_some, hd]
            cases e : a.tmps[g]? with
            | none => rfl
            | some v => rw [e] at hslot; simp at hslot; rw [hslot]
          exact .inr ⟨by simp [Region.wanted, hg, hy], h⟩
        · exact False.elim h
      · exact False.elim h
    · exact False.elim h
theorem stepK_sound (hT : TabOk P T) (r : RepAt N C ρ ss a w) (h : stepK P T N ops.toList o C ss K) : if Region.wanted o (yielded ops a.tmps) = true then o.wp P a w (Nx N K) Q else Nx N K (a.put o.dst undef) w := by
  rw [stepK_eq] at h
  rcases guardK_iff r h with ⟨h1, h2⟩ | ⟨h1, h2⟩
  · rw [if_pos h1]
    exact opK_sound hT r h2
  · rw [if_neg (by rw [h1]; simp)]
    exact fin_v r h2
theorem opsK_sound (hT : TabOk P T) : ∀ (rest : List Oper) {C : Ctx} {ss : SS} {a : Act} {w : World}, Rep N C ss a w → opsK P T N ops.toList rest C ss K → wpList P ops (liftQ N K E) rest a w
  | [], C, ss, a, w, ⟨ρ, r⟩, h => ⟨C, ss, ⟨ρ, r⟩, h⟩
  | o :: rest, C, ss, a, w, ⟨ρ, r⟩, h => by
    refine wpList_step fun K' hK' => ?_
    have h1 := stepK_sound (Q := liftQ N K E) hT r h
    split
    · rename_i hw
      rw [if_pos hw] at h1
      refine Oper.wp_mono (fun a' w' ⟨C', ss', r', h'⟩ => ?_) h1
      exact hK' _ _ (opsK_sound hT rest r' h')
    · rename_i hw
      rw [if_neg hw] at h1
      obtain ⟨C', ss', r', h'⟩ := h1
      exact hK' _ _ (opsK_sound hT rest r' h')
/-- what a plan has to be -/
def DrawOk (P : Program) (T : List (Nat × TyI)) (N : Nat) (ops : Array Oper) (π : Plan) : Prop :=
  ∀ (id : Nat) (C : Ctx) (ss : SS) (K : Ctx → SS → Prop) (E : EK) (a : Act) (w : World), planK P T N ops.toList π C ss K → Rep N C ss a w → (Code.region id ops true).wp P (liftQ N K E) a w
def drawsOk (P : Program) (T : List (Nat × TyI)) (N : Nat) (D : Nat → Plan) : Code → Prop
  | .region id ops true => DrawOk P T N ops (D id)
  | .seq x y => drawsOk P T N D x ∧ drawsOk P T N D y
  | .cond _ x y => drawsOk P T N D x ∧ drawsOk P T N D y
  | .block _ c => drawsOk P T N D c
  | .loop c => drawsOk P T N D c
  | _ => True
theorem vc_sound (hT : TabOk P T) : ∀ (c : Code), drawsOk P T N D c → ∀ {C : Ctx} {ss : SS} {K : Ctx → SS → Prop} {E : EK} {a : Act} {w : World}, Rep N C ss a w → vc P T N D c C ss K E → c.wp P (liftQ N K E) a w := by
  intro c
  induction c with
  | skip => intro _ C ss K E a w r h; exact wp_skip ⟨C, ss, r, h⟩
  | label l => intro _ C ss K E a w r h; exact wp_label ⟨C, ss, r, h⟩
  | region id ops draw =>
    intro hd C ss K E a w r h
    cases draw with
    | false => exact wp_region_list (opsK_sound hT _ r h)
    | true => exact hd id C ss K E a w h r
  | seq x y ihx ihy =>
    intro hd C ss K E a w r h
    have go : vc P T N D x C ss (fun C' ss' => vc P T N D y C' ss' K E) E → (Code.seq x y).wp P (liftQ N K E) a w := fun h => by
      refine wp_seq (wp_mono (ihx hd.1 r h) fun e a' w' hq => ?_)
      cases e with
      | normal => obtain ⟨C', ss', r', h'⟩ := hq; exact ihy hd.2 r' h'
      | _ => exact hq
    simp only [vc] at h
    split at h
    · replace h := h.out
      rcases h with h | ⟨J, h1, h2⟩
      · exact go h
      refine wp_seq (wp_mono (ihx hd.1 r h1) fun e a' w' hq => ?_)
      cases e with
      | normal =>
        obtain ⟨C', ss', ⟨ρ, r'⟩, h'⟩ := hq
        obtain ⟨ss'', h3, h4⟩ := h' _ _ _ _ _ r'
        exact ihy hd.2 ⟨ρ, h4⟩ (h2 _ _ h3)
      | _ => exact hq
    · exact go h
  | cond c x y ihx ihy =>
    intro hd C ss K E a w r h
    simp only [vc] at h
    split at h
    · rename_i b hb
      obtain ⟨ρ, r'⟩ := r
      have hc : a.eval c = .bool b := by rw [r'.eval, hb]; rfl
      cases b with
      | true => exact wp_cond_true hc (ihx hd.1 ⟨ρ, r'⟩ h)
      | false => exact wp_cond_false hc (ihy hd.2 ⟨ρ, r'⟩ h)
    · exact False.elim h
  | block id c ih =>
    intro hd C ss K E a w r h
    refine wp_block (wp_mono (ih hd r h) fun e a' w' hq => ?_)
    cases e with
    | exit id' =>
      obtain ⟨C', ss', r', h'⟩ := hq
      simp only [blockE] at h'
      simp only [Exit.inBlock]
      split at h'
      · rename_i e
        rw [if_pos (Nat.eq_of_beq_eq_true e)]
        exact ⟨C', ss', r', h'⟩
      · rename_i e
        rw [if_neg (fun e' => by rw [e', Nat.beq_refl] at e; cases e)]
        exact ⟨C', ss', r', h'⟩
    | _ => exact hq
  | loop c ih =>
    intro hd C ss K E a w r h
    simp only [vc] at h
    replace h := h.out
    obtain ⟨Inv, n, h0, h1⟩ := h
    obtain ⟨ρ, r⟩ := r
    obtain ⟨ss0, h2, h3⟩ := h0 _ _ _ _ _ r
    refine wp_loop_ghost (fun n a w => ∃ C ss, Rep N C ss a w ∧ Inv n C ss) n ⟨C, ss0, ⟨ρ, h3⟩, h2⟩ fun n a w ⟨C, ss, r, hi⟩ => ?_
    refine wp_mono (ih hd r (h1 n C ss hi)) fun e a' w' hq => ?_
    cases e with
    | normal =>
      obtain ⟨C', ss', ⟨ρ, r'⟩, n', hn, h'⟩ := hq
      obtain ⟨ss'', h4, h5⟩ := h' _ _ _ _ _ r'
      exact ⟨n', hn, C', ss'', ⟨ρ, h5⟩, h4⟩
    | _ => exact hq
  | exit id => intro _ C ss K E a w r h; exact wp_exit ⟨C, ss, r, h⟩
  | goto l => intro _ C ss K E a w r h; exact wp_goto ⟨C, ss, r, h⟩
  | ret => intro _ C ss K E a w r h; exact wp_ret ⟨C, ss, r, h⟩
  | scope c ih => intro _ C ss K E a w r h; exact False.elim h
  | rangeFunc f p x y ihx ihy => intro _ C ss K E a w r h; exact False.elim h
  | refuse s => intro _ C ss K E a w r h; exact False.elim h

/-! ### functions -/
def startS (args : List Value) : Nat → SV := fun t => match args, t with
  | [], _ => .v undef
  | x :: _, 0 => .v x
  | _ :: l, t + 1 => startS l t
theorem startS_eq : ∀ (args : List Value) (t : Nat), startS args t = .v (args.getD t undef)
  | [], t => by simp [startS]
  | x :: l, 0 => by simp [startS]
  | x :: l, t + 1 => by simp only [startS]; rw [startS_eq l t]; simp
def noBox : Nat → Option (TypeId × List Value) := fun _ => none
/-- the value that comes back -/
def resK (T : List (Nat × TyI)) (ss : SS) : List ResultVar → (List Value → Prop) → Prop
  | [], K => K []
  | .tmp t :: l, K => valK (ss.s t) fun v => resK T ss l fun vs => K (v :: vs)
  | .cell t ty :: l, K => match ss.s t with
    | .p b off => match ss.b b, lookT T ty with
      | some (_, cs), some i => match i.d.agg with
        | true => forceL ((cs.drop off).take i.size) fun l' => chk (Nat.beq l'.length i.size) (resK T ss l fun vs => K (.agg l'.toArray :: vs))
        | false => match cs.drop off with
          | v :: _ => resK T ss l fun vs => K (v :: vs)
          | [] => False
      | _, _ => False
    | _ => False
def tupV : List Value → Value
  | [v] => v
  | vs => .tuple vs.toArray
def RetK (T : List (Nat × TyI)) (fn : Func) (R : Ending → World → Prop) (C : Ctx) (ss : SS) : Prop := resK T ss fn.results.toList fun vs => ∀ w, C.R w → R (.returned (tupV vs)) w
def bodyE (T : List (Nat × TyI)) (fn : Func) (R : Ending → World → Prop) : EK := fun e C ss => match e with
  | .ret => RetK T fn R C ss
  | _ => False
theorem resK_run (hT : TabOk P T) (r : RepAt N C ρ ss a w) : ∀ {l : List ResultVar} {K : List Value → Prop}, resK T ss l K → ∃ vs, (l.mapM fun v => match v with | .tmp t => pure (a.tmps.getD t undef) | .cell x t => do loadVar t (← asAddr (a.tmps.getD x undef)) : Sem (List Value)).run P w = .ok vs w ∧ K vs
  | [], K, h => ⟨[], by simp, h⟩
  | .tmp t :: l, K, h => by
    obtain ⟨v, hv, h1⟩ := valK_iff h
    obtain ⟨vs, h2, h3⟩ := resK_run hT r h1
    refine ⟨v :: vs, ?_, h3⟩
    have : a.tmps.getD t undef = v := by rw [r.slot t, hv]; rfl
    simp only [List.mapM_cons, Sem.run_bind, Sem.run_pure, Result.andThen_ok, this, h2]
  | .cell t ty :: l, K, h => by
    unfold resK at h
    split at h
    · rename_i b off hx
      have ht : a.tmps.getD t undef = .pointer (some ⟨ρ b, off, none⟩) := by rw [r.slot t, hx]; rfl
      have has : (asAddr (.pointer (some ⟨ρ b, off, none⟩))).run P w = .ok ⟨ρ b, off, none⟩ w := by simp [asAddr]
      split at h
      · rename_i ty' cs i hb hl
        have hi := hT _ _ hl
        obtain ⟨hg, _⟩ := r.box _ _ _ hb
        split at h
        · rename_i hag
          rw [forceL_eq] at h
          obtain ⟨hs, h⟩ := chk_iff h
          have hs := Nat.eq_of_beq_eq_true hs
          obtain ⟨vs, h2, h3⟩ := resK_run hT r h
          refine ⟨_, ?_, h3⟩
          have := run_loadVar_box hi hg hag (off := off) rfl hs
          simp only [List.mapM_cons, Sem.run_bind, Sem.run_pure, Result.andThen_ok, ht, has, this, h2]
        · rename_i hag
          split at h
          · rename_i v l' hv
            obtain ⟨vs, h2, h3⟩ := resK_run hT r h
            refine ⟨_, ?_, h3⟩
            have := run_loadVar_one hi hg hag hv
            simp only [List.mapM_cons, Sem.run_bind, Sem.run_pure, Result.andThen_ok, ht, has, this, h2]
          · exact False.elim h
      · exact False.elim h
    · exact False.elim h
theorem RetK_sound (hT : TabOk P T) {fn : Func} {R : Ending → World → Prop} (r : RepAt N C ρ ss a w) (h : RetK T fn R C ss) : a.defers = [] ∧ ∃ v, (results fn a.tmps).run P w = .ok v w ∧ R (.returned v) w := by
  obtain ⟨vs, h1, h2⟩ := resK_run hT r h
  refine ⟨r.nod, tupV vs, ?_, h2 w r.rest⟩
  unfold results
  rw [Array.mapM_eq_mapM_toList]
  simp only [Sem.run_bind, map_eq_pure_bind, Sem.run_pure]
  erw [h1]
  simp only [Result.andThen_ok]
  congr 1
  match vs with
  | [] => rfl
  | [v] => rfl
  | v :: v' :: vs => simp [tupV]
theorem calls_of_vc (hT : TabOk P T) {f : FuncId} {fn : Func} {c : Code} {args : List Value} {R : Ending → World → Prop} (hf : P.funcs[f]? = some fn) (hb : fn.body = some c) (hN : fn.ntmps = N) (hlen : Nat.ble args.length N = true) (hd : drawsOk P T N D c) (C : Ctx) (hR : C.R w)
    (h : vc P T N D c C ⟨startS args, noBox⟩ (RetK T fn R) (bodyE T fn R)) : Calls P f args.toArray w R := by
  refine calls_of_wp hf hb ?_
  have hlen := Nat.le_of_ble_eq_true hlen
  have r : Rep N C ⟨startS args, noBox⟩ { tmps := args.toArray ++ Array.replicate (fn.ntmps - args.toArray.size) undef, defers := [] } w := by
    refine ⟨fun _ => 0, ?_, rfl, fun t => ?_, (fun b ty cs h => nomatch h), (fun b b' h _ _ => nomatch h), fun t b off h => ?_, hR⟩
    · simp [hN]; omega
    · show _ = SV.den _ (startS args t)
      rw [startS_eq]
      simp only [SV.den]
      rw [Array.getD_eq_getD_getElem?, List.getD_eq_getElem?_getD, Array.getElem?_append]
      split
      · simp
      · rename_i hlt
        simp at hlt
        rw [List.getElem?_eq_none hlt, Array.getElem?_replicate]
        split <;> rfl
    · have h : startS args t = .p b off := h
      rw [startS_eq] at h; cases h
  refine wp_mono (vc_sound hT c hd r h) fun e a w hq => ?_
  cases e with
  | normal => obtain ⟨C, ss, ⟨ρ, r⟩, h⟩ := hq; exact RetK_sound hT r h
  | ret => obtain ⟨C, ss, ⟨ρ, r⟩, h⟩ := hq; exact RetK_sound hT r h
  | _ => obtain ⟨C, ss, ⟨ρ, r⟩, h⟩ := hq; exact False.elim h
end
end Go.Proofs.Ytahhihhfjimppaa
/- Regions that draw their order: what a plan has to be. -/
namespace Go.Proofs.Ytahhihhfjimppaa
open Go.RowKit
set_option linter.unusedSimpArgs false
set_option linter.unusedVariables false
section
variable {P : Program} {T : List (Nat × TyI)} {N : Nat} {C : Ctx} {o : Oper}
/-! ### conditions grow -/
theorem SemVC.mono {m : Sem Value} {K K' : Value → Ctx → Prop} (hk : ∀ v C, K v C → K' v C) (h : SemVC P C m K) : SemVC P C m K' := by
  constructor; replace h := h.out
  intro w hw
  obtain ⟨v, w', C', h1, h2, h3, h4⟩ := h w hw
  exact ⟨v, w', C', h1, h2, h3, hk _ _ h4⟩
theorem StoVC.mono {m : Sem Unit} {K K' : Ctx → Prop} (hk : ∀ C, K C → K' C) (h : StoVC P C m K) : StoVC P C m K' := by
  constructor; replace h := h.out
  intro w hw
  obtain ⟨w', C', h1, h2, h3, h4⟩ := h w hw
  exact ⟨w', C', h1, h2, h3, hk _ h4⟩
theorem CallVC.mono {f : FuncId} {args : Array Value} {K K' : Value → Ctx → Prop} (hk : ∀ v C, K v C → K' v C) (h : CallVC P C f args K) : CallVC P C f args K' := by
  constructor; replace h := h.out
  exact ⟨h.1, fun w hw => (h.2 w hw).mono fun e w' ⟨v, C', h1, h2, h3, h4⟩ => ⟨v, C', h1, h2, h3, hk _ _ h4⟩⟩
theorem IdxVC.mono {A : Option Addr} {n : Nat} {i : Int} {sz : Nat} {K K' : Value → Prop} (hk : ∀ v, K v → K' v) (h : IdxVC A n i sz K) : IdxVC A n i sz K' := by
  constructor; replace h := h.out
  obtain ⟨a, h1, h2, h3, h4⟩ := h
  exact ⟨a, h1, h2, h3, hk _ h4⟩
theorem CutVC.mono {A : Option Addr} {n c sz : Nat} {lo hi : Option Int} {K K' : Value → Prop} (hk : ∀ v, K v → K' v) (h : CutVC A n c sz lo hi K) : CutVC A n c sz lo hi K' := by
  constructor; replace h := h.out
  exact ⟨h.1, h.2.1, h.2.2.1, hk _ h.2.2.2⟩
theorem forceL.mono {l : List Value} {K K' : List Value → Prop} (hk : ∀ l, K l → K' l) (h : forceL l K) : forceL l K' := by rw [forceL_eq] at *; exact hk _ h
theorem chk.mono {b : Bool} {A A' : Prop} (hk : A → A') (h : chk b A) : chk b A' := by cases b with
  | true => exact hk h
  | false => exact h
theorem splitB.mono {b : Bool} {A A' B B' : Prop} (h1 : A → A') (h2 : B → B') (h : splitB b A B) : splitB b A' B' := by cases b with
  | true => exact h1 h
  | false => exact h2 h
theorem cellsK.mono {x : Value} {K K' : List Value → Prop} (hk : ∀ l, K l → K' l) (h : cellsK x K) : cellsK x K' := by
  cases x with
  | agg cs => exact forceL.mono (l := cs.toList) hk h
  | _ => first | exact hk _ h | exact False.elim h
theorem valK.mono {x : SV} {K K' : Value → Prop} (hk : ∀ v, K v → K' v) (h : valK x K) : valK x K' := by cases x with
  | v x => exact hk _ h
  | p b off => exact h
theorem valsK.mono {ev : Operand → SV} : ∀ {l : List Operand} {K K' : List Value → Prop}, (∀ v, K v → K' v) → valsK ev l K → valsK ev l K'
  | [], K, K', hk, h => hk _ h
  | x :: l, K, K', hk, h => valK.mono (fun v => valsK.mono fun vs => hk _) h
theorem partsK.mono {ev : Operand → SV} : ∀ {l : List (Nat × Operand)} {K K' : List (Nat × Value) → Prop}, (∀ v, K v → K' v) → partsK ev l K → partsK ev l K'
  | [], K, K', hk, h => hk _ h
  | (i, x) :: l, K, K', hk, h => valK.mono (fun v => partsK.mono fun vs => hk _) h
theorem optK.mono {ev : Operand → SV} {x : Option Operand} {K K' : Option Value → Prop} (hk : ∀ v, K v → K' v) (h : optK ev x K) : optK ev x K' := by cases x with
  | none => exact hk _ h
  | some x => exact valK.mono (fun v => hk _) h
theorem fillK.mono {offs : List (Nat × Option Nat)} : ∀ {ps : List (Nat × Value)} {cs : List Value} {K K' : List Value → Prop}, (∀ l, K l → K' l) → fillK offs cs ps K → fillK offs cs ps K'
  | [], cs, K, K', hk, h => hk _ h
  | (i, v) :: ps, cs, K, K', hk, h => by
    unfold fillK at *
    split at h
    · exact cellsK.mono (fun l => chk.mono (forceL.mono fun l' => fillK.mono hk)) h
    · exact h
theorem intK.mono {op : BinOp} {k : IntKind} {a b : Int} {K K' : Value → Prop} (hk : ∀ v, K v → K' v) (h : intK op k a b K) : intK op k a b K' := by
  cases op <;> first | exact hk _ h | exact False.elim h | exact ⟨h.1, hk _ h.2⟩
theorem binK.mono {op : BinOp} {t : TypeId} {x y : Operand} {a b : Value} {K K' : Value → Ctx → Prop} (hk : ∀ v C, K v C → K' v C) (h : binK P op t x y C a b K) : binK P op t x y C a b K' := by
  unfold binK at *
  split at h
  · split at h <;> first | exact SemVC.mono hk h | exact chk.mono (intK.mono fun v => hk v C) h
  · exact SemVC.mono hk h
theorem callK.mono {ty : TypeId} {c : Call} {ev : Operand → SV} {K K' : Value → Ctx → Prop} (hk : ∀ v C, K v C → K' v C) (h : callK P T C ty c ev K) : callK P T C ty c ev K' := by
  unfold callK at *
  split at h
  · exact valsK.mono (fun vs => CallVC.mono hk) h
  · refine valsK.mono (fun vs h => ?_) h
    split at h
    · split at h
      · split at h
        · exact hk _ _ h
        · exact False.elim h
      · exact False.elim h
    · exact SemVC.mono hk h
  · exact valsK.mono (fun vs => SemVC.mono hk) h
  · exact valsK.mono (fun vs => SemVC.mono hk) h
  · exact valsK.mono (fun vs => SemVC.mono hk) h
  · exact valsK.mono (fun vs => SemVC.mono hk) h
  · exact valsK.mono (fun vs => SemVC.mono hk) h
  · exact h
theorem sliceK.mono {t : TypeId} {x : Value} {lo hi : Option Value} {K K' : Value → Ctx → Prop} (hk : ∀ v C, K v C → K' v C) (h : sliceK P T C t x lo hi K) : sliceK P T C t x lo hi K' := by
  unfold sliceK at *
  split at h
  · split at h
    · split at h <;> first | exact CutVC.mono (fun v => hk _ _) h | exact SemVC.mono hk h
    · exact h
  · exact SemVC.mono hk h
/-- what an operation does to the boxes -/
def Fits (o : Oper) (ev : Operand → SV) (bx : Nat → Option (TypeId × List Value)) (δ : Option (Nat × TypeId × List Value)) : Prop :=
  ∀ d t cs, δ = some (d, t, cs) → bx d = none ∨ ∃ ty x y off, o.op = .store ty x y ∧ ev x = .p d off
theorem opK_mono {ev : Operand → SV} {bx : Nat → Option (TypeId × List Value)} {K K' : OutK} (hk : ∀ C x δ, Fits o ev bx δ → K C x δ → K' C x δ) (h : opK P T o C ev bx K) : opK P T o C ev bx K' := by
  have hn : ∀ C x, K C x none → K' C x none := fun C x h => hk C x none (fun d t cs e => by cases e) h
  cases ho : o.op <;> simp only [opK, ho, forceV_eq] at h ⊢ <;> try exact False.elim h
  case move x => exact hn _ _ h
  case assign x => exact hn _ _ h
  case pick c x y =>
    split at h
    · exact splitB.mono (hn _ _) (hn _ _) h
    · exact h
  case alloc t =>
    split at h
    · rename_i d hd
      split at h
      · rename_i i hb hl
        exact cellsK.mono (fun cs h => hk _ _ _ (fun d' t' cs' e => by cases e; exact .inl hb) h) h
      · exact False.elim h
    · exact h
  case box t x =>
    split at h
    · split at h
      · rename_i hb
        exact valK.mono (fun v => cellsK.mono (fun cs h => hk _ _ _ (fun d' t' cs' e => by cases e; exact .inl hb) h)) h
      · exact False.elim h
    · exact h
  case build t parts =>
    split at h
    · split at h
      · exact partsK.mono (fun ps => cellsK.mono fun cs => fillK.mono fun l => hn _ _) h
      · exact h
    · exact h
  case fieldAddr t x f =>
    split at h
    · split at h
      · split at h
        · split at h
          · exact hn _ _ h
          · exact hn _ _ h
          · exact h
        · exact h
      · exact h
    · exact h
  case load t x =>
    split at h
    · split at h
      · split at h
        · exact forceL.mono (fun l => chk.mono (hn _ _)) h
        · split at h
          · exact hn _ _ h
          · exact h
      · exact False.elim h
    · exact SemVC.mono (fun v C => hn _ _) h
  case store t x y =>
    split at h
    · rename_i b off hx
      split at h
      · exact valK.mono (fun v => cellsK.mono fun vs => chk.mono (forceL.mono fun l h => hk _ _ _ (fun d' t' cs' e => by cases e; exact .inr ⟨t, x, y, off, ho, hx⟩) h)) h
      · exact False.elim h
    · exact valK.mono (fun v => StoVC.mono fun C => hn _ _) h
  case binOp op t x y t' => exact valK.mono (fun a => valK.mono fun b => binK.mono fun v C => hn _ _) h
  case unOp op t x =>
    refine valK.mono (fun v h => ?_) h
    split at h
    · exact hn _ _ h
    · exact SemVC.mono (fun v C => hn _ _) h
  case convert s d x => exact valK.mono (fun v => SemVC.mono fun v C => hn _ _) h
  case extract x i =>
    split at h
    · split at h
      · exact hn _ _ h
      · exact h
    · exact h
  case indexAddr t x i =>
    split at h
    · split at h
      · split at h
        · exact IdxVC.mono (fun v => hn _ _) h
        · exact h
      · exact False.elim h
    · exact h
  case slice t x lo hi mx =>
    cases mx with
    | some m => exact False.elim h
    | none => exact valK.mono (fun v => optK.mono fun lo => optK.mono fun hi => sliceK.mono fun v C => hn _ _) h
  case buildSlice t n parts => exact partsK.mono (fun ps => SemVC.mono fun v C => hn _ _) h
  case makeSlice t l c => exact valK.mono (fun v => valK.mono fun v' => SemVC.mono fun v C => hn _ _) h
  case call c => exact callK.mono (fun v C => hn _ _) h
end
end Go.Proofs.Ytahhihhfjimppaa
/- Regions that draw their order: a plan serves. -/
namespace Go.Proofs.Ytahhihhfjimppaa
open Go.RowKit
set_option linter.unusedSimpArgs false
set_option linter.unusedVariables false
section
variable {P : Program} {T : List (Nat × TyI)} {N : Nat} {C : Ctx} {o : Oper}
theorem valsK_congr {ev ev' : Operand → SV} : ∀ {l : List Operand} {K : List Value → Prop}, (∀ x ∈ l, ev' x = ev x) → valsK ev' l K = valsK ev l K
  | [], K, h => rfl
  | x :: l, K, h => by
    simp only [valsK, h x (by simp)]
    congr 1
    funext v
    exact valsK_congr fun y hy => h y (by simp [hy])
theorem partsK_congr {ev ev' : Operand → SV} : ∀ {l : List (Nat × Operand)} {K : List (Nat × Value) → Prop}, (∀ x ∈ l, ev' x.2 = ev x.2) → partsK ev' l K = partsK ev l K
  | [], K, h => rfl
  | (i, x) :: l, K, h => by
    simp only [partsK, h (i, x) (by simp)]
    congr 1
    funext v
    exact partsK_congr fun y hy => h y (by simp [hy])
theorem optK_congr {ev ev' : Operand → SV} {x : Option Operand} {K : Option Value → Prop} (h : ∀ y, x = some y → ev' y = ev y) : optK ev' x K = optK ev x K := by
  cases x with
  | none => rfl
  | some x => simp only [optK, h x rfl]
theorem callK_congr {ty : TypeId} {c : Call} {ev ev' : Operand → SV} {K : Value → Ctx → Prop} (h : ∀ x ∈ c.args.toList, ev' x = ev x) : callK P T C ty c ev' K = callK P T C ty c ev K := by
  unfold callK
  split <;> first | exact valsK_congr h | rfl
theorem opK_congr {ev ev' : Operand → SV} {bx : Nat → Option (TypeId × List Value)} {K : OutK} (h : ∀ x ∈ o.op.operands, ev' x = ev x) : opK P T o C ev' bx K = opK P T o C ev bx K := by
  cases ho : o.op <;> simp only [ho, Op.operands] at h <;> simp only [opK, ho]
  case move x => rw [h x (by simp)]
  case assign x => rw [h x (by simp)]
  case pick c x y => rw [h c (by simp), h x (by simp), h y (by simp)]
  case box t x => rw [h x (by simp)]
  case build t parts =>
    have : ∀ p ∈ parts.toList, ev' p.2 = ev p.2 := fun p hp => h p.2 (by simp; exact ⟨p.1, by simpa using hp⟩)
    simp only [partsK_congr this]
  case fieldAddr t x f => rw [h x (by simp)]
  case load t x => rw [h x (by simp)]
  case store t x y => rw [h x (by simp), h y (by simp)]
  case binOp op t x y t' => rw [h x (by simp), h y (by simp)]
  case unOp op t x => rw [h x (by simp)]
  case convert s d x => rw [h x (by simp)]
  case extract x i => rw [h x (by simp)]
  case indexAddr t x i => rw [h x (by simp), h i (by simp)]
  case slice t x lo hi mx =>
    cases mx with
    | some m => rfl
    | none =>
      simp only
      rw [h x (by simp)]
      congr 1
      funext v
      rw [optK_congr (ev := ev) (ev' := ev') fun y hy => h y (by simp [hy])]
      congr 1
      funext lo'
      exact optK_congr fun y hy => h y (by simp [hy])
  case buildSlice t n parts =>
    have : ∀ p ∈ parts.toList, ev' p.2 = ev p.2 := fun p hp => h p.2 (by simp; exact ⟨p.1, by simpa using hp⟩)
    simp only [partsK_congr this]
  case makeSlice t l c => rw [h l (by simp), h c (by simp)]
  case call c => exact callK_congr fun x hx => h x (by simp [Call.operands]; exact .inr (by simpa using hx))
/-- conditions that come to one outcome -/
def Aff {α : Type} (X : (α → Prop) → Prop) : Prop := ∀ K, X K → ∃ y, K y ∧ ∀ K', K' y → X K'
theorem Aff.force (l : List Value) : Aff (forceL l) := fun K h => ⟨l, by rw [forceL_eq] at h; exact h, fun K' h' => by rw [forceL_eq]; exact h'⟩
theorem Aff.cells (x : Value) : Aff (cellsK x) := fun K h => by
  cases x with
  | agg cs => exact Aff.force cs.toList K h
  | _ => first | exact ⟨_, h, fun K' h' => h'⟩ | exact False.elim h
theorem Aff.val (x : SV) : Aff (valK x) := fun K h => by
  cases x with
  | v x => exact ⟨x, h, fun K' h' => h'⟩
  | p b off => exact False.elim h
theorem Aff.seq {α β : Type} {X : (α → Prop) → Prop} {Y : α → (β → Prop) → Prop} (hX : Aff X) (hY : ∀ a, Aff (Y a)) (hm : ∀ a K K', (∀ b, K b → K' b) → Y a K → Y a K') : Aff (fun K => X fun a => Y a K) := fun K h => by
  obtain ⟨a, h1, h2⟩ := hX _ h
  obtain ⟨b, h3, h4⟩ := hY a _ h1
  exact ⟨b, h3, fun K' h' => h2 _ (h4 K' h')⟩
theorem Aff.ret {α : Type} (y : α) : Aff (fun K => K y) := fun K h => ⟨y, h, fun K' h' => h'⟩
theorem Aff.chk {α : Type} (b : Bool) {X : (α → Prop) → Prop} (hX : Aff X) : Aff (fun K => chk b (X K)) := fun K h => by
  obtain ⟨h1, h2⟩ := chk_iff h
  subst h1
  obtain ⟨y, h3, h4⟩ := hX _ h2
  exact ⟨y, h3, fun K' h' => h4 K' h'⟩
theorem Aff.vals (ev : Operand → SV) : ∀ l : List Operand, Aff (valsK ev l)
  | [] => Aff.ret []
  | x :: l => fun K h => by
    obtain ⟨v, h1, h2⟩ := Aff.val _ _ h
    obtain ⟨vs, h3, h4⟩ := Aff.vals ev l _ h1
    exact ⟨v :: vs, h3, fun K' h' => h2 _ (h4 _ h')⟩
theorem Aff.parts (ev : Operand → SV) : ∀ l : List (Nat × Operand), Aff (partsK ev l)
  | [] => Aff.ret []
  | (i, x) :: l => fun K h => by
    obtain ⟨v, h1, h2⟩ := Aff.val _ _ h
    obtain ⟨vs, h3, h4⟩ := Aff.parts ev l _ h1
    exact ⟨(i, v) :: vs, h3, fun K' h' => h2 _ (h4 _ h')⟩
theorem Aff.opt (ev : Operand → SV) (x : Option Operand) : Aff (optK ev x) := fun K h => by
  cases x with
  | none => exact ⟨_, h, fun K' h' => h'⟩
  | some x =>
    obtain ⟨v, h1, h2⟩ := Aff.val _ _ h
    exact ⟨some v, h1, fun K' h' => h2 _ h'⟩
theorem Aff.fill (offs : List (Nat × Option Nat)) : ∀ (ps : List (Nat × Value)) (cs : List Value), Aff (fillK offs cs ps)
  | [], cs => Aff.ret cs
  | (i, v) :: ps, cs => fun K h => by
    unfold fillK at h
    split at h
    · rename_i o sz ho
      obtain ⟨vs, h1, h2⟩ := Aff.cells _ _ h
      obtain ⟨h3, h4⟩ := chk_iff h1
      obtain ⟨cs', h5, h6⟩ := Aff.force _ _ h4
      obtain ⟨l, h7, h8⟩ := Aff.fill offs ps cs' _ h5
      refine ⟨l, h7, fun K' h' => ?_⟩
      unfold fillK
      rw [ho]
      refine h2 _ ?_
      rw [h3]
      exact h6 _ (h8 _ h')
    · exact False.elim h
theorem Aff.int (op : BinOp) (k : IntKind) (a b : Int) : Aff (intK op k a b) := fun K h => by
  cases op <;> first
    | exact ⟨_, h, fun K' h' => h'⟩
    | exact False.elim h
    | exact ⟨_, h.2, fun K' h' => ⟨h.1, h'⟩⟩
theorem Aff.idx (A : Option Addr) (n : Nat) (i : Int) (sz : Nat) : Aff (IdxVC A n i sz) := fun K h => by
  replace h := h.out
  obtain ⟨a, h1, h2, h3, h4⟩ := h
  exact ⟨_, h4, fun K' h' => ⟨⟨a, h1, h2, h3, h'⟩⟩⟩
theorem Aff.cut (A : Option Addr) (n c sz : Nat) (lo hi : Option Int) : Aff (CutVC A n c sz lo hi) := fun K h => by
  replace h := h.out
  exact ⟨_, h.2.2.2, fun K' h' => ⟨⟨h.1, h.2.1, h.2.2.1, h'⟩⟩⟩
theorem pureK_aff {ev : Operand → SV} {bx : Nat → Option (TypeId × List Value)} {K0 : SV → Option Nat → Prop} (h : pureK T o ev bx K0) : ∃ x rb, K0 x rb ∧ (∀ b, rb = some b → (bx b).isSome = true ∧ ∃ t y, o.op = .load t y) ∧ ∀ K' : SV → Option Nat → Prop, K' x rb → pureK T o ev bx K' := by
  have nn : ∀ b : Nat, (none : Option Nat) = some b → (bx b).isSome = true ∧ ∃ t y, o.op = .load t y := fun b e => nomatch e
  cases ho : o.op <;> simp only [pureK, ho, forceV_eq] at h ⊢ nn <;> try exact False.elim h
  case move x => exact ⟨_, _, h, nn, fun K' h' => h'⟩
  case assign x => exact ⟨_, _, h, nn, fun K' h' => h'⟩
  case pick c x y =>
    split at h
    · rename_i t ht
      cases t with
      | true => exact ⟨_, _, h, nn, fun K' h' => h'⟩
      | false => exact ⟨_, _, h, nn, fun K' h' => h'⟩
    · exact False.elim h
  case build t parts =>
    split at h
    · split at h
      · obtain ⟨ps, h1, h2⟩ := Aff.parts _ _ _ h
        obtain ⟨cs, h3, h4⟩ := Aff.cells _ _ h1
        obtain ⟨l, h5, h6⟩ := Aff.fill _ _ _ _ h3
        exact ⟨_, _, h5, nn, fun K' h' => h2 _ (h4 _ (h6 _ h'))⟩
      · exact False.elim h
    · exact False.elim h
  case fieldAddr t x f =>
    split at h
    · split at h
      · split at h
        · split at h
          · exact ⟨_, _, h, nn, fun K' h' => h'⟩
          · exact ⟨_, _, h, nn, fun K' h' => h'⟩
          · exact False.elim h
        · exact False.elim h
      · exact False.elim h
    · exact False.elim h
  case load t x =>
    split at h
    · split at h
      · rename_i b off hx _ _ ty cs i hb hl
        have ld : ∀ b' : Nat, some b = some b' → (bx b').isSome = true ∧ ∃ t' y, Op.load t x = Op.load t' y := fun b' e => by
          injection e with e
          subst e
          exact ⟨by rw [hb]; rfl, t, x, rfl⟩
        split at h
        · obtain ⟨l, h1, h2⟩ := Aff.force _ _ h
          obtain ⟨h3, h4⟩ := chk_iff h1
          exact ⟨_, _, h4, ld, fun K' h' => h2 _ (by rw [h3]; exact h')⟩
        · split at h
          · exact ⟨_, _, h, ld, fun K' h' => h'⟩
          · exact False.elim h
      · exact False.elim h
    · exact False.elim h
  case binOp op t x y t' =>
    obtain ⟨a, h1, h2⟩ := Aff.val _ _ h
    obtain ⟨b, h3, h4⟩ := Aff.val _ _ h1
    split at h3
    · rename_i k a k' b
      split at h3 <;> try exact False.elim h3
      rename_i op h5 h6 h7 h8 h9 h10
      obtain ⟨h11, h12⟩ := chk_iff h3
      obtain ⟨v, h13, h14⟩ := Aff.int _ _ _ _ _ h12
      refine ⟨_, _, h13, nn, fun K' h' => h2 _ (h4 _ ?_)⟩
      simp only
      rw [h11]
      exact h14 (fun v => K' (SV.v v) none) h'
    · exact False.elim h3
  case unOp op t x =>
    obtain ⟨a, h1, h2⟩ := Aff.val _ _ h
    split at h1
    · exact ⟨_, _, h1, nn, fun K' h' => h2 _ h'⟩
    · exact False.elim h1
  case extract x i =>
    split at h
    · split at h
      · exact ⟨_, _, h, nn, fun K' h' => h'⟩
      · exact False.elim h
    · exact False.elim h
  case indexAddr t x i =>
    split at h
    · split at h
      · split at h
        · obtain ⟨v, h1, h2⟩ := Aff.idx _ _ _ _ _ h
          exact ⟨_, _, h1, nn, fun K' h' => h2 _ h'⟩
        · exact False.elim h
      · exact False.elim h
    · exact False.elim h
  case slice t x lo hi mx =>
    cases mx with
    | some m => exact False.elim h
    | none =>
      simp only at h ⊢
      obtain ⟨a, h1, h2⟩ := Aff.val _ _ h
      obtain ⟨l, h3, h4⟩ := Aff.opt _ _ _ h1
      obtain ⟨u, h5, h6⟩ := Aff.opt _ _ _ h3
      split at h5
      · split at h5
        · split at h5
          · obtain ⟨v, h7, h8⟩ := Aff.cut _ _ _ _ _ _ _ h5
            exact ⟨_, _, h7, nn, fun K' h' => h2 _ (h4 _ (h6 _ (by first | (simp only [*]; done) | (simp only [*]; exact h8 (fun v => K' (.v v) none) h') | exact h8 (fun v => K' (.v v) none) h')))⟩
          · obtain ⟨v, h7, h8⟩ := Aff.cut _ _ _ _ _ _ _ h5
            exact ⟨_, _, h7, nn, fun K' h' => h2 _ (h4 _ (h6 _ (by first | (simp only [*]; done) | (simp only [*]; exact h8 (fun v => K' (.v v) none) h') | exact h8 (fun v => K' (.v v) none) h')))⟩
          · obtain ⟨v, h7, h8⟩ := Aff.cut _ _ _ _ _ _ _ h5
            exact ⟨_, _, h7, nn, fun K' h' => h2 _ (h4 _ (h6 _ (by first | (simp only [*]; done) | (simp only [*]; exact h8 (fun v => K' (.v v) none) h') | exact h8 (fun v => K' (.v v) none) h')))⟩
          · exact False.elim h5
        · exact False.elim h5
      · exact False.elim h5
  case call c =>
    split at h
    · obtain ⟨vs, h1, h2⟩ := Aff.vals _ _ _ h
      split at h1
      · rename_i t hats
        split at h1
        · rename_i i hl
          split at h1
          · rename_i e hd
            exact ⟨_, _, h1, nn, fun K' h' => h2 _ (by simp only [hats, hl, hd]; exact h')⟩
          · exact False.elim h1
        · exact False.elim h1
      · exact False.elim h1
    · exact False.elim h
end
end Go.Proofs.Ytahhihhfjimppaa
/- Regions that draw their order: a plan serves (2). -/
namespace Go.Proofs.Ytahhihhfjimppaa
open Go.RowKit
set_option linter.unusedSimpArgs false
set_option linter.unusedVariables false
section
variable {P : Program} {T : List (Nat × TyI)} {N : Nat} {C : Ctx} {o : Oper} {ops : List Oper}
/-- the conditions of such an operation, elsewhere -/
theorem pureK_opK {ev : Operand → SV} {bx bx' : Nat → Option (TypeId × List Value)} {K : OutK} (h : pureK T o ev bx fun x rb => (∀ b, rb = some b → bx' b = bx b) ∧ K C x none) : opK P T o C ev bx' K := by
  cases ho : o.op <;> simp only [pureK, opK, ho, forceV_eq] at h ⊢ <;> try exact False.elim h
  case move x => exact h.2
  case assign x => exact h.2
  case pick c x y =>
    split at h
    · rename_i t ht
      rw [ht]
      exact splitB.mono (·.2) (·.2) h
    · exact False.elim h
  case build t parts =>
    split at h
    · rename_i i hl
      split at h
      · rename_i offs hd
        rw [hl]
        simp only [hd]
        exact partsK.mono (fun ps => cellsK.mono fun cs => fillK.mono fun l h => h.2) h
      · exact False.elim h
    · exact False.elim h
  case fieldAddr t x f =>
    split at h
    · rename_i i hl
      split at h
      · rename_i offs hd
        split at h
        · rename_i o' sz hf
          split at h
          · rename_i b off hx
            simp only [hl, hd, hf, hx]
            exact h.2
          · rename_i a hx
            simp only [hl, hd, hf, hx]
            exact h.2
          · exact False.elim h
        · exact False.elim h
      · exact False.elim h
    · exact False.elim h
  case load t x =>
    split at h
    · rename_i b off hx
      split at h
      · rename_i ty cs i hb hl
        split at h
        · rename_i hag
          rw [forceL_eq] at h
          obtain ⟨h1, h2, h3⟩ := chk_iff h
          have hb' := (h2 b rfl).trans hb
          simp only [hx, hb', hl, hag, forceL_eq]
          rw [h1]
          exact h3
        · rename_i hag
          split at h
          · rename_i v l hv
            have hb' := (h.1 b rfl).trans hb
            simp only [hx, hb', hl, hag, hv]
            exact h.2
          · exact False.elim h
      · exact False.elim h
    · exact False.elim h
  case binOp op t x y t' =>
    refine valK.mono (fun a => valK.mono fun b h => ?_) h
    unfold binK
    split at h
    · simp only
      split at h
      all_goals first
        | exact False.elim h
        | (split <;> first | contradiction | exact chk.mono (intK.mono fun v h => h.2) h)
        | exact chk.mono (intK.mono fun v h => h.2) h
    · exact False.elim h
  case unOp op t x =>
    refine valK.mono (fun a h => ?_) h
    split at h
    · exact h.2
    · exact False.elim h
  case extract x i =>
    split at h
    · rename_i vs hx
      split at h
      · rename_i v hv
        simp only [hx, hv]
        exact h.2
      · exact False.elim h
    · exact False.elim h
  case indexAddr t x i =>
    split at h
    · rename_i A n c hx
      split at h
      · rename_i ti k kk hl hi
        split at h
        · rename_i sz hd
          simp only [hx, hl, hi, hd]
          exact IdxVC.mono (fun v h => h.2) h
        · exact False.elim h
      · exact False.elim h
    · exact False.elim h
  case slice t x lo hi mx =>
    cases mx with
    | some m => exact False.elim h
    | none =>
      refine valK.mono (fun a => optK.mono fun lo => optK.mono fun hi h => ?_) h
      unfold sliceK
      split at h
      · rename_i A n c i hl
        split at h
        · rename_i sz hd
          split at h
          · simp only [hl, hd]; exact CutVC.mono (fun v h => h.2) h
          · simp only [hl, hd]; exact CutVC.mono (fun v h => h.2) h
          · simp only [hl, hd]; exact CutVC.mono (fun v h => h.2) h
          · exact False.elim h
        · exact False.elim h
      · exact False.elim h
  case call c =>
    unfold callK
    split at h
    · rename_i hc
      simp only [hc]
      refine valsK.mono (fun vs h => ?_) h
      split at h
      · rename_i A n cc t hats
        split at h
        · rename_i i hl
          split at h
          · rename_i e hd
            simp only [hats, hl, hd]
            exact h.2
          · exact False.elim h
        · exact False.elim h
      · exact False.elim h
    · exact False.elim h
/-! ### one operation, in a state of which another slot is another one -/
def putS (dst : Option Tmp) (x : SV) (ss : SS) : SS := match dst with
  | none => ss
  | some d => ⟨upd ss.s d x, ss.b⟩
theorem putK_iff {dst : Option Tmp} {x : SV} {ss : SS} {K : SS → Prop} (h : putK N dst x ss K) : K (putS dst x ss) ∧ ∀ y ss' K', K' (putS dst y ss') → putK N dst y ss' K' := by
  cases dst with
  | none => exact ⟨h, fun y ss' K' h' => h'⟩
  | some d =>
    obtain ⟨h1, h2⟩ := chk_iff h
    exact ⟨h2, fun y ss' K' h' => by simp only [putK]; rw [h1]; exact h'⟩
theorem putK_mono {dst : Option Tmp} {x : SV} {ss : SS} {K K' : SS → Prop} (hk : K (putS dst x ss) → K' (putS dst x ss)) (h : putK N dst x ss K) : putK N dst x ss K' := by
  obtain ⟨h1, h2⟩ := putK_iff h
  exact h2 _ _ _ (hk h1)
theorem guardK_mono {ss : SS} {A A' B B' : SS → Prop} (hA : A ss → A' ss) (hB : B ss → B' ss) (h : guardK ops o ss A B) : guardK ops o ss A' B' := by
  unfold guardK at *
  split at h
  · exact hA h
  · rename_i j want hg
    split at h
    · split at h
      · split at h
        · rename_i g _ _ b hb
          have l1 : b = true → litB ss g true = ss := fun e => by subst e; exact litB_eq hb
          have l0 : b = false → litB ss g false = ss := fun e => by subst e; exact litB_eq hb
          cases b with
          | true =>
            simp only [splitB, l1] at h ⊢
            cases want with
            | true => exact hA h
            | false => exact hB h
          | false =>
            simp only [splitB, l0] at h ⊢
            cases want with
            | true => exact hB h
            | false => exact hA h
        · exact hB h
        · exact h
      · exact h
    · exact h
/-- which slots and boxes an operation leaves as they are -/
def Leaves (o : Oper) (ss ss' : SS) : Prop :=
  (∀ t, o.dst ≠ some t → ss'.s t = ss.s t) ∧ ∀ b, (ss.b b).isSome = true → (∀ ty x y off, o.op = .store ty x y → ss.eval x ≠ .p b off) → ss'.b b = ss.b b
theorem putS_slot {dst : Option Tmp} {x : SV} {ss : SS} {t : Nat} (h : dst ≠ some t) : (putS dst x ss).s t = ss.s t := by
  cases dst with
  | none => rfl
  | some d => exact upd_ne _ _ fun e => h (by rw [e])
theorem putS_box {dst : Option Tmp} {x : SV} {ss : SS} : (putS dst x ss).b = ss.b := by cases dst <;> rfl
theorem stepK_mono {ss : SS} {K K' : Ctx → SS → Prop} (hk : ∀ C ss', Leaves o ss ss' → K C ss' → K' C ss') (h : stepK P T N ops o C ss K) : stepK P T N ops o C ss K' := by
  rw [stepK_eq] at h ⊢
  refine guardK_mono (fun h => ?_) (fun h => ?_) h
  · refine opK_mono (fun C' x δ hf h => ?_) h
    refine putK_mono (fun h => hk _ _ ⟨fun t ht => putS_slot (ss := ⟨ss.s, applyB ss.b δ⟩) ht, fun b hb hs => ?_⟩ h) h
    rw [putS_box]
    show applyB ss.b δ b = ss.b b
    cases δ with
    | none => rfl
    | some δ =>
      obtain ⟨d, t, cs⟩ := δ
      refine upd_ne _ _ fun e => ?_
      subst e
      rcases hf b t cs rfl with h1 | ⟨ty, x, y, off, h1, h2⟩
      · rw [h1] at hb; cases hb
      · exact hs ty x y off h1 h2
  · refine putK_mono (fun h => hk _ _ ⟨fun t ht => putS_slot ht, fun b hb hs => by rw [putS_box]⟩ h) h
theorem putS_comm {d1 d2 : Option Tmp} {x y : SV} {ss : SS} (h : ∀ d, d1 = some d → d2 ≠ some d) : putS d1 x (putS d2 y ss) = putS d2 y (putS d1 x ss) := by
  cases d1 with
  | none => rfl
  | some a => cases d2 with
    | none => rfl
    | some b =>
      have : a ≠ b := fun e => h a rfl (by rw [e])
      simp only [putS]
      rw [upd_comm _ _ _ this.symm]
theorem putS_apply {d : Option Tmp} {x : SV} {ss : SS} {δ : Option (Nat × TypeId × List Value)} : (⟨(putS d x ss).s, applyB (putS d x ss).b δ⟩ : SS) = putS d x ⟨ss.s, applyB ss.b δ⟩ := by cases d <;> rfl
/-- an operation that looks at no slot that another one has put, and puts another slot -/
theorem stepK_put {ss : SS} {K : Ctx → SS → Prop} {oi : Oper} {x : SV} (hap : oi.apart ops.toArray o = true) (h : stepK P T N ops o C (putS oi.dst x ss) K) : stepK P T N ops o C ss fun C' ss' => K C' (putS oi.dst x ss') := by
  obtain ⟨h1, h2, h3⟩ := Oper.apart_spec hap
  have hslot : ∀ t, t ∈ o.looksAt ops.toArray → (putS oi.dst x ss).s t = ss.s t := fun t ht => putS_slot fun e => h1 t e ht
  have hev : ∀ y ∈ o.op.operands, (putS oi.dst x ss).eval y = ss.eval y := fun y hy => by
    cases y with
    | tmp t => exact hslot t (by
        unfold Oper.looksAt
        refine List.mem_append.2 (.inl (List.mem_filterMap.2 ⟨.tmp t, by simpa using hy, rfl⟩)))
    | _ => rfl
  have hd : ∀ d, o.dst = some d → oi.dst ≠ some d := fun d e e' => h2 d e' e
  have opp : opK P T o C (putS oi.dst x ss).eval (putS oi.dst x ss).b (fun C' y δ => putK N o.dst y ⟨(putS oi.dst x ss).s, applyB (putS oi.dst x ss).b δ⟩ (K C')) → opK P T o C ss.eval ss.b (fun C' y δ => putK N o.dst y ⟨ss.s, applyB ss.b δ⟩ fun ss' => K C' (putS oi.dst x ss')) := fun h => by
    rw [opK_congr hev, putS_box] at h
    refine opK_mono (fun C' y δ _ h => ?_) h
    obtain ⟨h4, h5⟩ := putK_iff h
    refine h5 _ _ _ ?_
    rw [← putS_box (dst := oi.dst) (x := x) (ss := ss)] at h4
    rw [putS_apply, putS_comm hd] at h4
    exact h4
  have und : putK N o.dst (.v undef) (putS oi.dst x ss) (K C) → putK N o.dst (.v undef) ss fun ss' => K C (putS oi.dst x ss') := fun h => by
    obtain ⟨h4, h5⟩ := putK_iff h
    refine h5 _ _ _ ?_
    rw [putS_comm hd] at h4
    exact h4
  rw [stepK_eq] at h ⊢
  unfold guardK at *
  split at h
  · exact opp h
  · rename_i j want hg
    split at h
    · rename_i og hj
      split at h
      · rename_i g hgd
        have hgs : (putS oi.dst x ss).s g = ss.s g := hslot g (by
          unfold Oper.looksAt
          refine List.mem_append.2 (.inr ?_)
          have hoj : ops.toArray[j]? = some og := by rw [opAt_eq] at hj; simpa using hj
          rw [hg]
          simp only [hoj, Option.bind_some, hgd, Option.toList_some, List.mem_singleton])
        rw [hgs] at h
        split at h
        · rename_i b hb
          have hb' : (putS oi.dst x ss).s g = .v (.bool b) := hgs.trans hb
          cases b with
          | true =>
            simp only [splitB, litB_eq hb, litB_eq hb'] at h ⊢
            cases want with
            | true => exact opp h
            | false => exact und h
          | false =>
            simp only [splitB, litB_eq hb, litB_eq hb'] at h ⊢
            cases want with
            | true => exact und h
            | false => exact opp h
        · exact und h
        · exact h
      · exact h
    · exact h
end
end Go.Proofs.Ytahhihhfjimppaa
/- Regions that draw their order: a plan serves (3). -/
namespace Go.Proofs.Ytahhihhfjimppaa
open Go.RowKit
set_option linter.unusedSimpArgs false
set_option linter.unusedVariables false
section
variable {P : Program} {T : List (Nat × TyI)} {N : Nat} {C : Ctx} {o : Oper} {ops : List Oper} {K : Ctx → SS → Prop}
abbrev rdy (ops : List Oper) (listed : Array Bool) : List Nat := Region.ready .any ops.toArray listed
/-- all orders -/
def FA (P : Program) (T : List (Nat × TyI)) (N : Nat) (ops : List Oper) (K : Ctx → SS → Prop) : Nat → Array Bool → Ctx → SS → Prop
  | 0, listed, C, ss => rdy ops listed = [] ∧ K C ss
  | fuel + 1, listed, C, ss => (rdy ops listed = [] → K C ss) ∧ ∀ i ∈ rdy ops listed, ∀ o, opAt ops i = some o → stepK P T N ops o C ss fun C' ss' => FA P T N ops K fuel (listed.setIfInBounds i true) C' ss'
theorem FA_sound (hT : TabOk P T) {E : EK} : ∀ (fuel : Nat) {listed : Array Bool} {C : Ctx} {ss : SS} {a : Act} {w : World}, FA P T N ops K fuel listed C ss → Rep N C ss a w → wpAny P .any ops.toArray (liftQ N K E) fuel listed a w
  | 0, listed, C, ss, a, w, h, r => ⟨h.1, C, ss, r, h.2⟩
  | fuel + 1, listed, C, ss, a, w, h, r => by
    refine ⟨fun e => ⟨C, ss, r, h.1 e⟩, fun i hi => ?_⟩
    obtain ⟨_, o, ho, _⟩ := mem_ready.1 hi
    have hoa : opAt ops i = some o := by rw [opAt_eq]; simpa using ho
    obtain ⟨ρ, r⟩ := r
    have h1 := stepK_sound (ops := ops.toArray) (Q := liftQ N K E) hT r (by simpa using h.2 i hi o hoa)
    unfold wpOp
    rw [ho]
    simp only
    split
    · rename_i hw
      rw [if_pos hw] at h1
      exact .inl (Oper.wp_mono (fun a' w' ⟨C', ss', r', h'⟩ => FA_sound hT fuel h' r') h1)
    · rename_i hw
      rw [if_neg hw] at h1
      obtain ⟨C', ss', r', h'⟩ := h1
      exact FA_sound hT fuel h' r'
/-- an operation that may come first: the others that may come ahead of it do not touch what it looks at -/
def Free (ops : List Oper) (i : Nat) (oi : Oper) (rb : Option Nat) (listed : Array Bool) (ss : SS) : Prop :=
  ∀ j oj, ops.toArray[j]? = some oj → j ≠ i → listed.getD j true = false → (∀ e ∈ oj.after, Region.binds .any e = true → e.on ≠ i) →
    oi.apart ops.toArray oj = true ∧ ∀ b, rb = some b → ∀ ty x y, oj.op = .store ty x y → ∃ t b' off, x = .tmp t ∧ ss.s t = .p b' off ∧ b' ≠ b ∧ ∀ k ok, ops.toArray[k]? = some ok → listed.getD k true = false → ok.dst ≠ some t
def Yld (P : Program) (T : List (Nat × TyI)) (N : Nat) (ops : List Oper) (oi : Oper) (x : SV) (rb : Option Nat) (ss : SS) : Prop :=
  (∀ b, rb = some b → (ss.b b).isSome = true) ∧ ∀ ss', (∀ t ∈ oi.looksAt ops.toArray, ss'.s t = ss.s t) → (∀ b, rb = some b → ss'.b b = ss.b b) → ∀ (C : Ctx) (K : Ctx → SS → Prop), K C (putS oi.dst x ss') → stepK P T N ops oi C ss' K
theorem FA_first {i : Nat} {oi : Oper} (hi : ops.toArray[i]? = some oi) {x : SV} {rb : Option Nat} : ∀ (fuel : Nat) (listed : Array Bool) (C : Ctx) (ss : SS), Free ops i oi rb listed ss → i ∈ rdy ops listed → Yld P T N ops oi x rb ss →
    FA P T N ops K fuel (listed.setIfInBounds i true) C (putS oi.dst x ss) → FA P T N ops K (fuel + 1) listed C ss := by
  intro fuel
  have own : ∀ (fuel : Nat) (listed : Array Bool) (C : Ctx) (ss : SS), Yld P T N ops oi x rb ss → FA P T N ops K fuel (listed.setIfInBounds i true) C (putS oi.dst x ss) → ∀ o, opAt ops i = some o → stepK P T N ops o C ss fun C' ss' => FA P T N ops K fuel (listed.setIfInBounds i true) C' ss' := fun fuel listed C ss hy H o ho => by
    rw [opAt_eq] at ho
    have : oi = o := by simpa [ho] using hi.symm
    subst this
    exact hy.2 ss (fun _ _ => rfl) (fun _ _ => rfl) C _ H
  induction fuel with
  | zero =>
    intro listed C ss _ hr hy H
    refine ⟨fun h => (by rw [h] at hr; cases hr), fun j hj => ?_⟩
    by_cases hji : j = i
    · subst hji; exact own _ _ _ _ hy H
    · have : j ∈ rdy ops (listed.setIfInBounds i true) := ready_mono hj hji
      rw [H.1] at this
      cases this
  | succ fuel ih =>
    intro listed C ss hfree hr hy H
    refine ⟨fun h => (by rw [h] at hr; cases hr), fun j hj => ?_⟩
    by_cases hji : j = i
    · subst hji; exact own _ _ _ _ hy H
    · intro oj hoja
      have h1 := H.2 j (ready_mono hj hji) oj hoja
      obtain ⟨hjun, oj', hoj, hall⟩ := mem_ready.1 hj
      have : oj' = oj := by rw [opAt_eq] at hoja; simpa [hoja] using hoj.symm
      subst this
      have hnot : ∀ e ∈ oj'.after, Region.binds .any e = true → e.on ≠ i := fun e he hb heq => by
        have h1 := hall e he hb
        have h0 := (mem_ready.1 hr).1
        rw [heq] at h1
        rcases Nat.lt_or_ge i listed.size with h' | h'
        · simp [h'] at h0 h1; rw [h0] at h1; cases h1
        · simp [Array.getElem?_eq_none h'] at h1
      obtain ⟨hap, hst⟩ := hfree j oj' hoj hji hjun hnot
      have h2 := stepK_put hap h1
      refine stepK_mono (fun C' ss' hl h3 => ?_) h2
      have hdst : ∀ t ∈ oi.looksAt ops.toArray, oj'.dst ≠ some t := fun t ht e => (Oper.apart_spec hap).2.2 t e ht
      have hslots : ∀ t ∈ oi.looksAt ops.toArray, ss'.s t = ss.s t := fun t ht => hl.1 t (hdst t ht)
      have hbox : ∀ b, rb = some b → ss'.b b = ss.b b := fun b e => hl.2 b (hy.1 b e) fun ty x y off hs hx => by
        obtain ⟨t, b', off', rfl, h4, h5, _⟩ := hst b e ty x y hs
        have h6 : ss.s t = .p b off := hx
        rw [h4] at h6
        injection h6 with h6
        exact h5 h6
      refine ih _ _ _ ?_ (ready_mono hr (Ne.symm hji)) ?_ ?_
      · intro k ok hk hki hun hno
        have hun' : listed.getD k true = false := by
          by_cases hjk : j = k
          · subst hjk; exact hjun
          · rw [getD_set_ne true hjk] at hun; exact hun
        obtain ⟨h4, h5⟩ := hfree k ok hk hki hun' hno
        refine ⟨h4, fun b e ty x y hs => ?_⟩
        obtain ⟨t, b', off, h6, h7, h8, h9⟩ := h5 b e ty x y hs
        refine ⟨t, b', off, h6, (hl.1 t (h9 j oj' hoj hjun)).trans h7, h8, fun m om hm hum => ?_⟩
        refine h9 m om hm ?_
        by_cases hjm : j = m
        · subst hjm; exact hjun
        · rw [getD_set_ne true hjm] at hum; exact hum
      · exact ⟨fun b e => by rw [hbox b e]; exact hy.1 b e, fun ss'' h4 h5 => hy.2 ss'' (fun t ht => (h4 t ht).trans (hslots t ht)) (fun b e => (h5 b e).trans (hbox b e))⟩
      · rw [Array.setIfInBounds_comm _ _ hji]
        exact h3

def isLoad : Op → Bool
  | .load .. => true
  | _ => false
def noWrite (ops : List Oper) (listed : Array Bool) (t : Nat) : Bool := (List.range ops.length).all fun k => match ops.toArray[k]? with
  | none => true
  | some ok => listed.getD k true || ok.dst != some t
def freeB (ops : List Oper) (listed : Array Bool) (i : Nat) (oi : Oper) (late : List Nat) : Bool := (List.range ops.length).all fun j => match ops.toArray[j]? with
  | none => true
  | some oj => j == i || listed.getD j true || oj.after.any (fun e => Region.binds .any e && e.on == i) || (oi.apart ops.toArray oj && (match oj.op with
    | .store _ x _ => !isLoad oi.op || (match x with
      | .tmp t => late.contains t && noWrite ops listed t
      | _ => false)
    | _ => true))
def heads : Plan → List Nat
  | .alt i _ more => i :: heads more
  | _ => []
def deep : Plan → Nat
  | .done => 0
  | .stop => 0
  | .pure _ _ next => deep next + 1
  | .alt _ next more => max (deep next + 1) (deep more)
def planOk (ops : List Oper) : Bool → Array Bool → Plan → Bool
  | top, listed, .done => top && (rdy ops listed).isEmpty
  | top, listed, .pure i late next => top && match ops.toArray[i]? with
    | some o => (rdy ops listed).contains i && freeB ops listed i o late && planOk ops true (listed.setIfInBounds i true) next
    | none => false
  | top, listed, .alt i next more => (!top || heads (.alt i next more) == rdy ops listed) && planOk ops true (listed.setIfInBounds i true) next && planOk ops false listed more
  | top, _, .stop => !top
theorem Free.of {i : Nat} {oi : Oper} {late : List Nat} {listed : Array Bool} {ss : SS} {rb : Option Nat} (h : freeB ops listed i oi late = true) (hrb : ∀ b, rb = some b → isLoad oi.op = true) (hl : lateK ss rb late True) : Free ops i oi rb listed ss := by
  intro j oj hoj hji hun hno
  have hjl : j < ops.length := by
    rcases Nat.lt_or_ge j ops.length with h' | h'
    · exact h'
    · simp [List.getElem?_eq_none h'] at hoj
  have h1 := List.all_eq_true.1 h j (List.mem_range.2 hjl)
  rw [hoj] at h1
  simp only at h1
  have e1 : (j == i) = false := by simpa using hji
  have e2 : (oj.after.any (fun e => Region.binds .any e && e.on == i)) = false := by
    rw [Array.any_eq_false]
    intro k hk
    simp only [Bool.not_eq_true, Bool.and_eq_false_iff]
    cases hb : Region.binds .any oj.after[k] with
    | false => exact .inl rfl
    | true => exact .inr (by simpa using hno _ (Array.getElem_mem hk) hb)
  rw [e1, hun, e2] at h1
  simp only [Bool.false_or, Bool.and_eq_true] at h1
  refine ⟨h1.1, fun b e ty x y hs => ?_⟩
  have h2 := h1.2
  rw [hs] at h2
  simp only [hrb b e, Bool.not_true, Bool.false_or] at h2
  cases x with
  | tmp t =>
    simp only [Bool.and_eq_true] at h2
    have hmem : t ∈ late := by simpa using h2.1
    have hnw := List.all_eq_true.1 h2.2
    have key : ∀ l : List Nat, lateK ss rb l True → t ∈ l → ∃ b' off, ss.s t = .p b' off ∧ b' ≠ b := by
      intro l
      induction l with
      | nil => intro _ h; cases h
      | cons u l ih =>
        intro h hm
        unfold lateK at h
        rw [e] at h
        simp only at h
        split at h
        · rename_i b' off hu
          split at h
          · exact False.elim h
          · rename_i hne
            cases hm with
            | head => exact ⟨b', off, hu, fun e' => by rw [e', Nat.beq_refl] at hne; cases hne⟩
            | tail _ hm => exact ih (by rw [e]; exact h) hm
        · exact False.elim h
    obtain ⟨b', off, h3, h4⟩ := key late hl hmem
    refine ⟨t, b', off, rfl, h3, h4, fun k ok hk hku => ?_⟩
    have hkl : k < ops.length := by
      rcases Nat.lt_or_ge k ops.length with h' | h'
      · exact h'
      · simp [List.getElem?_eq_none h'] at hk
    have h5 := hnw k (List.mem_range.2 hkl)
    rw [hk] at h5
    simp only [hku, Bool.false_or] at h5
    simpa using h5
  | _ => simp at h2
theorem lateK_iff {ss : SS} {rb : Option Nat} : ∀ {l : List Nat} {A : Prop}, lateK ss rb l A → A ∧ lateK ss rb l True
  | [], A, h => ⟨h, trivial⟩
  | t :: l, A, h => by
    unfold lateK at *
    split at h
    · exact ⟨h, trivial⟩
    · split at h
      · split at h
        · exact False.elim h
        · obtain ⟨h1, h2⟩ := lateK_iff h
          refine ⟨h1, ?_⟩
          simp only [*]
      · exact False.elim h
end
end Go.Proofs.Ytahhihhfjimppaa
