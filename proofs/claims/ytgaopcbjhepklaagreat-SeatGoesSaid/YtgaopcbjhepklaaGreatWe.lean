/- The conditions of one operation serve: the rest. -/
import Derived.Test.YtgaopcbjhepklaaGreatWd
namespace Go.Proofs.YtgaopcbjhepklaaGreat
open Go.RowKit
set_option linter.unusedSimpArgs false
set_option linter.unusedVariables false
section
variable {P : Program} {T : List (Nat × TyI)} {N : Fk} {C : Ctx} {ρ : Nat → Nat} {ss : SS} {a : Act} {w : World} {o : Oper} {K : Ctx → SS → Prop} {Q : Exit → Act → World → Prop}
theorem TyOk.slice {t : TypeId} {i : TyI} (hi : TyOk P t i) {sz : Nat} (hd : i.d = .sl (some sz)) : ∃ e, P.underlying t = some (.slice e) ∧ ∀ w, (sizeOf e).run P w = .ok sz w := by
  have h1 := hi.desc
  cases e : P.underlying t with
  | none => rw [e] at h1; cases h1
  | some d =>
    rw [e, hd] at h1
    injection h1 with h1
    cases d <;> try (simp [TD.of] at h1; done)
    rename_i el
    simp only [TD.of, TD.sl.injEq] at h1
    refine ⟨el, rfl, fun w => ?_⟩
    cases ei : P.info? el with
    | none => rw [ei] at h1; cases h1
    | some ti => rw [ei] at h1; injection h1 with h1; simp [sizeOf, typeInfo, ei, h1]
theorem run_sliceBound {k : IntKind} {i : Int} {y : Nat} {c : BoundsCode} (h0 : 0 ≤ i) (h1 : i ≤ y) : (Instr.sliceBound (.int k i) y c).run P w = .ok i.toNat w := by
  simp [Instr.sliceBound, asIntOf, h0, h1]
theorem slice_ok {t : TypeId} {x : Value} {lo hi : Option Value} (hT : TabOk P T) (r : RepAt N C ρ ss a w) (hm : (execOp a.eval o).run P w = (do pure (Next.value (← Instr.sliceAt t x lo hi none))).run P w)
    (h : sliceK P T C t x lo hi fun v C' => putK N o.dst (.v v) ss (K C')) : o.wp P a w (Nx N K) Q := by
  have gen : (SemVC P C (Instr.sliceAt t x lo hi none) fun v C' => putK N o.dst (.v v) ss (K C')) → o.wp P a w (Nx N K) Q := fun h => sem_ok hm r h
  unfold sliceK at h
  split at h
  · rename_i A n c i hl
    have hi := hT _ _ hl
    split at h
    · rename_i sz hd
      obtain ⟨e, hu, hs⟩ := hi.slice hd
      split at h
      · rename_i k hh
        replace h := h.out
        obtain ⟨_, h1, h2, h3⟩ := h
        simp only [Option.getD_none, Option.getD_some, Option.isSome_some, if_true] at h1 h2
        refine wp_value (w' := w) ?_ (fin_v r h3)
        rw [hm]
        simp [Instr.sliceAt, Instr.slice, run_underlying hu, Instr.sliceBounds, run_sliceBound h1 h2, hs]
      · rename_i k ll
        replace h := h.out
        obtain ⟨h0, h1, h2, h3⟩ := h
        simp only [Option.getD_none, Option.getD_some] at h0 h1
        refine wp_value (w' := w) ?_ (fin_v r h3)
        rw [hm]
        simp [Instr.sliceAt, Instr.slice, run_underlying hu, Instr.sliceBounds, run_sliceBound h0 h1, hs]
      · rename_i k ll k' hh
        replace h := h.out
        obtain ⟨h0, h1, h2, h3⟩ := h
        simp only [Option.getD_none, Option.getD_some, Option.isSome_some, if_true] at h0 h1 h2
        refine wp_value (w' := w) ?_ (fin_v r h3)
        rw [hm]
        simp [Instr.sliceAt, Instr.slice, run_underlying hu, Instr.sliceBounds, run_sliceBound (Int.le_trans h0 h1) h2, run_sliceBound h0 (show ll ≤ ((hh.toNat : Nat) : Int) by omega), hs]
      · exact gen h
    · exact False.elim h
  · exact gen h
theorem call_ok (hT : TabOk P T) (r : RepAt N C ρ ss a w) {c : Call} (ho : o.op = .call c) {Z : PanK} (hZ : ∀ ch C' w', RepAt N C' ρ ss a w' → Z ch C' → Q (.panic ch) a w') (h : callK P T C o.type c ss.eval (fun v C' => putK N o.dst (.v v) ss (K C')) Z) : o.wp P a w (Nx N K) Q := by
  obtain ⟨cal, args, ats⟩ := c
  unfold callK at h
  simp only at h
  have bi : ∀ (b : Builtin) (vs : List Value), cal = .builtin b → args.toList.map ss.eval = vs.map SV.v → args.map a.eval = vs.toArray := fun b vs _ h2 => by
    apply Array.ext'
    rw [Array.toList_map]
    exact args_of r h2
  have sem : ∀ (m : Sem Value), (execOp a.eval o).run P w = (do pure (Next.value (← m))).run P w → (SemVC P C m fun v C' => putK N o.dst (.v v) ss (K C')) → o.wp P a w (Nx N K) Q := fun m h1 h2 => sem_ok h1 r h2
  split at h
  · rename_i f
    obtain ⟨vs, h1, h2⟩ := valsK_iff h
    replace h2 := h2.out
    obtain ⟨he, hc⟩ := h2
    have hargs : args.map a.eval = vs.toArray := by
      apply Array.ext'
      rw [Array.toList_map]
      exact args_of r h1
    unfold Oper.wp
    have hrun : (execOp a.eval o).run P w = .ok (.enter f vs.toArray) w := by
      have := he vs.toArray w
      simp [execOp, ho, resolve, Deferred.ofValue, Act.eval, invoke, hargs, this]
    rw [hrun]
    show Calls P f vs.toArray w _
    refine (hc w r.rest).mono fun e w' hh => ?_
    rcases hh with ⟨v, C', h3, h4, h5, h6⟩ | ⟨ch, C', h3, h4, h5, h6⟩
    · subst h3
      exact fin_v (r.goes h4 h5) h6
    · subst h3
      exact hZ ch C' w' (r.goes h4 h5) h6
  · rename_i t
    split at h
    · rename_i f first cap hf
      obtain ⟨vs, h1, h2⟩ := valsK_iff h
      rw [forceL_eq, show (first.toList ++ vs ++ cap.toList).toArray = first ++ vs.toArray ++ cap by apply Array.ext'; simp] at h2
      replace h2 := h2.out
      obtain ⟨he, hc⟩ := h2
      have hargs : args.map a.eval = vs.toArray := by
        apply Array.ext'
        rw [Array.toList_map]
        exact args_of r h1
      have hfv : a.eval (.tmp t) = .func (.func f) first cap := by rw [r.eval, hf]; rfl
      unfold Oper.wp
      have hrun : (execOp a.eval o).run P w = .ok (.enter f (first ++ vs.toArray ++ cap)) w := by
        have := he (first ++ vs.toArray ++ cap) w
        simp only [execOp, ho, resolve, hfv, hargs, Deferred.ofValue, Sem.run_bind, Sem.run_pure, Result.andThen_ok, invoke]
        exact this
      rw [hrun]
      show Calls P f (first ++ vs.toArray ++ cap) w _
      refine (hc w r.rest).mono fun e w' hh => ?_
      rcases hh with ⟨v, C', h3, h4, h5, h6⟩ | ⟨ch, C', h3, h4, h5, h6⟩
      · subst h3
        exact fin_v (r.goes h4 h5) h6
      · subst h3
        exact hZ ch C' w' (r.goes h4 h5) h6
    · exact False.elim h
  · obtain ⟨vs, h1, h2⟩ := valsK_iff h
    have hargs := bi .len vs rfl h1
    split at h2
    · rename_i A n cc t hats
      split at h2
      · rename_i i hl
        split at h2
        · rename_i sz hd
          have hi := hT _ _ hl
          have hfull := hi.full
          rw [hd] at hfull
          obtain ⟨sz', rfl⟩ := Option.isSome_iff_exists.1 hfull
          obtain ⟨e, hu, _⟩ := hi.slice hd
          refine wp_value (w' := w) ?_ (fin_v r h2)
          have hats' : ats = #[t] := by rw [← Array.toArray_toList (xs := ats), hats]
          subst hats'
          simp [execOp, ho, resolve, invoke, builtin, hargs, Builtin.len_, run_underlying hu, goInt]
        · exact False.elim h2
      · exact False.elim h2
    · exact sem _ (by simp [execOp, ho, resolve, invoke, builtin, hargs]) h2
  · obtain ⟨vs, h1, h2⟩ := valsK_iff h
    have hargs := bi .append vs rfl h1
    exact sem _ (by simp [execOp, ho, resolve, invoke, builtin, hargs]) h2
  · obtain ⟨vs, h1, h2⟩ := valsK_iff h
    have hargs := bi .copy vs rfl h1
    exact sem _ (by simp [execOp, ho, resolve, invoke, builtin, hargs]) h2
  · obtain ⟨vs, h1, h2⟩ := valsK_iff h
    have hargs := bi .cap vs rfl h1
    exact sem _ (by simp [execOp, ho, resolve, invoke, builtin, hargs]) h2
  · obtain ⟨vs, h1, h2⟩ := valsK_iff h
    have hargs := bi .max vs rfl h1
    exact sem _ (by simp [execOp, ho, resolve, invoke, builtin, hargs]) h2
  · obtain ⟨vs, h1, h2⟩ := valsK_iff h
    have hargs := bi .min vs rfl h1
    exact sem _ (by simp [execOp, ho, resolve, invoke, builtin, hargs]) h2
  · exact False.elim h
theorem opt_map {x : Option Operand} {f g : Operand → Value} (h : ∀ y, x = some y → f y = g y) : x.map f = x.map g := by
  cases x with
  | none => rfl
  | some y => simp [h y rfl]
theorem allV_eq : ∀ {l : List Operand}, allV ss.eval l = true → RepAt N C ρ ss a w → ∀ x ∈ l, a.eval x = valOf ss.eval x
  | [], _, _, x, hx => by cases hx
  | y :: l, h, r, x, hx => by
    unfold allV at h
    split at h
    · rename_i v hv
      rcases List.mem_cons.1 hx with rfl | hx
      · rw [r.eval, valOf, hv]; rfl
      · exact allV_eq h r x hx
    · cases h
theorem any_ok (r : RepAt N C ρ ss a w) {Z : PanK} (hZ : ∀ ch C' w', RepAt N C' ρ ss a w' → Z ch C' → Q (.panic ch) a w') (hm : execOp a.eval o = execOp (valOf ss.eval) o) (h : OpVC P C (execOp (valOf ss.eval) o) (fun v C' => putK N o.dst (.v v) ss (K C')) Z) : o.wp P a w (Nx N K) Q := by
  unfold Oper.wp
  rw [hm]
  rcases h.out w r.rest with ⟨v, w', C', h1, h2, h3, h4⟩ | ⟨w', C', h1, h2, h3, h4⟩ | ⟨v, w', C', h1, h2, h3, h4⟩
  · rw [h1]; exact fin_v (r.goes h2 h3) h4
  · rw [h1]; exact fin_v (r.goes h2 h3) h4
  · rw [h1]; exact hZ _ C' w' (r.goes h2 h3) h4
/-- the conditions of an operation serve -/
theorem opK_sound {e : Bool} {Z : PanK} (hZ : ∀ ch C' w', RepAt N C' ρ ss a w' → Z ch C' → Q (.panic ch) a w') (hT : TabOk P T) (r : RepAt N C ρ ss a w) (h : opK P T e o C ss.eval ss.b (FinK N ss o.dst K) Z) : o.wp P a w (Nx N K) Q := by
  have evv : ∀ {x : Operand} {v : Value}, ss.eval x = .v v → a.eval x = v := fun {x v} h => by rw [r.eval, h]; rfl
  have evp : ∀ {x : Operand} {b off : Nat}, ss.eval x = .p b off → a.eval x = .pointer (some ⟨ρ b, off, none⟩) := fun {x b off} h => by rw [r.eval, h]; rfl
  have gen : ∀ {l : List Operand}, o.op.operands.toList = l → ((∀ x ∈ l, a.eval x = valOf ss.eval x) → execOp a.eval o = execOp (valOf ss.eval) o) → anyK P C ss.eval o (FinK N ss o.dst K) Z → o.wp P a w (Nx N K) Q := fun {l} hl he h => by
    obtain ⟨h1, h2⟩ := chk_iff h
    refine any_ok r hZ (he fun x hx => allV_eq h1 r x (by rw [hl]; exact hx)) h2
  cases ho : o.op <;> simp only [opK, ho, forceV_eq] at h <;> try exact False.elim h
  case nilCheck x =>
    split at h
    · rename_i b off hx
      exact wp_value (w' := w) (v := .pointer (some ⟨ρ b, off, none⟩)) (by simp [execOp, ho, evp hx]) (fin_slot (x := .p b off) r (fun b' off' e => by cases e; exact r.wfe x _ _ hx) h)
    · rename_i ad hx
      exact wp_value (w' := w) (by simp [execOp, ho, evv hx]) (fin_v r h)
    · exact gen (l := [x]) (by simp [ho, Op.operands]) (fun ev => by simp only [execOp, ho]; rw [ev x (by simp)]) h
  case makeInterface t x => exact gen (l := [x]) (by simp [ho, Op.operands]) (fun ev => by simp only [execOp, ho]; rw [ev x (by simp)]) h
  case field t x f => exact gen (l := [x]) (by simp [ho, Op.operands]) (fun ev => by simp only [execOp, ho]; rw [ev x (by simp)]) h
  case index t x i => exact gen (l := [x, i]) (by simp [ho, Op.operands]) (fun ev => by simp only [execOp, ho]; rw [ev x (by simp), ev i (by simp)]) h
  case typeAssert x t t' ok => exact gen (l := [x]) (by simp [ho, Op.operands]) (fun ev => by simp only [execOp, ho]; rw [ev x (by simp)]) h
  case panic x => exact gen (l := [x]) (by simp [ho, Op.operands]) (fun ev => by simp only [execOp, ho]; rw [ev x (by simp)]) h
  case makeFunc fn first cap =>
    refine gen (l := first.toList ++ cap.toList) (by simp [ho, Op.operands]) (fun ev => ?_) h
    simp only [execOp, ho]
    have e1 : first.map a.eval = first.map (valOf ss.eval) := Array.map_congr_left fun x hx => ev x (by simp [hx])
    have e2 : cap.map a.eval = cap.map (valOf ss.eval) := Array.map_congr_left fun x hx => ev x (by simp [hx])
    rw [e1, e2]
  case move x => exact wp_value (w' := w) (by simp [execOp, ho, r.eval]) (fin_slot r (r.wfe x) h)
  case assign x => exact wp_value (w' := w) (by simp [execOp, ho, r.eval]) (fin_slot r (r.wfe x) h)
  case pick c x y =>
    split at h
    · rename_i t ht
      cases t with
      | true => exact wp_value (w' := w) (by simp [execOp, ho, r.eval, ht, SV.den, asBool]) (fin_slot r (r.wfe x) h)
      | false => exact wp_value (w' := w) (by simp [execOp, ho, r.eval, ht, SV.den, asBool]) (fin_slot r (r.wfe y) h)
    · exact False.elim h
  case alloc t =>
    cases e with
    | true => exact sem_ok (by simp [execOp, ho]) r h
    | false =>
    simp only at h
    split at h
    · rename_i d hd
      split at h
      · rename_i i hb hl
        have hi := hT _ _ hl
        have h1 := cellsK_iff h
        refine new_ok r hb hd ?_ h1
        simp [execOp, ho, Instr.alloc, hi.run_zero, newVar, newRow, newObj, Sem.run]
      · exact False.elim h
    · exact False.elim h
  case box t x =>
    cases e with
    | true =>
      obtain ⟨v, hv, h1⟩ := valK_iff h
      exact sem_ok (by simp [execOp, ho, evv hv]) r h1
    | false =>
    simp only at h
    split at h
    · rename_i d hd
      split at h
      · rename_i hb
        obtain ⟨v, hv, h1⟩ := valK_iff h
        have h2 := cellsK_iff h1
        refine new_ok r hb hd ?_ h2
        simp [execOp, ho, Instr.box, evv hv, newVar, newRow, newObj, Sem.run]
      · exact False.elim h
    · exact False.elim h
  case build t parts =>
    split at h
    · rename_i i hl
      split at h
      · rename_i offs hd
        have hi := hT _ _ hl
        obtain ⟨ps, hp, h1⟩ := partsK_iff h
        have h2 := cellsK_iff h1
        obtain ⟨cs, h3, h4⟩ := hi.built hd h2
        refine wp_value (w' := w) ?_ (fin_v r h4)
        have hps : (parts.map fun (x : Nat × Operand) => match x with | (i, x) => (i, a.eval x)).toList = ps := by
          rw [← parts_of r hp]
          simp
        have := run_build w t (parts.map fun (x : Nat × Operand) => match x with | (i, x) => (i, a.eval x)) cs.toArray (by rw [hps]; exact h3)
        simp only [execOp, ho, Sem.run_bind, this, Result.andThen_ok, Sem.run_pure]
      · obtain ⟨ps, hp, h1⟩ := partsK_iff h
        refine sem_ok ?_ r h1
        have hps : (parts.map fun (x : Nat × Operand) => match x with | (i, x) => (i, a.eval x)) = ps.toArray := by
          apply Array.ext'
          rw [Array.toList_map]
          exact parts_of r hp
        simp only [execOp, ho, hps]
    · exact False.elim h
  case fieldAddr t x f =>
    split at h
    · rename_i i hl
      split at h
      · rename_i offs hd
        split at h
        · rename_i off sz hf
          have hi := hT _ _ hl
          split at h
          · rename_i b o' hx
            refine wp_value (w' := w) (v := .pointer (some ⟨ρ b, o' + off, none⟩)) ?_ ?_
            · have := run_field hi hd hf (w := w) ⟨ρ b, o', none⟩
              rw [addr_add] at this
              simp [execOp, ho, evp hx, this]
            · exact fin_slot (x := .p b (o' + off)) r (fun b' off' e => by cases e; exact r.wfe x _ _ hx) h
          · rename_i ad hx
            refine wp_value (w' := w) ?_ (fin_v r h)
            have := run_field hi hd hf (w := w) ad
            simp [execOp, ho, evv hx, this]
          · exact False.elim h
        · exact False.elim h
      · exact False.elim h
    · exact False.elim h
  case load t x =>
    split at h
    · rename_i b off hx
      split at h
      · rename_i ty cs i hb hl
        have hi := hT _ _ hl
        obtain ⟨hg, _⟩ := r.box _ _ _ hb
        split at h
        · rename_i hag
          rw [forceL_eq] at h
          obtain ⟨hs, h⟩ := chk_iff h
          have hs := Nat.eq_of_beq_eq_true hs
          refine wp_value (w' := w) ?_ (fin_v r h)
          have := run_loadVar_box hi hg hag (off := off) rfl hs
          simp [execOp, ho, evp hx, Instr.loadAt, Instr.sureAddr, this]
        · rename_i hag
          split at h
          · rename_i v l hv
            refine wp_value (w' := w) ?_ (fin_v r h)
            have := run_loadVar_one hi hg hag hv
            simp [execOp, ho, evp hx, Instr.loadAt, Instr.sureAddr, this]
          · exact False.elim h
      · exact False.elim h
    · rename_i v hx
      exact sem_ok (by simp [execOp, ho, evv hx]) r h
  case store t x y =>
    split at h
    · rename_i b off hx
      split at h
      · rename_i ty cs i hb hl
        have hi := hT _ _ hl
        obtain ⟨hg, _⟩ := r.box _ _ _ hb
        obtain ⟨v, hv, h1⟩ := valK_iff h
        have h2 := cellsK_iff h1
        obtain ⟨hc, h3⟩ := chk_iff h2
        rw [forceL_eq] at h3
        simp only [Bool.and_eq_true] at hc
        have hst := run_storeVar_box hi hg (Nat.eq_of_beq_eq_true hc.1.1) (Nat.le_of_ble_eq_true hc.1.2) (allOne_spec hc.2)
        unfold Oper.wp
        have hrun : (execOp a.eval o).run P w = .ok .skip (w.setRow (ρ b) (putAt cs off v.cells.toList).toArray) := by
          simp [execOp, ho, evp hx, evv hv, Instr.storeAt, Instr.sureAddr, hst]
        rw [hrun]
        show Nx N K (a.put o.dst undef) _
        exact fin_v (r.setBox hb) h3
      · exact False.elim h
    · rename_i v hx
      obtain ⟨u, hu, h1⟩ := valK_iff h
      replace h1 := h1.out
      obtain ⟨w', C', h2, h3, h4, h5⟩ := h1 w r.rest
      unfold Oper.wp
      have hrun : (execOp a.eval o).run P w = .ok .skip w' := by simp [execOp, ho, evv hx, evv hu, h2]
      rw [hrun]
      show Nx N K (a.put o.dst undef) _
      exact fin_v (r.goes h3 h4) h5
  case binOp op t x y t' =>
    obtain ⟨va, hx, h1⟩ := valK_iff h
    obtain ⟨vb, hy, h2⟩ := valK_iff h1
    exact bin_ok hT r ho hx hy h2
  case unOp op t x =>
    obtain ⟨va, hx, h1⟩ := valK_iff h
    split at h1
    · refine wp_value (w' := w) ?_ (fin_v r h1)
      simp [execOp, ho, evv hx, Op.unary]
    · exact sem_ok (by simp [execOp, ho, evv hx]) r h1
  case convert s d x =>
    obtain ⟨va, hx, h1⟩ := valK_iff h
    exact sem_ok (by simp [execOp, ho, evv hx]) r h1
  case extract x i =>
    split at h
    · rename_i vs hx
      split at h
      · rename_i v hv
        refine wp_value (w' := w) ?_ (fin_v r h)
        have hv' : vs[i]? = some v := by simpa using hv
        simp [execOp, ho, evv hx, Instr.extract, hv']
      · exact False.elim h
    · exact False.elim h
  case indexAddr t x i =>
    split at h
    · rename_i A n c hx
      split at h
      · rename_i ti k kk hl hi
        split at h
        · rename_i sz hd
          obtain ⟨e, hu, hs⟩ := (hT _ _ hl).slice hd
          replace h := h.out
          obtain ⟨ad, rfl, h0, h1, h2⟩ := h
          refine wp_value (w' := w) ?_ (fin_v r h2)
          simp [execOp, ho, evv hx, evv hi, Instr.indexAt, asIntOf, run_underlying hu, h0, h1, hs]
        · exact False.elim h
      · exact False.elim h
    · rename_i ad hx
      obtain ⟨k, hk, h1⟩ := valK_iff h
      exact sem_ok (by simp [execOp, ho, evv hx, evv hk]) r h1
    · exact False.elim h
  case slice t x lo hi mx =>
    cases mx with
    | some m =>
      refine gen (l := [x] ++ lo.toList ++ hi.toList ++ [m]) (by cases lo <;> cases hi <;> simp [ho, Op.operands]) (fun ev => ?_) h
      simp only [execOp, ho, Option.map_some]
      rw [ev x (by simp), opt_map (x := lo) (fun y hy => ev y (by simp [hy])), opt_map (x := hi) (fun y hy => ev y (by simp [hy])), ev m (by simp)]
    | none =>
      simp only at h
      obtain ⟨vx, hx, h1⟩ := valK_iff h
      obtain ⟨vl, hl, h2⟩ := optK_iff h1
      obtain ⟨vh, hh, h3⟩ := optK_iff h2
      exact slice_ok hT r (by simp [execOp, ho, evv hx, opt_of r hl, opt_of r hh]) h3
  case buildSlice t n parts =>
    obtain ⟨ps, hp, h1⟩ := partsK_iff h
    refine sem_ok ?_ r h1
    have hps : (parts.map fun (x : Nat × Operand) => match x with | (i, x) => (i, a.eval x)) = ps.toArray := by
      apply Array.ext'
      rw [Array.toList_map]
      exact parts_of r hp
    simp only [execOp, ho, hps]
  case makeSlice t l c =>
    obtain ⟨vl, hl, h1⟩ := valK_iff h
    obtain ⟨vc, hc, h2⟩ := valK_iff h1
    exact sem_ok (by simp [execOp, ho, evv hl, evv hc]) r h2
  case call c => exact call_ok hT r ho hZ h
end
end Go.Proofs.YtgaopcbjhepklaaGreat
