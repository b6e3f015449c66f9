/- The conditions of one operation serve: all operations. -/
import Derived.Test.YtgaopcbjhepklaaGreatWc
namespace Go.Proofs.YtgaopcbjhepklaaGreat
open Go.RowKit
set_option linter.unusedSimpArgs false
set_option linter.unusedVariables false
section
variable {P : Program} {T : List (Nat × TyI)} {N : Fk} {C : Ctx} {ρ : Nat → Nat} {ss : SS} {a : Act} {w : World} {o : Oper} {K : Ctx → SS → Prop} {Q : Exit → Act → World → Prop}
abbrev FinK (N : Fk) (ss : SS) (dst : Option Tmp) (K : Ctx → SS → Prop) : OutK := fun C' x δ => putK N dst x ⟨ss.s, applyB ss.b δ⟩ (K C')
theorem den_of_v {x : SV} {v : Value} (h : x = .v v) : x.den ρ = v := by rw [h]; rfl
theorem args_of (r : RepAt N C ρ ss a w) {l : List Operand} {vs : List Value} (h : l.map ss.eval = vs.map SV.v) : l.map a.eval = vs := by
  have : l.map a.eval = (l.map ss.eval).map (SV.den ρ) := by
    rw [List.map_map]
    exact List.map_congr_left fun x _ => r.eval x
  rw [this, h, List.map_map]
  simp [Function.comp_def, SV.den]
theorem parts_of (r : RepAt N C ρ ss a w) {l : List (Nat × Operand)} {ps : List (Nat × Value)} (h : l.map (fun p => (p.1, ss.eval p.2)) = ps.map (fun p => (p.1, SV.v p.2))) : l.map (fun p => (p.1, a.eval p.2)) = ps := by
  have : l.map (fun p => (p.1, a.eval p.2)) = (l.map (fun p => (p.1, ss.eval p.2))).map (fun p => (p.1, p.2.den ρ)) := by
    rw [List.map_map]
    exact List.map_congr_left fun x _ => by simp [r.eval]
  rw [this, h, List.map_map]
  simp [Function.comp_def, SV.den]
theorem opt_of (r : RepAt N C ρ ss a w) {x : Option Operand} {v : Option Value} (h : x.map ss.eval = v.map SV.v) : x.map a.eval = v := by
  cases x with
  | none => cases v with
    | none => rfl
    | some v => cases h
  | some x => cases v with
    | none => cases h
    | some v => simp at h ⊢; rw [r.eval, h]; rfl
theorem new_ok (r : RepAt N C ρ ss a w) {d : Nat} {t : TypeId} {cs : List Value} (hd : ss.b d = none) (ho : o.dst = some d) (hrun : (execOp a.eval o).run P w = .ok (.value (.pointer (some ⟨w.heap.size, 0, none⟩))) (w.alloc (.cells cs.toArray t))) (h : FinK N ss o.dst K C (.p d 0) (some (d, t, cs))) : o.wp P a w (Nx N K) Q := by
  refine wp_value hrun ?_
  have r' := r.new d hd t cs
  have := fin_slot (K := K) (x := .p d 0) (dst := o.dst) r' (fun b off e => by
    cases e
    show (upd ss.b d _ d).isSome = true
    rw [upd_same]; rfl) h
  simpa [SV.den, upd_same] using this
theorem bin_ok (hT : TabOk P T) (r : RepAt N C ρ ss a w) {op : BinOp} {t t' : TypeId} {x y : Operand} (ho : o.op = .binOp op t x y t') {va vb : Value} (hx : ss.eval x = .v va) (hy : ss.eval y = .v vb) (h : binK P T op t x y C va vb fun v C' => putK N o.dst (.v v) ss (K C')) : o.wp P a w (Nx N K) Q := by
  have ex : a.eval x = va := by rw [r.eval, hx]; rfl
  have ey : a.eval y = vb := by rw [r.eval, hy]; rfl
  have hgen : (execOp a.eval o).run P w = (do pure (Next.value (← (do eqGuard op t x y va vb; binOp op t va vb)))).run P w := by
    simp only [execOp, ho, ex, ey]
  have rest : (SemVC P C (do eqGuard op t x y va vb; binOp op t va vb) fun v C' => putK N o.dst (.v v) ss (K C')) → o.wp P a w (Nx N K) Q := fun h => sem_ok hgen r h
  have int : ∀ k1 n1 k2 n2, va = .int k1 n1 → vb = .int k2 n2 → (eqGuard op t x y va vb).run P w = .ok () w := by
    intro k1 n1 k2 n2 e1 e2
    subst e1 e2
    unfold eqGuard
    split <;> simp
  unfold binK at h
  split at h
  · rename_i k1 n1 k2 n2
    have hg := int _ _ _ _ rfl rfl
    have hval : ∀ v, (binOp op t (.int k1 n1) (.int k2 n2)).run P w = .ok v w → putK N o.dst (.v v) ss (K C) → o.wp P a w (Nx N K) Q := fun v h1 h2 => by
      refine wp_value (v := v) (w' := w) ?_ (fin_v r h2)
      rw [hgen]
      simp [hg, h1]
    have hsem : (SemVC P C (binOp op t (.int k1 n1) (.int k2 n2)) fun v C' => putK N o.dst (.v v) ss (K C')) → o.wp P a w (Nx N K) Q := fun h => by
      refine sem_ok (m := binOp op t (.int k1 n1) (.int k2 n2)) ?_ r h
      rw [hgen]
      simp [hg]
    split at h
    · exact hsem (by simpa [binOp] using h)
    · exact hsem (by simpa [binOp] using h)
    · exact hsem h
    · exact hsem h
    · exact hsem h
    · exact hsem h
    · obtain ⟨hk, h'⟩ := chk_iff h
      clear h
      have hk := of_decide_eq_true hk
      subst hk
      cases op
      all_goals first
        | exact False.elim h'
        | exact hval _ (by simp only [binOp, ne_eq, not_true_eq_false, if_false, Op.intArith, Op.intCmp]; rfl) h'
        | (obtain ⟨h0, h'⟩ := h'; exact hval _ (by simp only [binOp, ne_eq, not_true_eq_false, if_false, Op.intDiv, h0]; rfl) h')
  · split at h
    · rename_i rb hr
      refine wp_value (v := .bool rb) (w' := w) ?_ (fin_v r h)
      rw [hgen]
      have := aggEq_run hT hr x y w
      simp only [Sem.run_bind, Sem.run_pure] at this ⊢
      rw [this]
      rfl
    · exact rest h
end
end Go.Proofs.YtgaopcbjhepklaaGreat
