/- Functions that defer. -/
import Derived.Test.YtgaopcbjhepklaaGreatXa
import Derived.Defers
namespace Go.Proofs.YtgaopcbjhepklaaGreat
open Go.RowKit
set_option linter.unusedSimpArgs false
set_option linter.unusedVariables false
set_option maxRecDepth 100000

/-- operations, the last one a defer -/
def splitDefer : List Oper → Option (List Oper × Oper × Call)
  | [] => none
  | [o] => match o.op with
    | .defer c => match o.dst, o.guard with
      | none, none => some ([], o, c)
      | _, _ => none
    | _ => none
  | o :: l => match splitDefer l with
    | some (a, b, c) => some (o :: a, b, c)
    | none => none
theorem splitDefer_eq : ∀ {l a : List Oper} {o : Oper} {c : Call}, splitDefer l = some (a, o, c) → l = a ++ [o] ∧ o.op = .defer c ∧ o.dst = none ∧ o.guard = none
  | [], _, _, _, h => by cases h
  | [x], a, o, c, h => by
    unfold splitDefer at h
    split at h
    · rename_i c' hc
      split at h
      · rename_i h1 h2
        injection h with h
        injection h with h3 h4
        injection h4 with h4 h5
        subst h3 h4 h5
        exact ⟨rfl, hc, h1, h2⟩
      · cases h
    · cases h
  | x :: y :: l, a, o, c, h => by
    unfold splitDefer at h
    split at h
    · rename_i a' b' c' hs
      injection h with h
      injection h with h3 h4
      injection h4 with h4 h5
      subst h3 h4 h5
      obtain ⟨h6, h7⟩ := splitDefer_eq hs
      exact ⟨by rw [h6]; rfl, h7⟩
    · cases h
/-- the value of a function that is deferred, with its arguments -/
def deferK (ev : Operand → SV) (c : Call) (K : Deferred → Prop) : Prop := match c.callee with
  | .value x => match ev x with
    | .v (.func fn first cap) => valsK ev c.args.toList fun vs => forceL (first.toList ++ vs) fun l => K { target := .fn fn cap, args := l.toArray }
    | _ => False
  | _ => False
def vcD (P : Program) (T : List (Nat × TyI)) (N : Fk) (D : Nat → Plan) (c : Code) (C : Ctx) (ss : SS) (K : Fk → Ctx → SS → Prop) (E : Fk → EK) : Prop := match c with
  | .seq x y => match x with
    | .region id ops false => match splitDefer ops.toList with
      | some (pre, _, c) => opsK P T N ops.toList pre (fun ch C ss => E N (.panic ch) C ss) C ss fun C' ss' => deferK ss'.eval c fun d => vcD P T { N with ds := d :: N.ds } D y C' ss' K E
      | none => vc P T N D x C ss (fun C' ss' => vcD P T N D y C' ss' K E) (E N)
    | x => match joins D x with
      | true => JoinVC (fun J => vc P T N D x C ss J (E N)) fun C' ss' => vcD P T N D y C' ss' K E
      | false => vc P T N D x C ss (fun C' ss' => vcD P T N D y C' ss' K E) (E N)
  | c => vc P T N D c C ss (K N) (E N)
section
variable {P : Program} {T : List (Nat × TyI)} {N : Fk} {D : Nat → Plan} {C : Ctx} {ρ : Nat → Nat} {ss : SS} {a : Act} {w : World}
/-- what a function with deferred calls has come to -/
def liftD (K : Fk → Ctx → SS → Prop) (E : Fk → EK) : Exit → Act → World → Prop := fun e a w => ∃ N, liftQ N (K N) (E N) e a w
theorem opsK_pre {ops : Array Oper} (hT : TabOk P T) {Q : Exit → Act → World → Prop} {E : EK} (last : Oper) (hQ : ∀ ch a w, Nx N (E (.panic ch)) a w → Q (.panic ch) a w) {K : Ctx → SS → Prop} (hK : ∀ a w, Nx N K a w → wpList P ops Q [last] a w) : ∀ (rest : List Oper) {C : Ctx} {ss : SS} {a : Act} {w : World}, Rep N C ss a w → opsK P T N ops.toList rest (fun ch C ss => E (.panic ch) C ss) C ss K → wpList P ops Q (rest ++ [last]) a w
  | [], C, ss, a, w, ⟨ρ, r⟩, h => hK a w ⟨C, ss, ⟨ρ, r⟩, h⟩
  | o :: rest, C, ss, a, w, ⟨ρ, r⟩, h => by
    refine wpList_step fun K' hK' => ?_
    have h1 := stepK_sound (Q := Q) (fun ch C' ss' a' w' r' hz => hQ ch a' w' ⟨C', ss', r', hz⟩) hT r h
    split
    · rename_i hw
      rw [if_pos hw] at h1
      refine Oper.wp_mono (fun a' w' ⟨C', ss', r', h'⟩ => ?_) h1
      exact hK' _ _ (opsK_pre hT last hQ hK rest r' h')
    · rename_i hw
      rw [if_neg hw] at h1
      obtain ⟨C', ss', r', h'⟩ := h1
      exact hK' _ _ (opsK_pre hT last hQ hK rest r' h')
theorem deferK_iff {c : Call} {K : Deferred → Prop} (r : RepAt N C ρ ss a w) (h : deferK ss.eval c K) (t : TypeId) : ∃ d, (resolve a.eval c t).run P w = .ok d w ∧ K d := by
  obtain ⟨cal, args, ats⟩ := c
  unfold deferK at h
  simp only at h
  split at h
  · rename_i x
    split at h
    · rename_i fn first cap hx
      obtain ⟨vs, h1, h2⟩ := valsK_iff h
      rw [forceL_eq] at h2
      have hargs : args.map a.eval = vs.toArray := by
        apply Array.ext'
        rw [Array.toList_map]
        exact args_of r h1
      have hfv : a.eval x = .func fn first cap := by rw [r.eval, hx]; rfl
      refine ⟨_, ?_, h2⟩
      have e : (first.toList ++ vs).toArray = first ++ vs.toArray := by apply Array.ext'; simp
      rw [e]
      simp [resolve, hfv, hargs, Deferred.ofValue]
    · exact False.elim h
  · exact False.elim h
theorem Nx_defer {d : Deferred} {K : Ctx → SS → Prop} (r : RepAt N C ρ ss a w) : RepAt { N with ds := d :: N.ds } C ρ ss { a with defers := d :: a.defers } w :=
  ⟨r.size, by show d :: a.defers = d :: N.ds; rw [r.nod], r.slot, r.box, r.inj, r.wf, r.rest⟩
theorem vcD_sound (hT : TabOk P T) {K : Fk → Ctx → SS → Prop} {E : Fk → EK} : ∀ (c : Code), (∀ N, drawsOk P T N D c) → ∀ {N : Fk} {C : Ctx} {ss : SS} {a : Act} {w : World}, Rep N C ss a w → vcD P T N D c C ss K E → c.wp P (liftD K E) a w := by
  have one : ∀ (c : Code), (∀ N, drawsOk P T N D c) → ∀ {N : Fk} {C : Ctx} {ss : SS} {a : Act} {w : World}, Rep N C ss a w → vc P T N D c C ss (K N) (E N) → c.wp P (liftD K E) a w := fun c hd {N C ss a w} r h => wp_mono (vc_sound hT c (hd N) r h) fun e a' w' hq => ⟨N, hq⟩
  intro c
  induction c with
  | seq x y ihx ihy =>
    intro hd N C ss a w r h
    have plain : vc P T N D x C ss (fun C' ss' => vcD P T N D y C' ss' K E) (E N) → (Code.seq x y).wp P (liftD K E) a w := fun h => by
      refine wp_seq (wp_mono (vc_sound hT x (hd N).1 r h) fun e a' w' hq => ?_)
      cases e with
      | normal => obtain ⟨C', ss', r', h'⟩ := hq; exact ihy (fun N => (hd N).2) r' h'
      | _ => exact ⟨N, hq⟩
    unfold vcD at h
    split at h
    · rename_i id ops
      split at h
      · rename_i pre o cl hs
        obtain ⟨h1, h2, h3, h4⟩ := splitDefer_eq hs
        refine wp_seq (wp_region_list ?_)
        rw [h1]
        refine opsK_pre (N := N) (E := E N) hT o (fun ch a w hz => ⟨N, hz⟩) (fun a w hz => ?_) pre r (by exact h)
        obtain ⟨C', ss', ⟨ρ, r'⟩, hk⟩ := hz
        obtain ⟨d, h5, h6⟩ := deferK_iff (P := P) (w := w) r' hk o.type
        refine wpList_step fun K' hK' => ?_
        have hw : Region.wanted o (yielded ops a.tmps) = true := by simp [Region.wanted, h4]
        rw [if_pos hw]
        unfold Oper.wp
        have hrun : (execOp a.eval o).run P w = .ok (.defer d) w := by simp [execOp, h2, h5]
        rw [hrun, Oper.upon_defer, h3]
        refine hK' _ _ ?_
        exact ihy (fun N => (hd N).2) ⟨ρ, Nx_defer (K := fun _ _ => True) (d := d) r'⟩ h6
      · exact plain h
    · split at h
      · replace h := h.out
        rcases h with h | ⟨J, h1, h2⟩
        · exact plain h
        · refine wp_seq (wp_mono (vc_sound hT x (hd N).1 r h1) fun e a' w' hq => ?_)
          cases e with
          | normal =>
            obtain ⟨C', ss', ⟨ρ, r'⟩, h'⟩ := hq
            obtain ⟨ss'', h3, h4⟩ := h' _ _ _ _ _ r'
            exact ihy (fun N => (hd N).2) ⟨ρ, h4⟩ (h2 _ _ h3)
          | _ => exact ⟨N, hq⟩
      · exact plain h
  | _ => intro hd N C ss a w r h; exact one _ hd r h
end
end Go.Proofs.YtgaopcbjhepklaaGreat
