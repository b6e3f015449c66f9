/- Regions that draw their order: a plan serves (2). -/
import Derived.Test.YtgaopcbjhepklaaGreatWi
namespace Go.Proofs.YtgaopcbjhepklaaGreat
open Go.RowKit
set_option linter.unusedSimpArgs false
set_option linter.unusedVariables false
section
variable {P : Program} {T : List (Nat × TyI)} {N : Fk} {C : Ctx} {o : Oper} {ops : List Oper}
/-- the conditions of such an operation, elsewhere -/
theorem pureK_opK {e : Bool} {Z : PanK} {ev : Operand → SV} {bx bx' : Nat → Option (TypeId × List Value)} {K : OutK} (h : pureK T o ev bx fun x rb => (∀ b, rb = some b → bx' b = bx b) ∧ K C x none) : opK P T e o C ev bx' K Z := by
  cases ho : o.op <;> simp only [pureK, opK, ho, forceV_eq] at h ⊢ <;> try exact False.elim h
  case nilCheck x =>
    split at h
    · rename_i hx; simp only [hx]; exact h.2
    · rename_i hx; simp only [hx]; exact h.2
    · exact False.elim h
  case move x => exact h.2
  case assign x => exact h.2
  case pick c x y =>
    split at h
    · rename_i t ht
      rw [ht]
      exact splitB.mono (·.2) (·.2) h
    · exact False.elim h
  case build t parts =>
    split at h
    · rename_i i hl
      split at h
      · rename_i offs hd
        rw [hl]
        simp only [hd]
        exact partsK.mono (fun ps => cellsK.mono fun cs => fillK.mono fun l h => h.2) h
      · exact False.elim h
    · exact False.elim h
  case fieldAddr t x f =>
    split at h
    · rename_i i hl
      split at h
      · rename_i offs hd
        split at h
        · rename_i o' sz hf
          split at h
          · rename_i b off hx
            simp only [hl, hd, hf, hx]
            exact h.2
          · rename_i a hx
            simp only [hl, hd, hf, hx]
            exact h.2
          · exact False.elim h
        · exact False.elim h
      · exact False.elim h
    · exact False.elim h
  case load t x =>
    split at h
    · rename_i b off hx
      split at h
      · rename_i ty cs i hb hl
        split at h
        · rename_i hag
          rw [forceL_eq] at h
          obtain ⟨h1, h2, h3⟩ := chk_iff h
          have hb' := (h2 b rfl).trans hb
          simp only [hx, hb', hl, hag, forceL_eq]
          rw [h1]
          exact h3
        · rename_i hag
          split at h
          · rename_i v l hv
            have hb' := (h.1 b rfl).trans hb
            simp only [hx, hb', hl, hag, hv]
            exact h.2
          · exact False.elim h
      · exact False.elim h
    · exact False.elim h
  case binOp op t x y t' =>
    refine valK.mono (fun a => valK.mono fun b h => ?_) h
    unfold binK
    split at h
    · simp only
      split at h
      all_goals first
        | exact False.elim h
        | (split <;> first | contradiction | exact chk.mono (intK.mono fun v h => h.2) h)
        | exact chk.mono (intK.mono fun v h => h.2) h
    · rename_i hni
      split at h
      · rename_i rb hr
        split
        · exact absurd rfl (hni _ _ _ _ rfl)
        · rw [hr]; exact h.2
      · exact False.elim h
  case unOp op t x =>
    refine valK.mono (fun a h => ?_) h
    split at h
    · exact h.2
    · exact False.elim h
  case extract x i =>
    split at h
    · rename_i vs hx
      split at h
      · rename_i v hv
        simp only [hx, hv]
        exact h.2
      · exact False.elim h
    · exact False.elim h
  case indexAddr t x i =>
    split at h
    · rename_i A n c hx
      split at h
      · rename_i ti k kk hl hi
        split at h
        · rename_i sz hd
          simp only [hx, hl, hi, hd]
          exact IdxVC.mono (fun v h => h.2) h
        · exact False.elim h
      · exact False.elim h
    · exact False.elim h
  case slice t x lo hi mx =>
    cases mx with
    | some m => exact False.elim h
    | none =>
      refine valK.mono (fun a => optK.mono fun lo => optK.mono fun hi h => ?_) h
      unfold sliceK
      split at h
      · rename_i A n c i hl
        split at h
        · rename_i sz hd
          split at h
          · simp only [hl, hd]; exact CutVC.mono (fun v h => h.2) h
          · simp only [hl, hd]; exact CutVC.mono (fun v h => h.2) h
          · simp only [hl, hd]; exact CutVC.mono (fun v h => h.2) h
          · exact False.elim h
        · exact False.elim h
      · exact False.elim h
  case call c =>
    unfold callK
    split at h
    · rename_i hc
      simp only [hc]
      refine valsK.mono (fun vs h => ?_) h
      split at h
      · rename_i A n cc t hats
        split at h
        · rename_i i hl
          split at h
          · rename_i e hd
            simp only [hats, hl, hd]
            exact h.2
          · exact False.elim h
        · exact False.elim h
      · exact False.elim h
    · exact False.elim h
/-! ### one operation, in a state of which another slot is another one -/
def putS (dst : Option Tmp) (x : SV) (ss : SS) : SS := match dst with
  | none => ss
  | some d => ⟨upd ss.s d x, ss.b⟩
theorem putK_iff {dst : Option Tmp} {x : SV} {ss : SS} {K : SS → Prop} (h : putK N dst x ss K) : K (putS dst x ss) ∧ ∀ y ss' K', K' (putS dst y ss') → putK N dst y ss' K' := by
  cases dst with
  | none => exact ⟨h, fun y ss' K' h' => h'⟩
  | some d =>
    obtain ⟨h1, h2⟩ := chk_iff h
    exact ⟨h2, fun y ss' K' h' => by simp only [putK]; rw [h1]; exact h'⟩
theorem putK_mono {dst : Option Tmp} {x : SV} {ss : SS} {K K' : SS → Prop} (hk : K (putS dst x ss) → K' (putS dst x ss)) (h : putK N dst x ss K) : putK N dst x ss K' := by
  obtain ⟨h1, h2⟩ := putK_iff h
  exact h2 _ _ _ (hk h1)
theorem guardK_mono {ss : SS} {A A' B B' : SS → Prop} (hA : A ss → A' ss) (hB : B ss → B' ss) (h : guardK ops o ss A B) : guardK ops o ss A' B' := by
  unfold guardK at *
  split at h
  · exact hA h
  · rename_i j want hg
    split at h
    · split at h
      · split at h
        · rename_i g _ _ b hb
          have l1 : b = true → litB ss g true = ss := fun e => by subst e; exact litB_eq hb
          have l0 : b = false → litB ss g false = ss := fun e => by subst e; exact litB_eq hb
          cases b with
          | true =>
            simp only [splitB, l1] at h ⊢
            cases want with
            | true => exact hA h
            | false => exact hB h
          | false =>
            simp only [splitB, l0] at h ⊢
            cases want with
            | true => exact hB h
            | false => exact hA h
        · exact hB h
        · exact h
      · exact h
    · exact h
/-- which slots and boxes an operation leaves as they are -/
def Leaves (o : Oper) (ss ss' : SS) : Prop :=
  (∀ t, o.dst ≠ some t → ss'.s t = ss.s t) ∧ ∀ b, (ss.b b).isSome = true → (∀ ty x y off, o.op = .store ty x y → ss.eval x ≠ .p b off) → ss'.b b = ss.b b
theorem putS_slot {dst : Option Tmp} {x : SV} {ss : SS} {t : Nat} (h : dst ≠ some t) : (putS dst x ss).s t = ss.s t := by
  cases dst with
  | none => rfl
  | some d => exact upd_ne _ _ fun e => h (by rw [e])
theorem putS_box {dst : Option Tmp} {x : SV} {ss : SS} : (putS dst x ss).b = ss.b := by cases dst <;> rfl
theorem stepK_mono {ss : SS} {K K' : Ctx → SS → Prop} {Z : ZK} (hk : ∀ C ss', Leaves o ss ss' → K C ss' → K' C ss') (h : stepK P T N ops o C ss K Z) : stepK P T N ops o C ss K' Z := by
  rw [stepK_eq] at h ⊢
  refine guardK_mono (fun h => ?_) (fun h => ?_) h
  · refine opK_mono (fun C' x δ hf h => ?_) h
    refine putK_mono (fun h => hk _ _ ⟨fun t ht => putS_slot (ss := ⟨ss.s, applyB ss.b δ⟩) ht, fun b hb hs => ?_⟩ h) h
    rw [putS_box]
    show applyB ss.b δ b = ss.b b
    cases δ with
    | none => rfl
    | some δ =>
      obtain ⟨d, t, cs⟩ := δ
      refine upd_ne _ _ fun e => ?_
      subst e
      rcases hf b t cs rfl with h1 | ⟨ty, x, y, off, h1, h2⟩
      · rw [h1] at hb; cases hb
      · exact hs ty x y off h1 h2
  · refine putK_mono (fun h => hk _ _ ⟨fun t ht => putS_slot ht, fun b hb hs => by rw [putS_box]⟩ h) h
theorem putS_comm {d1 d2 : Option Tmp} {x y : SV} {ss : SS} (h : ∀ d, d1 = some d → d2 ≠ some d) : putS d1 x (putS d2 y ss) = putS d2 y (putS d1 x ss) := by
  cases d1 with
  | none => rfl
  | some a => cases d2 with
    | none => rfl
    | some b =>
      have : a ≠ b := fun e => h a rfl (by rw [e])
      simp only [putS]
      rw [upd_comm _ _ _ this.symm]
theorem putS_apply {d : Option Tmp} {x : SV} {ss : SS} {δ : Option (Nat × TypeId × List Value)} : (⟨(putS d x ss).s, applyB (putS d x ss).b δ⟩ : SS) = putS d x ⟨ss.s, applyB ss.b δ⟩ := by cases d <;> rfl
/-- an operation that looks at no slot that another one has put, and puts another slot -/
theorem stepK_put {ss : SS} {K : Ctx → SS → Prop} {oi : Oper} {x : SV} {Z : ZK} (hz : ∀ ch C, Z ch C (putS oi.dst x ss) → Z ch C ss) (hap : oi.apart ops.toArray o = true) (h : stepK P T N ops o C (putS oi.dst x ss) K Z) : stepK P T N ops o C ss (fun C' ss' => K C' (putS oi.dst x ss')) Z := by
  obtain ⟨h1, h2, h3⟩ := Oper.apart_spec hap
  have hslot : ∀ t, t ∈ o.looksAt ops.toArray → (putS oi.dst x ss).s t = ss.s t := fun t ht => putS_slot fun e => h1 t e ht
  have hev : ∀ y ∈ o.op.operands, (putS oi.dst x ss).eval y = ss.eval y := fun y hy => by
    cases y with
    | tmp t => exact hslot t (by
        unfold Oper.looksAt
        refine List.mem_append.2 (.inl (List.mem_filterMap.2 ⟨.tmp t, by simpa using hy, rfl⟩)))
    | _ => rfl
  have hd : ∀ d, o.dst = some d → oi.dst ≠ some d := fun d e e' => h2 d e' e
  have opp : opK P T (escOf N o.dst) o C (putS oi.dst x ss).eval (putS oi.dst x ss).b (fun C' y δ => putK N o.dst y ⟨(putS oi.dst x ss).s, applyB (putS oi.dst x ss).b δ⟩ (K C')) (fun ch C' => Z ch C' (putS oi.dst x ss)) → opK P T (escOf N o.dst) o C ss.eval ss.b (fun C' y δ => putK N o.dst y ⟨ss.s, applyB ss.b δ⟩ fun ss' => K C' (putS oi.dst x ss')) (fun ch C' => Z ch C' ss) := fun h => by
    rw [opK_congr hev, putS_box] at h
    refine opK_mono (fun C' y δ _ h => ?_) h hz
    obtain ⟨h4, h5⟩ := putK_iff h
    refine h5 _ _ _ ?_
    rw [← putS_box (dst := oi.dst) (x := x) (ss := ss)] at h4
    rw [putS_apply, putS_comm hd] at h4
    exact h4
  have und : putK N o.dst (.v undef) (putS oi.dst x ss) (K C) → putK N o.dst (.v undef) ss fun ss' => K C (putS oi.dst x ss') := fun h => by
    obtain ⟨h4, h5⟩ := putK_iff h
    refine h5 _ _ _ ?_
    rw [putS_comm hd] at h4
    exact h4
  rw [stepK_eq] at h ⊢
  unfold guardK at *
  split at h
  · exact opp h
  · rename_i j want hg
    split at h
    · rename_i og hj
      split at h
      · rename_i g hgd
        have hgs : (putS oi.dst x ss).s g = ss.s g := hslot g (by
          unfold Oper.looksAt
          refine List.mem_append.2 (.inr ?_)
          have hoj : ops.toArray[j]? = some og := by rw [opAt_eq] at hj; simpa using hj
          rw [hg]
          simp only [hoj, Option.bind_some, hgd, Option.toList_some, List.mem_singleton])
        rw [hgs] at h
        split at h
        · rename_i b hb
          have hb' : (putS oi.dst x ss).s g = .v (.bool b) := hgs.trans hb
          cases b with
          | true =>
            simp only [splitB, litB_eq hb, litB_eq hb'] at h ⊢
            cases want with
            | true => exact opp h
            | false => exact und h
          | false =>
            simp only [splitB, litB_eq hb, litB_eq hb'] at h ⊢
            cases want with
            | true => exact und h
            | false => exact opp h
        · exact und h
        · exact h
      · exact h
    · exact h
end
end Go.Proofs.YtgaopcbjhepklaaGreat
