/- A seat lets a frame go on. -/
import Derived.Test.YtgaopcbjhepklaaGreatZi
import Derived.Test.YtgaopcbjhepklaaGreatGa
namespace Go.Proofs.YtgaopcbjhepklaaGreat
open Go.RowKit
set_option linter.unusedSimpArgs false
set_option linter.unusedVariables false
set_option maxRecDepth 100000
/-- phase and operation of what is asked for -/
structure PhO where
  ph : Int
  o0 : Int
  o1 : Int
  o2 : Int
  o3 : Int
def goOp (s : SeP) (q : QV) (task : Int) : PhO :=
  if q.kind = 1 then ⟨1, 17, 0, q.a, 0⟩ else if q.kind = 2 then ⟨1, 18, 0, q.a, q.b⟩ else if q.kind = 3 then ⟨1, q.o0, q.o1, q.o2, q.o3⟩
  else if q.kind = 4 then ⟨2, 11, 0, task, 0⟩ else if q.kind = 5 then ⟨4, 13, 0, task, 0⟩ else if q.kind = 6 then ⟨5, 14, 0, task, q.a⟩ else ⟨s.phase, s.o0, s.o1, s.o2, s.o3⟩
def goS (s : SeP) (q : QV) (p : PhO) : SeP := { s with phase := p.ph, at_ := 0, qk := q.kind, qa := q.a, qb := q.b, p0 := q.o0, p1 := q.o1, p2 := q.o2, p3 := q.o3, Aq := q.Aa, nq := q.na, cq := q.ca, o0 := p.o0, o1 := p.o1, o2 := p.o2, o3 := p.o3, Al := none, nl := 0, cl := 0, As := none, ns := 0, cs := 0 }
def SR.okE : SR → Prop
  | .err e => e = 1
  | _ => True
theorem okE_ite {c : Prop} [Decidable c] {a b : SR} (h1 : a.okE) (h2 : b.okE) : (if c then a else b).okE := by
  split
  · exact h1
  · exact h2
theorem instrP_okE {k : MK} {fa : Int → Int} {f : PF} {i : InsP} : (instrP k fa f i).okE := by
  unfold instrP callP PF.two
  repeat' (first | exact rfl | exact trivial | apply okE_ite)
theorem instrP_err {k : MK} {fa : Int → Int} {f : PF} {i : InsP} {e : Int} (h : instrP k fa f i = .err e) : e = 1 := by
  have := instrP_okE (k := k) (fa := fa) (f := f) (i := i)
  rw [h] at this
  exact this
theorem stepP_err {k : MK} {fa : Int → Int} {b : BodyP} {f : PF} {e : Int} (h : stepP k fa b f = .err e) : e = 1 ∨ e = 11 := by
  unfold stepP at h
  repeat' split at h
  · injection h with h; exact .inr h.symm
  · injection h with h; exact .inl h.symm
  · injection h with h; exact .inl h.symm
  · exact .inl (instrP_err h)
theorem runP_e {k : MK} {fa : Int → Int} {b : BodyP} : ∀ (n : Nat) (f : PF) {e : Int}, runP k fa b n f = .err e → e = 1 ∨ e = 11
  | 0, f, e, h => by simp only [runP] at h; injection h with h; exact .inr h.symm
  | n + 1, f, e, h => by
    simp only [runP] at h
    split at h
    · exact runP_e n _ h
    · cases h
    · rename_i e' he
      injection h with h
      subst h
      exact stepP_err he
theorem nextP_err {c : CodeP} {f : FrP} {e : Int} (h : nextP c f = .err e) : e ≠ 0 := by
  rcases runP_e _ _ h with h | h <;> omega
section
variable {wA w0 : World} {X : Nat → Prop} {M : EL} {K : Value → Ctx → Prop} {Z : PanK}
set_option maxHeartbeats 4000000 in
theorem go_vc {c : CodeP} {s : SeP} {f : FrP} (hc : CodeOk wA c) (hf : FrOk wA f)
    (h0 : rightB c f = false → K (.tuple #[.agg s.l.toArray, .agg f.l.toArray, .int .i64 1]) (CtxA wA w0 X M))
    (h1 : rightB c f = true → ∀ e, nextP c f = .err e → K (.tuple #[.agg s.l.toArray, .agg f.l.toArray, .int .i64 e]) (CtxA wA w0 X M))
    (h2 : rightB c f = true → ∀ Ap cp Ak ck v q, MOk (kOf c f Ap cp Ak ck) v → QOk q → q.kind ≠ 0 → nextP c f = .ok (pf v) (qp q) → ∀ ph o0 o1 o2 o3, goOp s q f.task = ⟨ph, o0, o1, o2, o3⟩ → K (.tuple #[.agg (goS s q ⟨ph, o0, o1, o2, o3⟩).l.toArray, .agg (frV (kOf c f Ap cp Ak ck) v).toArray, .int .i64 0]) (CtxA wA w0 X (rowsN (kOf c f Ap cp Ak ck) v q M))) :
    CallVC Tryz.prog (CtxA wA w0 X M) 10 #[.agg c.l.toArray, .agg s.l.toArray, .agg f.l.toArray] K Z := by
  refine it10 (by rfl) ?_
  intro w2 X2
  conv => whnf
  repeat' (first
    | (refine next_vc hc hf (fun hr => ?_) (fun hr e he => ?_) (fun hr Ap cp Ak ck v q hm hq hk he => ?_))
    | (refine boxA _ rfl fun bx => ?_; conv => whnf))
  · conv => whnf
    exact RetT.drop (K := K) M (by repeat (first | exact List.Sublist.refl _ | refine List.Sublist.cons _ ?_)) (h0 hr)
  · have hne := nextP_err he
    conv => whnf
    refine splitB.neI (fun hb => ?_) (fun hb => absurd hb hne)
    conv => whnf
    exact RetT.drop (K := K) M (by repeat (first | exact List.Sublist.refl _ | refine List.Sublist.cons _ ?_)) (h1 hr e he)
  · conv => whnf
    repeat' (first
      | (refine RetT.drop (K := K) (rowsN (kOf c f Ap cp Ak ck) v q M) (by repeat (first | exact List.Sublist.refl _ | refine List.Sublist.cons_cons _ ?_ | refine List.Sublist.cons _ ?_)) (h2 hr Ap cp Ak ck v q hm hq hk he _ _ _ _ _ (by simp only [goOp]; repeat (first | rfl | refine (if_pos (by assumption)).trans ?_ | refine (if_neg (by assumption)).trans ?_))))
      | (refine JoinVC.go ?_; conv => whnf)
      | (refine RetA.go ?_; conv => whnf)
      | (refine PanA.go ?_; conv => whnf)
      | (refine And.intro ?_ ?_ <;> conv => whnf)
      | (refine ldA (by repeat (first | exact List.Mem.head _ | refine List.Mem.tail _ ?_)) (tab_ok _ _ (by rfl)) (by rfl) (by rfl) ?_; conv => whnf)
      | (refine ldsA (by repeat (first | exact List.Mem.head _ | refine List.Mem.tail _ ?_)) (tab_ok _ _ (by rfl)) (by rfl) ?_; conv => whnf)
      | (refine stA (tab_ok _ _ (by rfl)) (by repeat (first | exact AtE.here | apply AtE.there)) ?_; conv => whnf)
      | (refine splitB.dec (fun hb => ?_) (fun hb => ?_) <;> conv => whnf)
      | (refine splitB.ndec (fun hb => ?_) (fun hb => ?_) <;> conv => whnf)
      | (refine splitB.eqI (fun hb => ?_) (fun hb => ?_) <;> conv => whnf)
      | (refine splitB.neI (fun hb => ?_) (fun hb => ?_) <;> conv => whnf)
      | (intro r bx; conv => whnf))
end
end Go.Proofs.YtgaopcbjhepklaaGreat
