/- Lemmas for the proof, joined from several texts: no statement of its own; their conditions stand in them. -/
import Derived.Test.YtgaopcbjhepklaaGreatQ2
/- The document's frames: a step. -/
namespace Go.Proofs.YtgaopcbjhepklaaGreat
open Go.RowKit
set_option linter.unusedSimpArgs false
set_option linter.unusedVariables false
set_option maxRecDepth 100000
def pfF (f : FrP) : PF := ⟨f.pc, f.spent, f.fail, f.loc, f.stk⟩
/-- what stays of a frame behind a step -/
structure Keep (M' : EL) (f f' : FrP) : Prop where
  task : f'.task = f.task
  path : f'.Ap = f.Ap ∧ f'.np = f.np ∧ f'.cp = f.cp ∧ f'.path = f.path
  fn : f'.fn = f.fn
  kids : f'.Ak = f.Ak ∧ f'.nk = f.nk ∧ f'.ck = f.ck ∧ f'.kids = f.kids
  many : f'.many = f.many
  loc : (f'.Al = f.Al ∧ f'.nl = f.nl ∧ f'.cl = f.cl ∧ f'.loc = f.loc) ∨ ((Value.slice f'.Al f'.nl f'.cl, DA.row 3 1 (is f'.loc)) ∈ M' ∧ f'.nl = f.nl)
  stk : (f'.As = f.As ∧ f'.ns = f.ns ∧ f'.cs = f.cs ∧ f'.stk = f.stk) ∨ ((Value.slice f'.As f'.ns f'.cs, DA.row 3 1 (is f'.stk)) ∈ M')
theorem Keep.refl (M' : EL) (f : FrP) : Keep M' f f := ⟨rfl, ⟨rfl, rfl, rfl, rfl⟩, rfl, ⟨rfl, rfl, rfl, rfl⟩, rfl, .inl ⟨rfl, rfl, rfl, rfl⟩, .inl ⟨rfl, rfl, rfl, rfl⟩⟩
def q0Q (kind a b o0 o1 o2 o3 : Int) : QV := ⟨kind, a, b, o0, o1, o2, o3, none, 0, 0, []⟩
def QV.l (q : QV) : List Value := [.int .i64 q.kind, .int .i64 q.a, .int .i64 q.b, .int .i64 q.o0, .int .i64 q.o1, .int .i64 q.o2, .int .i64 q.o3, .slice q.Aa q.na q.ca]
def QKeep (M' : EL) (q : QV) : Prop := (q.Aa = none ∧ q.na = 0 ∧ q.ca = 0 ∧ q.got = []) ∨ (Value.slice q.Aa q.na q.ca, DA.row 3 1 (is q.got)) ∈ M'
/-- what a frame that steps is -/
structure StepOk (wA : World) (c : CodeP) (f : FrP) : Prop where
  code : CodeOk wA c
  fr : FrOk wA f
  f0 : 0 ≤ f.fn
  f1 : f.fn < c.nf
  p0 : 0 ≤ f.pc
  p1 : f.pc < (bodyAt c f.fn).ni
  ns : f.ns ≤ 100
  stk : valsB f.stk = true
  spent : 0 ≤ f.spent ∧ f.spent < 2000
abbrev stp (c : CodeP) (f : FrP) : SR := stepP (kOf c f none 0 none 0) (fun a => (bodyAt c a).args) (bodyAt c f.fn) (pfF f)
theorem topO {wA : World} {A : Option Addr} {n cap : Nat} {xs : List Int} (h : OldI wA A n cap xs) (k m : Nat) (hk : k + m = n) : OldI wA (if cap = k then A else A.map (·.add (k * 1))) m (cap - k) (xs.drop k) := by
  have hl := h.len
  have hc := h.cap
  have hs := h.sm
  refine ⟨?_, by simp; omega, by omega, by omega⟩
  rw [Nat.mul_one, is_drop]
  exact Rd.cut h.rd (by simp; omega)
theorem wentA {xs : List Int} {m j : Nat} (h : j < m) (hm : m ≤ xs.length) : (xs.drop (xs.length - m) ++ [0, 0]).getD j 0 = (xs.drop (xs.length - m)).getD j 0 := by
  simp only [List.getD]
  rw [List.getElem?_append_left (by simp; omega)]
theorem wentB {xs : List Int} {m j : Nat} (h : m ≤ j ∧ j < m + 2) (hm : m ≤ xs.length) : (xs.drop (xs.length - m) ++ [0, 0]).getD j 0 = 0 := by
  simp only [List.getD]
  rw [List.getElem?_append_right (by simp; omega)]
  have : j - (xs.drop (xs.length - m)).length = 0 ∨ j - (xs.drop (xs.length - m)).length = 1 := by simp; omega
  rcases this with h | h <;> rw [h] <;> rfl
theorem vals_at {xs : List Int} (h : valsB xs = true) {i : Nat} (hi : i < xs.length) : 0 ≤ xs.getD i 0 ∧ xs.getD i 0 < 4294967296 := by
  have := List.all_eq_true.1 h _ (List.getElem_mem hi)
  simp only [valB, Bool.and_eq_true, decide_eq_true_eq] at this
  simpa [List.getD, hi] using this
section
variable {wA w0 : World} {X : Nat → Prop} {M : EL} {K : Value → Ctx → Prop} {Z : PanK}
end
end Go.Proofs.YtgaopcbjhepklaaGreat
/- The document's frames: a step (1). -/
namespace Go.Proofs.YtgaopcbjhepklaaGreat
open Go.RowKit
set_option linter.unusedSimpArgs false
set_option linter.unusedVariables false
set_option maxRecDepth 100000
section
variable {wA w0 : World} {X : Nat → Prop} {M : EL} {K : Value → Ctx → Prop} {Z : PanK}
set_option maxHeartbeats 8000000 in
theorem step08_1 {c : CodeP} {f : FrP} (hs : StepOk wA c f) (hop : (insAt (bodyAt c f.fn) f.pc).op = 1)
    (he : stp c f = .err 1 → K (.tuple #[.agg f.l.toArray, .agg (q0Q 0 0 0 0 0 0 0).l.toArray, .int .i64 1]) (CtxA wA w0 X M))
    (hg : ∀ f' M', stp c f = .go (pfF f') → Keep M' f f' → K (.tuple #[.agg f'.l.toArray, .agg (q0Q 0 0 0 0 0 0 0).l.toArray, .int .i64 0]) (CtxA wA w0 X (M' ++ M)))
    (ha : ∀ f' q M', stp c f = .ask (pfF f') (qp q) → q.kind ≠ 0 → Keep M' f f' → QKeep M' q → K (.tuple #[.agg f'.l.toArray, .agg q.l.toArray, .int .i64 0]) (CtxA wA w0 X (M' ++ M))) :
    CallVC Tryz.prog (CtxA wA w0 X M) 59 #[.agg c.l.toArray, .agg f.l.toArray] K Z := by
  obtain ⟨task, Ap, np, cp, path, fn, pc, Al, nl, cl, loc, As, ns, cs, stk, Ak, nk, ck, kids, many, spent, fail⟩ := f
  obtain ⟨hc, hf, f0, f1, p0, p1, hns, hvs, hsp⟩ := hs
  obtain ⟨hpa, hlo, hst, hki⟩ := hf
  have l1 := hlo.len
  have l2 := hst.len
  have l3 := hki.len
  have l4 := hlo.sm
  have l5 := hst.cap
  have hnf := hc.nf
  have hnm := hc.sm
  dsimp only at hop hpa hlo hst hki l1 l2 l3 l4 l5 f0 f1 p0 p1 hns hvs hsp
  subst l1 l2 l3
  have hflt : fn.toNat < c.funs.length := by omega
  have hbe := bodyAt_eq (c := c) hflt
  obtain ⟨hir, hil, him⟩ := hc.ins _ hflt
  rw [← hbe] at hir hil him
  rw [insL_flat] at hir
  have hplt : pc.toNat < (bodyAt c fn).ins.length := by omega
  have hie : insAt (bodyAt c fn) pc = (bodyAt c fn).ins[pc.toNat] := by simp [insAt, List.getD, hplt]
  have hS : stp c ⟨task, Ap, np, cp, path, fn, pc, Al, loc.length, cl, loc, As, stk.length, cs, stk, Ak, kids.length, ck, kids, many, spent, fail⟩ = instrP (kOf c ⟨task, Ap, np, cp, path, fn, pc, Al, loc.length, cl, loc, As, stk.length, cs, stk, Ak, kids.length, ck, kids, many, spent, fail⟩ none 0 none 0) (fun a => (bodyAt c a).args) ⟨pc, spent, fail, loc, stk⟩ (insAt (bodyAt c fn) pc) := stepP_in (by show ¬ spent = 2000; omega) ⟨p0, p1⟩ (by exact ⟨by show 1 ≤ (insAt (bodyAt c fn) pc).op; omega, by show (insAt (bodyAt c fn) pc).op < 20; omega⟩)
  generalize hii : insAt (bodyAt c fn) pc = ii at hop hie hS
  obtain ⟨op, ia, ib, ic⟩ := ii
  dsimp only at hop
  subst hop
  rw [instr_1 rfl] at hS
  dsimp only [PF.two, callP, PF.nx, PF.pop, PF.at_, kOf] at hS
  have hfA : FrOk wA ⟨task, Ap, np, cp, path, fn, pc, Al, loc.length, cl, loc, As, stk.length, cs, stk, Ak, kids.length, ck, kids, many, spent, fail⟩ := ⟨hpa, hlo, hst, hki⟩
  refine it59 (args := [_, _]) (by rfl) ?_
  intro w2 X2
  dsimp only [FrP.l]
  conv => whnf
  repeat' (first | (refine JoinVC.go ?_; conv => whnf) | (refine RetA.go ?_; conv => whnf) | (exact RetT.drop (K := K) M (by repeat (first | exact List.Sublist.refl _ | refine List.Sublist.cons_cons _ ?_ | refine List.Sublist.cons _ ?_)) (he (by rw [hS]; repeat (first | refine (if_pos (by first | omega | assumption)).trans ?_ | refine (if_neg (by first | omega | assumption | (intro hh; rw [haw] at hh; cases hh))).trans ?_ | rfl | (simp [pfF, qp, q0Q, pairP]; done))))) | (exact RetT.drop (K := K) (((.slice A1 (stk.length - 0 + 1) c1, .row 3 1 (is (stk.take (stk.length - 0) ++ [ia]))) : Value × DA) :: M) (by repeat (first | exact List.Sublist.refl _ | refine List.Sublist.cons_cons _ ?_ | refine List.Sublist.cons _ ?_)) (hg ⟨task, Ap, np, cp, path, fn, pc + 1, Al, loc.length, cl, loc, A1, stk.length - 0 + 1, c1, stk.take (stk.length - 0) ++ [ia], Ak, kids.length, ck, kids, many, spent + 1, fail⟩ [((.slice A1 (stk.length - 0 + 1) c1, .row 3 1 (is (stk.take (stk.length - 0) ++ [ia]))) : Value × DA)] (by rw [hS]; repeat (first | refine (if_pos (by first | omega | assumption)).trans ?_ | refine (if_neg (by first | omega | assumption | (intro hh; rw [haw] at hh; cases hh))).trans ?_ | rfl | (simp [pfF, qp, q0Q, pairP]; done))) ⟨rfl, ⟨rfl, rfl, rfl, rfl⟩, rfl, ⟨rfl, rfl, rfl, rfl⟩, rfl, .inl ⟨rfl, rfl, rfl, rfl⟩, .inr (List.Mem.head _)⟩)) | (refine cutLoN (stk.length - 0) 0 (by exact (wrapI (by omega)).trans (by omega)) (by omega) ?_; conv => whnf) | (refine CallVC.anchor [] _ en116 rfl (fun E w Y hE => passed08_vc (f := ⟨task, Ap, np, cp, path, fn, pc, Al, loc.length, cl, loc, As, stk.length, cs, stk, Ak, kids.length, ck, kids, many, spent, fail⟩) (m := 0) (ls := [ia]) (hE.fr hfA) (by first | omega | rfl) (by show 0 ≤ stk.length; omega) hns (hE.ownI (xs := [ia]) (List.Mem.head _) (by decide)) (by decide) ⟨by show -1000000 ≤ pc; omega, by show pc ≤ 1000000; omega⟩ ⟨by show -1000000 ≤ spent; omega, by show spent ≤ 1000000; omega⟩ (fun A1 c1 hc1 hA1 => RetN.to _ rfl ?_)); conv => whnf) | (refine idxF hc f0 f1 (fun b' o' hcl => ?_); conv => whnf) | (refine ldO (hcl 2 _ rfl) (tab_ok _ _ (by rfl)) (by rfl) ?_; conv => whnf) | (refine idxOG InsP.l 4 InsP.l_len (by omega) hir hil pc.toNat (by omega) hplt (fun b'' o'' hA hcl2 => ?_); rw [← hie] at hcl2; conv => whnf) | (refine ldsO [.int .i64 1, .int .i64 ia, .int .i64 ib, .int .i64 ic] hcl2 (tab_ok _ _ (by rfl)) (by rfl) (by rfl) ?_; conv => whnf) | (refine ia114 (by rfl) ?_; intro w1 X1; conv => whnf) | (refine awaits08_vc (f := ⟨task, Ap, np, cp, path, fn, pc, Al, loc.length, cl, loc, As, stk.length, cs, stk, Ak, kids.length, ck, kids, many, spent, fail⟩) hki (fun haw => ?_) (fun haw => ?_) <;> conv => whnf) | (refine is08_vc (fun hv => ?_) (fun hv => ?_) <;> simp only [valB, Bool.and_eq_true, decide_eq_true_eq, Bool.and_eq_false_imp, decide_eq_false_iff_not] at hv <;> conv => whnf) | (refine bsA el23 (by rfl) ?_; (conv => whnf); refine ⟨by rfl, fun bl => ?_⟩; conv => whnf) | (refine RetA.go ?_; conv => whnf) | (refine And.intro ?_ ?_ <;> conv => whnf) | (refine splitB.dec (fun hb => ?_) (fun hb => ?_) <;> first | (exfalso; omega) | (conv => whnf)) | (refine splitB.ndec (fun hb => ?_) (fun hb => ?_) <;> first | (exfalso; omega) | (conv => whnf)) | (refine splitB.eqI (fun hb => ?_) (fun hb => ?_) <;> first | (exfalso; omega) | (conv => whnf)) | (refine splitB.neI (fun hb => ?_) (fun hb => ?_) <;> first | (exfalso; omega) | (conv => whnf)))
set_option maxHeartbeats 8000000 in
theorem step08_2 {c : CodeP} {f : FrP} (hs : StepOk wA c f) (hop : (insAt (bodyAt c f.fn) f.pc).op = 2)
    (he : stp c f = .err 1 → K (.tuple #[.agg f.l.toArray, .agg (q0Q 0 0 0 0 0 0 0).l.toArray, .int .i64 1]) (CtxA wA w0 X M))
    (hg : ∀ f' M', stp c f = .go (pfF f') → Keep M' f f' → K (.tuple #[.agg f'.l.toArray, .agg (q0Q 0 0 0 0 0 0 0).l.toArray, .int .i64 0]) (CtxA wA w0 X (M' ++ M)))
    (ha : ∀ f' q M', stp c f = .ask (pfF f') (qp q) → q.kind ≠ 0 → Keep M' f f' → QKeep M' q → K (.tuple #[.agg f'.l.toArray, .agg q.l.toArray, .int .i64 0]) (CtxA wA w0 X (M' ++ M))) :
    CallVC Tryz.prog (CtxA wA w0 X M) 59 #[.agg c.l.toArray, .agg f.l.toArray] K Z := by
  obtain ⟨task, Ap, np, cp, path, fn, pc, Al, nl, cl, loc, As, ns, cs, stk, Ak, nk, ck, kids, many, spent, fail⟩ := f
  obtain ⟨hc, hf, f0, f1, p0, p1, hns, hvs, hsp⟩ := hs
  obtain ⟨hpa, hlo, hst, hki⟩ := hf
  have l1 := hlo.len
  have l2 := hst.len
  have l3 := hki.len
  have l4 := hlo.sm
  have l5 := hst.cap
  have hnf := hc.nf
  have hnm := hc.sm
  dsimp only at hop hpa hlo hst hki l1 l2 l3 l4 l5 f0 f1 p0 p1 hns hvs hsp
  subst l1 l2 l3
  have hw0 : IntKind.i64.wrap (2 - 2) = 0 := rfl
  have hflt : fn.toNat < c.funs.length := by omega
  have hbe := bodyAt_eq (c := c) hflt
  obtain ⟨hir, hil, him⟩ := hc.ins _ hflt
  rw [← hbe] at hir hil him
  rw [insL_flat] at hir
  have hplt : pc.toNat < (bodyAt c fn).ins.length := by omega
  have hie : insAt (bodyAt c fn) pc = (bodyAt c fn).ins[pc.toNat] := by simp [insAt, List.getD, hplt]
  have hS : stp c ⟨task, Ap, np, cp, path, fn, pc, Al, loc.length, cl, loc, As, stk.length, cs, stk, Ak, kids.length, ck, kids, many, spent, fail⟩ = instrP (kOf c ⟨task, Ap, np, cp, path, fn, pc, Al, loc.length, cl, loc, As, stk.length, cs, stk, Ak, kids.length, ck, kids, many, spent, fail⟩ none 0 none 0) (fun a => (bodyAt c a).args) ⟨pc, spent, fail, loc, stk⟩ (insAt (bodyAt c fn) pc) := stepP_in (by show ¬ spent = 2000; omega) ⟨p0, p1⟩ (by exact ⟨by show 1 ≤ (insAt (bodyAt c fn) pc).op; omega, by show (insAt (bodyAt c fn) pc).op < 20; omega⟩)
  generalize hii : insAt (bodyAt c fn) pc = ii at hop hie hS
  obtain ⟨op, ia, ib, ic⟩ := ii
  dsimp only at hop
  subst hop
  rw [instr_2 rfl] at hS
  dsimp only [PF.two, callP, PF.nx, PF.pop, PF.at_, kOf] at hS
  have hfA : FrOk wA ⟨task, Ap, np, cp, path, fn, pc, Al, loc.length, cl, loc, As, stk.length, cs, stk, Ak, kids.length, ck, kids, many, spent, fail⟩ := ⟨hpa, hlo, hst, hki⟩
  cases haw : awaits kids ia with
  | true =>
    refine it59 (args := [_, _]) (by rfl) ?_
    intro w2 X2
    dsimp only [FrP.l]
    conv => whnf
    repeat' (first | (refine JoinVC.go ?_; conv => whnf) | (refine RetA.go ?_; conv => whnf) | (exact RetT.drop (K := K) M (by repeat (first | exact List.Sublist.refl _ | refine List.Sublist.cons_cons _ ?_ | refine List.Sublist.cons _ ?_)) (he (by rw [hS]; repeat (first | refine (if_pos (by first | omega | assumption)).trans ?_ | refine (if_neg (by first | omega | assumption | (intro hh; rw [haw] at hh; cases hh))).trans ?_ | rfl | (simp [pfF, qp, q0Q, pairP]; done))))) | (exact RetT.drop (K := K) M (by repeat (first | exact List.Sublist.refl _ | refine List.Sublist.cons_cons _ ?_ | refine List.Sublist.cons _ ?_)) (ha ⟨task, Ap, np, cp, path, fn, pc, Al, loc.length, cl, loc, As, stk.length, cs, stk, Ak, kids.length, ck, kids, many, spent, fail⟩ (q0Q 5 0 0 0 0 0 0) [] (by rw [hS]; repeat (first | refine (if_pos (by first | omega | assumption)).trans ?_ | refine (if_neg (by first | omega | assumption | (intro hh; rw [haw] at hh; cases hh))).trans ?_ | rfl | (simp [pfF, qp, q0Q, pairP]; done))) (by show (5 : Int) ≠ 0; decide) (Keep.refl _ _) (.inl ⟨rfl, rfl, rfl, rfl⟩))) | (refine awaits08_vc (f := ⟨task, Ap, np, cp, path, fn, pc, Al, loc.length, cl, loc, As, stk.length, cs, stk, Ak, kids.length, ck, kids, many, spent, fail⟩) hki (fun h => ?_) (fun h => Bool.noConfusion (h.symm.trans haw)); conv => whnf) | (refine cutLoN (stk.length - 0) 0 (by exact (wrapI (by omega)).trans (by omega)) (by omega) ?_; conv => whnf) | (refine idxF hc f0 f1 (fun b' o' hcl => ?_); conv => whnf) | (refine ldO (hcl 2 _ rfl) (tab_ok _ _ (by rfl)) (by rfl) ?_; conv => whnf) | (refine idxOG InsP.l 4 InsP.l_len (by omega) hir hil pc.toNat (by omega) hplt (fun b'' o'' hA hcl2 => ?_); rw [← hie] at hcl2; conv => whnf) | (refine ldsO [.int .i64 2, .int .i64 ia, .int .i64 ib, .int .i64 ic] hcl2 (tab_ok _ _ (by rfl)) (by rfl) (by rfl) ?_; conv => whnf) | (refine ia114 (by rfl) ?_; intro w1 X1; conv => whnf) | (refine is08_vc (fun hv => ?_) (fun hv => ?_) <;> simp only [valB, Bool.and_eq_true, decide_eq_true_eq, Bool.and_eq_false_imp, decide_eq_false_iff_not] at hv <;> conv => whnf) | (refine bsA el23 (by rfl) ?_; (conv => whnf); refine ⟨by rfl, fun bl => ?_⟩; conv => whnf) | (refine RetA.go ?_; conv => whnf) | (refine And.intro ?_ ?_ <;> conv => whnf) | (refine splitB.dec (fun hb => ?_) (fun hb => ?_) <;> first | (exfalso; omega) | (conv => whnf)) | (refine splitB.ndec (fun hb => ?_) (fun hb => ?_) <;> first | (exfalso; omega) | (conv => whnf)) | (refine splitB.eqI (fun hb => ?_) (fun hb => ?_) <;> first | (exfalso; omega) | (conv => whnf)) | (refine splitB.neI (fun hb => ?_) (fun hb => ?_) <;> first | (exfalso; omega) | (conv => whnf)))
  | false =>
    refine it59 (args := [_, _]) (by rfl) ?_
    intro w2 X2
    dsimp only [FrP.l]
    conv => whnf
    repeat' (first | (refine JoinVC.go ?_; conv => whnf) | (refine RetA.go ?_; conv => whnf) | (exact RetT.drop (K := K) M (by repeat (first | exact List.Sublist.refl _ | refine List.Sublist.cons_cons _ ?_ | refine List.Sublist.cons _ ?_)) (he (by rw [hS]; repeat (first | refine (if_pos (by first | omega | assumption)).trans ?_ | refine (if_neg (by first | omega | assumption | (intro hh; rw [haw] at hh; cases hh))).trans ?_ | rfl | (simp [pfF, qp, q0Q, pairP]; done))))) | (exact RetT.drop (K := K) (((.slice A1 (stk.length - 0 + 1) c1, .row 3 1 (is (stk.take (stk.length - 0) ++ [loc.getD ia.toNat 0]))) : Value × DA) :: M) (by repeat (first | exact List.Sublist.refl _ | refine List.Sublist.cons_cons _ ?_ | refine List.Sublist.cons _ ?_)) (hg ⟨task, Ap, np, cp, path, fn, pc + 1, Al, loc.length, cl, loc, A1, stk.length - 0 + 1, c1, stk.take (stk.length - 0) ++ [loc.getD ia.toNat 0], Ak, kids.length, ck, kids, many, spent + 1, fail⟩ [((.slice A1 (stk.length - 0 + 1) c1, .row 3 1 (is (stk.take (stk.length - 0) ++ [loc.getD ia.toNat 0]))) : Value × DA)] (by rw [hS]; repeat (first | refine (if_pos (by first | omega | assumption)).trans ?_ | refine (if_neg (by first | omega | assumption | (intro hh; rw [haw] at hh; cases hh))).trans ?_ | rfl | (simp [pfF, qp, q0Q, pairP]; done))) ⟨rfl, ⟨rfl, rfl, rfl, rfl⟩, rfl, ⟨rfl, rfl, rfl, rfl⟩, rfl, .inl ⟨rfl, rfl, rfl, rfl⟩, .inr (List.Mem.head _)⟩)) | (refine awaits08_vc (f := ⟨task, Ap, np, cp, path, fn, pc, Al, loc.length, cl, loc, As, stk.length, cs, stk, Ak, kids.length, ck, kids, many, spent, fail⟩) hki (fun h => Bool.noConfusion (h.symm.trans haw)) (fun h => ?_); conv => whnf) | (refine cutLoN (stk.length - 0) 0 (by exact (wrapI (by omega)).trans (by omega)) (by omega) ?_; conv => whnf) | (refine idxOI hlo ia.toNat (by omega) (by omega) (fun b4 o4 hA4 hcl4 => ?_); conv => whnf) | (refine ldO (by assumption) (tab_ok _ _ (by rfl)) (by rfl) ?_; conv => whnf) | (refine CallVC.anchor [] _ en116 rfl (fun E w Y hE => passed08_vc (f := ⟨task, Ap, np, cp, path, fn, pc, Al, loc.length, cl, loc, As, stk.length, cs, stk, Ak, kids.length, ck, kids, many, spent, fail⟩) (m := 0) (ls := [loc.getD ia.toNat 0]) (hE.fr hfA) (by first | omega | rfl) (by show 0 ≤ stk.length; omega) hns (hE.ownI (xs := [loc.getD ia.toNat 0]) (List.Mem.head _) (by decide)) (by decide) ⟨by show -1000000 ≤ pc; omega, by show pc ≤ 1000000; omega⟩ ⟨by show -1000000 ≤ spent; omega, by show spent ≤ 1000000; omega⟩ (fun A1 c1 hc1 hA1 => RetN.to _ rfl ?_)); conv => whnf) | (refine idxF hc f0 f1 (fun b' o' hcl => ?_); conv => whnf) | (refine ldO (hcl 2 _ rfl) (tab_ok _ _ (by rfl)) (by rfl) ?_; conv => whnf) | (refine idxOG InsP.l 4 InsP.l_len (by omega) hir hil pc.toNat (by omega) hplt (fun b'' o'' hA hcl2 => ?_); rw [← hie] at hcl2; conv => whnf) | (refine ldsO [.int .i64 2, .int .i64 ia, .int .i64 ib, .int .i64 ic] hcl2 (tab_ok _ _ (by rfl)) (by rfl) (by rfl) ?_; conv => whnf) | (refine ia114 (by rfl) ?_; intro w1 X1; conv => whnf) | (refine is08_vc (fun hv => ?_) (fun hv => ?_) <;> simp only [valB, Bool.and_eq_true, decide_eq_true_eq, Bool.and_eq_false_imp, decide_eq_false_iff_not] at hv <;> conv => whnf) | (refine bsA el23 (by rfl) ?_; (conv => whnf); refine ⟨by rfl, fun bl => ?_⟩; conv => whnf) | (refine RetA.go ?_; conv => whnf) | (refine And.intro ?_ ?_ <;> conv => whnf) | (refine splitB.dec (fun hb => ?_) (fun hb => ?_) <;> first | (exfalso; omega) | (conv => whnf)) | (refine splitB.ndec (fun hb => ?_) (fun hb => ?_) <;> first | (exfalso; omega) | (conv => whnf)) | (refine splitB.eqI (fun hb => ?_) (fun hb => ?_) <;> first | (exfalso; omega) | (conv => whnf)) | (refine splitB.neI (fun hb => ?_) (fun hb => ?_) <;> first | (exfalso; omega) | (conv => whnf)))
set_option maxHeartbeats 8000000 in
theorem step08_3 {c : CodeP} {f : FrP} (hs : StepOk wA c f) (hop : (insAt (bodyAt c f.fn) f.pc).op = 3)
    (he : stp c f = .err 1 → K (.tuple #[.agg f.l.toArray, .agg (q0Q 0 0 0 0 0 0 0).l.toArray, .int .i64 1]) (CtxA wA w0 X M))
    (hg : ∀ f' M', stp c f = .go (pfF f') → Keep M' f f' → K (.tuple #[.agg f'.l.toArray, .agg (q0Q 0 0 0 0 0 0 0).l.toArray, .int .i64 0]) (CtxA wA w0 X (M' ++ M)))
    (ha : ∀ f' q M', stp c f = .ask (pfF f') (qp q) → q.kind ≠ 0 → Keep M' f f' → QKeep M' q → K (.tuple #[.agg f'.l.toArray, .agg q.l.toArray, .int .i64 0]) (CtxA wA w0 X (M' ++ M))) :
    CallVC Tryz.prog (CtxA wA w0 X M) 59 #[.agg c.l.toArray, .agg f.l.toArray] K Z := by
  obtain ⟨task, Ap, np, cp, path, fn, pc, Al, nl, cl, loc, As, ns, cs, stk, Ak, nk, ck, kids, many, spent, fail⟩ := f
  obtain ⟨hc, hf, f0, f1, p0, p1, hns, hvs, hsp⟩ := hs
  obtain ⟨hpa, hlo, hst, hki⟩ := hf
  have l1 := hlo.len
  have l2 := hst.len
  have l3 := hki.len
  have l4 := hlo.sm
  have l5 := hst.cap
  have hnf := hc.nf
  have hnm := hc.sm
  dsimp only at hop hpa hlo hst hki l1 l2 l3 l4 l5 f0 f1 p0 p1 hns hvs hsp
  subst l1 l2 l3
  have hw0 : IntKind.i64.wrap (3 - 2) = 1 := rfl
  have hflt : fn.toNat < c.funs.length := by omega
  have hbe := bodyAt_eq (c := c) hflt
  obtain ⟨hir, hil, him⟩ := hc.ins _ hflt
  rw [← hbe] at hir hil him
  rw [insL_flat] at hir
  have hplt : pc.toNat < (bodyAt c fn).ins.length := by omega
  have hie : insAt (bodyAt c fn) pc = (bodyAt c fn).ins[pc.toNat] := by simp [insAt, List.getD, hplt]
  have hS : stp c ⟨task, Ap, np, cp, path, fn, pc, Al, loc.length, cl, loc, As, stk.length, cs, stk, Ak, kids.length, ck, kids, many, spent, fail⟩ = instrP (kOf c ⟨task, Ap, np, cp, path, fn, pc, Al, loc.length, cl, loc, As, stk.length, cs, stk, Ak, kids.length, ck, kids, many, spent, fail⟩ none 0 none 0) (fun a => (bodyAt c a).args) ⟨pc, spent, fail, loc, stk⟩ (insAt (bodyAt c fn) pc) := stepP_in (by show ¬ spent = 2000; omega) ⟨p0, p1⟩ (by exact ⟨by show 1 ≤ (insAt (bodyAt c fn) pc).op; omega, by show (insAt (bodyAt c fn) pc).op < 20; omega⟩)
  generalize hii : insAt (bodyAt c fn) pc = ii at hop hie hS
  obtain ⟨op, ia, ib, ic⟩ := ii
  dsimp only at hop
  subst hop
  rw [instr_3 rfl] at hS
  dsimp only [PF.two, callP, PF.nx, PF.pop, PF.at_, kOf] at hS
  have hfA : FrOk wA ⟨task, Ap, np, cp, path, fn, pc, Al, loc.length, cl, loc, As, stk.length, cs, stk, Ak, kids.length, ck, kids, many, spent, fail⟩ := ⟨hpa, hlo, hst, hki⟩
  cases haw : awaits kids ia with
  | true =>
    refine it59 (args := [_, _]) (by rfl) ?_
    intro w2 X2
    dsimp only [FrP.l]
    conv => whnf
    repeat' (first | (refine JoinVC.go ?_; conv => whnf) | (refine RetA.go ?_; conv => whnf) | (exact RetT.drop (K := K) M (by repeat (first | exact List.Sublist.refl _ | refine List.Sublist.cons_cons _ ?_ | refine List.Sublist.cons _ ?_)) (he (by rw [hS]; repeat (first | refine (if_pos (by first | omega | assumption)).trans ?_ | refine (if_neg (by first | omega | assumption | (intro hh; rw [haw] at hh; cases hh))).trans ?_ | rfl | (simp [pfF, qp, q0Q, pairP]; done))))) | (exact RetT.drop (K := K) M (by repeat (first | exact List.Sublist.refl _ | refine List.Sublist.cons_cons _ ?_ | refine List.Sublist.cons _ ?_)) (ha ⟨task, Ap, np, cp, path, fn, pc, Al, loc.length, cl, loc, As, stk.length, cs, stk, Ak, kids.length, ck, kids, many, spent, fail⟩ (q0Q 5 0 0 0 0 0 0) [] (by rw [hS]; repeat (first | refine (if_pos (by first | omega | assumption)).trans ?_ | refine (if_neg (by first | omega | assumption | (intro hh; rw [haw] at hh; cases hh))).trans ?_ | rfl | (simp [pfF, qp, q0Q, pairP]; done))) (by show (5 : Int) ≠ 0; decide) (Keep.refl _ _) (.inl ⟨rfl, rfl, rfl, rfl⟩))) | (refine awaits08_vc (f := ⟨task, Ap, np, cp, path, fn, pc, Al, loc.length, cl, loc, As, stk.length, cs, stk, Ak, kids.length, ck, kids, many, spent, fail⟩) hki (fun h => ?_) (fun h => Bool.noConfusion (h.symm.trans haw)); conv => whnf) | (refine cutLoN (stk.length - 0) 0 (by exact (wrapI (by omega)).trans (by omega)) (by omega) ?_; conv => whnf) | (refine cutLoN (stk.length - 1) 1 (by exact (wrapI (by omega)).trans (by omega)) (by omega) ?_; conv => whnf) | (refine idxF hc f0 f1 (fun b' o' hcl => ?_); conv => whnf) | (refine ldO (hcl 2 _ rfl) (tab_ok _ _ (by rfl)) (by rfl) ?_; conv => whnf) | (refine idxOG InsP.l 4 InsP.l_len (by omega) hir hil pc.toNat (by omega) hplt (fun b'' o'' hA hcl2 => ?_); rw [← hie] at hcl2; conv => whnf) | (refine ldsO [.int .i64 3, .int .i64 ia, .int .i64 ib, .int .i64 ic] hcl2 (tab_ok _ _ (by rfl)) (by rfl) (by rfl) ?_; conv => whnf) | (refine ia114 (by rfl) ?_; intro w1 X1; conv => whnf) | (refine is08_vc (fun hv => ?_) (fun hv => ?_) <;> simp only [valB, Bool.and_eq_true, decide_eq_true_eq, Bool.and_eq_false_imp, decide_eq_false_iff_not] at hv <;> conv => whnf) | (refine bsA el23 (by rfl) ?_; (conv => whnf); refine ⟨by rfl, fun bl => ?_⟩; conv => whnf) | (refine RetA.go ?_; conv => whnf) | (refine And.intro ?_ ?_ <;> conv => whnf) | (refine splitB.dec (fun hb => ?_) (fun hb => ?_) <;> first | (exfalso; omega) | (conv => whnf)) | (refine splitB.ndec (fun hb => ?_) (fun hb => ?_) <;> first | (exfalso; omega) | (conv => whnf)) | (refine splitB.eqI (fun hb => ?_) (fun hb => ?_) <;> first | (exfalso; omega) | (conv => whnf)) | (refine splitB.neI (fun hb => ?_) (fun hb => ?_) <;> first | (exfalso; omega) | (conv => whnf)))
  | false =>
    refine it59 (args := [_, _]) (by rfl) ?_
    intro w2 X2
    dsimp only [FrP.l]
    conv => whnf
    repeat' (first | (refine JoinVC.go ?_; conv => whnf) | (refine RetA.go ?_; conv => whnf) | (exact RetT.drop (K := K) M (by repeat (first | exact List.Sublist.refl _ | refine List.Sublist.cons_cons _ ?_ | refine List.Sublist.cons _ ?_)) (he (by rw [hS]; repeat (first | refine (if_pos (by first | omega | assumption)).trans ?_ | refine (if_neg (by first | omega | assumption | (intro hh; rw [haw] at hh; cases hh))).trans ?_ | rfl | (simp [pfF, qp, q0Q, pairP]; done))))) | (refine RetT.drop (K := K) (((.slice A2 loc.length c2, .row 3 1 (is (loc.set ia.toNat ((stk.drop (stk.length - 1)).getD 0 0)))) : Value × DA) :: ((.slice A1 (stk.length - 1 + 0) c1, .row 3 1 (is (stk.take (stk.length - 1) ++ []))) : Value × DA) :: M) ?_ ?_; rotate_left; exact (hg ⟨task, Ap, np, cp, path, fn, pc + 1, A2, loc.length, c2, loc.set ia.toNat ((stk.drop (stk.length - 1)).getD 0 0), A1, stk.length - 1 + 0, c1, stk.take (stk.length - 1) ++ [], Ak, kids.length, ck, kids, many, spent + 1, fail⟩ [((.slice A2 loc.length c2, .row 3 1 (is (loc.set ia.toNat ((stk.drop (stk.length - 1)).getD 0 0)))) : Value × DA), ((.slice A1 (stk.length - 1 + 0) c1, .row 3 1 (is (stk.take (stk.length - 1) ++ []))) : Value × DA)] (by rw [hS]; repeat (first | refine (if_pos (by first | omega | assumption)).trans ?_ | refine (if_neg (by first | omega | assumption | (intro hh; rw [haw] at hh; cases hh))).trans ?_ | rfl | (simp [pfF, qp, q0Q, pairP]; done))) ⟨rfl, ⟨rfl, rfl, rfl, rfl⟩, rfl, ⟨rfl, rfl, rfl, rfl⟩, rfl, .inr ⟨(by repeat (first | exact List.Mem.head _ | refine List.Mem.tail _ ?_)), rfl⟩, .inr (by repeat (first | exact List.Mem.head _ | refine List.Mem.tail _ ?_))⟩); (repeat (first | exact List.Sublist.refl _ | refine List.Sublist.cons_cons _ ?_ | refine List.Sublist.cons _ ?_)); done) | (refine awaits08_vc (f := ⟨task, Ap, np, cp, path, fn, pc, Al, loc.length, cl, loc, As, stk.length, cs, stk, Ak, kids.length, ck, kids, many, spent, fail⟩) hki (fun h => Bool.noConfusion (h.symm.trans haw)) (fun h => ?_); conv => whnf) | (refine cutLoN (stk.length - 1) 1 (by exact (wrapI (by omega)).trans (by omega)) (by omega) ?_; conv => whnf) | (refine idxOI (topO hst (stk.length - 1) 1 (by omega)) 0 rfl (by decide) (fun b3 o3 hA3 hcl3 => ?_); conv => whnf) | (refine ldO (by assumption) (tab_ok _ _ (by rfl)) (by rfl) ?_; conv => whnf) | (refine CallVC.anchor [] _ en116 rfl (fun E w Y hE => passed08_vc (f := ⟨task, Ap, np, cp, path, fn, pc, Al, loc.length, cl, loc, As, stk.length, cs, stk, Ak, kids.length, ck, kids, many, spent, fail⟩) (m := 1) (ls := []) (hE.fr hfA) (by first | omega | rfl) (by show 1 ≤ stk.length; omega) hns ⟨.inl rfl, rfl, Nat.le_refl _, Nat.zero_le _⟩ (by decide) ⟨by show -1000000 ≤ pc; omega, by show pc ≤ 1000000; omega⟩ ⟨by show -1000000 ≤ spent; omega, by show spent ≤ 1000000; omega⟩ (fun A1 c1 hc1 hA1 => RetN.to _ rfl ?_)); conv => whnf) | (refine app0I loc (SrcA.old el23 hlo.rd (by simp) (is_one _)) rfl (by omega) (fun A2 c2 hc2 hA2 => ?_); conv => whnf) | (refine idxI hA2 hc2 (by omega) (by omega) (fun b7 hb7 => ?_); conv => whnf) | (refine stRI (xs := loc) ia.toNat hb7 (by repeat (first | exact AtE.here | apply AtE.there)) rfl (by omega) ?_; conv => whnf) | (refine idxF hc f0 f1 (fun b' o' hcl => ?_); conv => whnf) | (refine ldO (hcl 2 _ rfl) (tab_ok _ _ (by rfl)) (by rfl) ?_; conv => whnf) | (refine idxOG InsP.l 4 InsP.l_len (by omega) hir hil pc.toNat (by omega) hplt (fun b'' o'' hA hcl2 => ?_); rw [← hie] at hcl2; conv => whnf) | (refine ldsO [.int .i64 3, .int .i64 ia, .int .i64 ib, .int .i64 ic] hcl2 (tab_ok _ _ (by rfl)) (by rfl) (by rfl) ?_; conv => whnf) | (refine ia114 (by rfl) ?_; intro w1 X1; conv => whnf) | (refine is08_vc (fun hv => ?_) (fun hv => ?_) <;> simp only [valB, Bool.and_eq_true, decide_eq_true_eq, Bool.and_eq_false_imp, decide_eq_false_iff_not] at hv <;> conv => whnf) | (refine bsA el23 (by rfl) ?_; (conv => whnf); refine ⟨by rfl, fun bl => ?_⟩; conv => whnf) | (refine RetA.go ?_; conv => whnf) | (refine And.intro ?_ ?_ <;> conv => whnf) | (refine splitB.dec (fun hb => ?_) (fun hb => ?_) <;> first | (exfalso; omega) | (conv => whnf)) | (refine splitB.ndec (fun hb => ?_) (fun hb => ?_) <;> first | (exfalso; omega) | (conv => whnf)) | (refine splitB.eqI (fun hb => ?_) (fun hb => ?_) <;> first | (exfalso; omega) | (conv => whnf)) | (refine splitB.neI (fun hb => ?_) (fun hb => ?_) <;> first | (exfalso; omega) | (conv => whnf)))
set_option maxHeartbeats 8000000 in
theorem step08_4 {c : CodeP} {f : FrP} (hs : StepOk wA c f) (hop : (insAt (bodyAt c f.fn) f.pc).op = 4)
    (he : stp c f = .err 1 → K (.tuple #[.agg f.l.toArray, .agg (q0Q 0 0 0 0 0 0 0).l.toArray, .int .i64 1]) (CtxA wA w0 X M))
    (hg : ∀ f' M', stp c f = .go (pfF f') → Keep M' f f' → K (.tuple #[.agg f'.l.toArray, .agg (q0Q 0 0 0 0 0 0 0).l.toArray, .int .i64 0]) (CtxA wA w0 X (M' ++ M)))
    (ha : ∀ f' q M', stp c f = .ask (pfF f') (qp q) → q.kind ≠ 0 → Keep M' f f' → QKeep M' q → K (.tuple #[.agg f'.l.toArray, .agg q.l.toArray, .int .i64 0]) (CtxA wA w0 X (M' ++ M))) :
    CallVC Tryz.prog (CtxA wA w0 X M) 59 #[.agg c.l.toArray, .agg f.l.toArray] K Z := by
  obtain ⟨task, Ap, np, cp, path, fn, pc, Al, nl, cl, loc, As, ns, cs, stk, Ak, nk, ck, kids, many, spent, fail⟩ := f
  obtain ⟨hc, hf, f0, f1, p0, p1, hns, hvs, hsp⟩ := hs
  obtain ⟨hpa, hlo, hst, hki⟩ := hf
  have l1 := hlo.len
  have l2 := hst.len
  have l3 := hki.len
  have l4 := hlo.sm
  have l5 := hst.cap
  have hnf := hc.nf
  have hnm := hc.sm
  dsimp only at hop hpa hlo hst hki l1 l2 l3 l4 l5 f0 f1 p0 p1 hns hvs hsp
  subst l1 l2 l3
  have hw0 : IntKind.i64.wrap (4 - 4) = 0 := rfl
  have hflt : fn.toNat < c.funs.length := by omega
  have hbe := bodyAt_eq (c := c) hflt
  obtain ⟨hir, hil, him⟩ := hc.ins _ hflt
  rw [← hbe] at hir hil him
  rw [insL_flat] at hir
  have hplt : pc.toNat < (bodyAt c fn).ins.length := by omega
  have hie : insAt (bodyAt c fn) pc = (bodyAt c fn).ins[pc.toNat] := by simp [insAt, List.getD, hplt]
  have hS : stp c ⟨task, Ap, np, cp, path, fn, pc, Al, loc.length, cl, loc, As, stk.length, cs, stk, Ak, kids.length, ck, kids, many, spent, fail⟩ = instrP (kOf c ⟨task, Ap, np, cp, path, fn, pc, Al, loc.length, cl, loc, As, stk.length, cs, stk, Ak, kids.length, ck, kids, many, spent, fail⟩ none 0 none 0) (fun a => (bodyAt c a).args) ⟨pc, spent, fail, loc, stk⟩ (insAt (bodyAt c fn) pc) := stepP_in (by show ¬ spent = 2000; omega) ⟨p0, p1⟩ (by exact ⟨by show 1 ≤ (insAt (bodyAt c fn) pc).op; omega, by show (insAt (bodyAt c fn) pc).op < 20; omega⟩)
  generalize hii : insAt (bodyAt c fn) pc = ii at hop hie hS
  obtain ⟨op, ia, ib, ic⟩ := ii
  dsimp only at hop
  subst hop
  rw [instr_4 rfl] at hS
  dsimp only [PF.two, callP, PF.nx, PF.pop, PF.at_, kOf] at hS
  have hfA : FrOk wA ⟨task, Ap, np, cp, path, fn, pc, Al, loc.length, cl, loc, As, stk.length, cs, stk, Ak, kids.length, ck, kids, many, spent, fail⟩ := ⟨hpa, hlo, hst, hki⟩
  refine it59 (args := [_, _]) (by rfl) ?_
  intro w2 X2
  dsimp only [FrP.l]
  conv => whnf
  repeat' (first | (refine JoinVC.go ?_; conv => whnf) | (refine RetA.go ?_; conv => whnf) | (exact RetT.drop (K := K) M (by repeat (first | exact List.Sublist.refl _ | refine List.Sublist.cons_cons _ ?_ | refine List.Sublist.cons _ ?_)) (he (by rw [hS]; repeat (first | refine (if_pos (by first | omega | assumption)).trans ?_ | refine (if_neg (by first | omega | assumption | (intro hh; rw [haw] at hh; cases hh))).trans ?_ | rfl | (simp [pfF, qp, q0Q, pairP]; done))))) | (exact RetT.drop (K := K) (((.slice A1 (stk.length - 0 + 0) c1, .row 3 1 (is (stk.take (stk.length - 0) ++ []))) : Value × DA) :: M) (by repeat (first | exact List.Sublist.refl _ | refine List.Sublist.cons_cons _ ?_ | refine List.Sublist.cons _ ?_)) (ha ⟨task, Ap, np, cp, path, fn, pc + 1, Al, loc.length, cl, loc, A1, stk.length - 0 + 0, c1, stk.take (stk.length - 0) ++ [], Ak, kids.length, ck, kids, many, spent + 1, fail⟩ (q0Q 1 ia 0 0 0 0 0) [((.slice A1 (stk.length - 0 + 0) c1, .row 3 1 (is (stk.take (stk.length - 0) ++ []))) : Value × DA)] (by rw [hS]; repeat (first | refine (if_pos (by first | omega | assumption)).trans ?_ | refine (if_neg (by first | omega | assumption | (intro hh; rw [haw] at hh; cases hh))).trans ?_ | rfl | (simp [pfF, qp, q0Q, pairP]; done))) (by show (1 : Int) ≠ 0; decide) ⟨rfl, ⟨rfl, rfl, rfl, rfl⟩, rfl, ⟨rfl, rfl, rfl, rfl⟩, rfl, .inl ⟨rfl, rfl, rfl, rfl⟩, .inr (List.Mem.head _)⟩ (.inl ⟨rfl, rfl, rfl, rfl⟩))) | (refine cutLoN (stk.length - 0) 0 (by exact (wrapI (by omega)).trans (by omega)) (by omega) ?_; conv => whnf) | (refine CallVC.anchor [] _ en116 rfl (fun E w Y hE => passed08_vc (f := ⟨task, Ap, np, cp, path, fn, pc, Al, loc.length, cl, loc, As, stk.length, cs, stk, Ak, kids.length, ck, kids, many, spent, fail⟩) (m := 0) (ls := []) (hE.fr hfA) (by first | omega | rfl) (by show 0 ≤ stk.length; omega) hns ⟨.inl rfl, rfl, Nat.le_refl _, Nat.zero_le _⟩ (by decide) ⟨by show -1000000 ≤ pc; omega, by show pc ≤ 1000000; omega⟩ ⟨by show -1000000 ≤ spent; omega, by show spent ≤ 1000000; omega⟩ (fun A1 c1 hc1 hA1 => RetN.to _ rfl ?_)); conv => whnf) | (refine idxF hc f0 f1 (fun b' o' hcl => ?_); conv => whnf) | (refine ldO (hcl 2 _ rfl) (tab_ok _ _ (by rfl)) (by rfl) ?_; conv => whnf) | (refine idxOG InsP.l 4 InsP.l_len (by omega) hir hil pc.toNat (by omega) hplt (fun b'' o'' hA hcl2 => ?_); rw [← hie] at hcl2; conv => whnf) | (refine ldsO [.int .i64 4, .int .i64 ia, .int .i64 ib, .int .i64 ic] hcl2 (tab_ok _ _ (by rfl)) (by rfl) (by rfl) ?_; conv => whnf) | (refine ia114 (by rfl) ?_; intro w1 X1; conv => whnf) | (refine awaits08_vc (f := ⟨task, Ap, np, cp, path, fn, pc, Al, loc.length, cl, loc, As, stk.length, cs, stk, Ak, kids.length, ck, kids, many, spent, fail⟩) hki (fun haw => ?_) (fun haw => ?_) <;> conv => whnf) | (refine is08_vc (fun hv => ?_) (fun hv => ?_) <;> simp only [valB, Bool.and_eq_true, decide_eq_true_eq, Bool.and_eq_false_imp, decide_eq_false_iff_not] at hv <;> conv => whnf) | (refine bsA el23 (by rfl) ?_; (conv => whnf); refine ⟨by rfl, fun bl => ?_⟩; conv => whnf) | (refine RetA.go ?_; conv => whnf) | (refine And.intro ?_ ?_ <;> conv => whnf) | (refine splitB.dec (fun hb => ?_) (fun hb => ?_) <;> first | (exfalso; omega) | (conv => whnf)) | (refine splitB.ndec (fun hb => ?_) (fun hb => ?_) <;> first | (exfalso; omega) | (conv => whnf)) | (refine splitB.eqI (fun hb => ?_) (fun hb => ?_) <;> first | (exfalso; omega) | (conv => whnf)) | (refine splitB.neI (fun hb => ?_) (fun hb => ?_) <;> first | (exfalso; omega) | (conv => whnf)))
set_option maxHeartbeats 8000000 in
theorem step08_5 {c : CodeP} {f : FrP} (hs : StepOk wA c f) (hop : (insAt (bodyAt c f.fn) f.pc).op = 5)
    (he : stp c f = .err 1 → K (.tuple #[.agg f.l.toArray, .agg (q0Q 0 0 0 0 0 0 0).l.toArray, .int .i64 1]) (CtxA wA w0 X M))
    (hg : ∀ f' M', stp c f = .go (pfF f') → Keep M' f f' → K (.tuple #[.agg f'.l.toArray, .agg (q0Q 0 0 0 0 0 0 0).l.toArray, .int .i64 0]) (CtxA wA w0 X (M' ++ M)))
    (ha : ∀ f' q M', stp c f = .ask (pfF f') (qp q) → q.kind ≠ 0 → Keep M' f f' → QKeep M' q → K (.tuple #[.agg f'.l.toArray, .agg q.l.toArray, .int .i64 0]) (CtxA wA w0 X (M' ++ M))) :
    CallVC Tryz.prog (CtxA wA w0 X M) 59 #[.agg c.l.toArray, .agg f.l.toArray] K Z := by
  obtain ⟨task, Ap, np, cp, path, fn, pc, Al, nl, cl, loc, As, ns, cs, stk, Ak, nk, ck, kids, many, spent, fail⟩ := f
  obtain ⟨hc, hf, f0, f1, p0, p1, hns, hvs, hsp⟩ := hs
  obtain ⟨hpa, hlo, hst, hki⟩ := hf
  have l1 := hlo.len
  have l2 := hst.len
  have l3 := hki.len
  have l4 := hlo.sm
  have l5 := hst.cap
  have hnf := hc.nf
  have hnm := hc.sm
  dsimp only at hop hpa hlo hst hki l1 l2 l3 l4 l5 f0 f1 p0 p1 hns hvs hsp
  subst l1 l2 l3
  have hw0 : IntKind.i64.wrap (5 - 4) = 1 := rfl
  have hflt : fn.toNat < c.funs.length := by omega
  have hbe := bodyAt_eq (c := c) hflt
  obtain ⟨hir, hil, him⟩ := hc.ins _ hflt
  rw [← hbe] at hir hil him
  rw [insL_flat] at hir
  have hplt : pc.toNat < (bodyAt c fn).ins.length := by omega
  have hie : insAt (bodyAt c fn) pc = (bodyAt c fn).ins[pc.toNat] := by simp [insAt, List.getD, hplt]
  have hS : stp c ⟨task, Ap, np, cp, path, fn, pc, Al, loc.length, cl, loc, As, stk.length, cs, stk, Ak, kids.length, ck, kids, many, spent, fail⟩ = instrP (kOf c ⟨task, Ap, np, cp, path, fn, pc, Al, loc.length, cl, loc, As, stk.length, cs, stk, Ak, kids.length, ck, kids, many, spent, fail⟩ none 0 none 0) (fun a => (bodyAt c a).args) ⟨pc, spent, fail, loc, stk⟩ (insAt (bodyAt c fn) pc) := stepP_in (by show ¬ spent = 2000; omega) ⟨p0, p1⟩ (by exact ⟨by show 1 ≤ (insAt (bodyAt c fn) pc).op; omega, by show (insAt (bodyAt c fn) pc).op < 20; omega⟩)
  generalize hii : insAt (bodyAt c fn) pc = ii at hop hie hS
  obtain ⟨op, ia, ib, ic⟩ := ii
  dsimp only at hop
  subst hop
  rw [instr_5 rfl] at hS
  dsimp only [PF.two, callP, PF.nx, PF.pop, PF.at_, kOf] at hS
  have hfA : FrOk wA ⟨task, Ap, np, cp, path, fn, pc, Al, loc.length, cl, loc, As, stk.length, cs, stk, Ak, kids.length, ck, kids, many, spent, fail⟩ := ⟨hpa, hlo, hst, hki⟩
  refine it59 (args := [_, _]) (by rfl) ?_
  intro w2 X2
  dsimp only [FrP.l]
  conv => whnf
  repeat' (first | (refine JoinVC.go ?_; conv => whnf) | (refine RetA.go ?_; conv => whnf) | (exact RetT.drop (K := K) M (by repeat (first | exact List.Sublist.refl _ | refine List.Sublist.cons_cons _ ?_ | refine List.Sublist.cons _ ?_)) (he (by rw [hS]; repeat (first | refine (if_pos (by first | omega | assumption)).trans ?_ | refine (if_neg (by first | omega | assumption | (intro hh; rw [haw] at hh; cases hh))).trans ?_ | rfl | (simp [pfF, qp, q0Q, pairP]; done))))) | (exact RetT.drop (K := K) (((.slice A1 (stk.length - 1 + 0) c1, .row 3 1 (is (stk.take (stk.length - 1) ++ []))) : Value × DA) :: M) (by repeat (first | exact List.Sublist.refl _ | refine List.Sublist.cons_cons _ ?_ | refine List.Sublist.cons _ ?_)) (ha ⟨task, Ap, np, cp, path, fn, pc + 1, Al, loc.length, cl, loc, A1, stk.length - 1 + 0, c1, stk.take (stk.length - 1) ++ [], Ak, kids.length, ck, kids, many, spent + 1, fail⟩ (q0Q 2 ia ((stk.drop (stk.length - 1)).getD 0 0) 0 0 0 0) [((.slice A1 (stk.length - 1 + 0) c1, .row 3 1 (is (stk.take (stk.length - 1) ++ []))) : Value × DA)] (by rw [hS]; repeat (first | refine (if_pos (by first | omega | assumption)).trans ?_ | refine (if_neg (by first | omega | assumption | (intro hh; rw [haw] at hh; cases hh))).trans ?_ | rfl | (simp [pfF, qp, q0Q, pairP]; done))) (by show (2 : Int) ≠ 0; decide) ⟨rfl, ⟨rfl, rfl, rfl, rfl⟩, rfl, ⟨rfl, rfl, rfl, rfl⟩, rfl, .inl ⟨rfl, rfl, rfl, rfl⟩, .inr (List.Mem.head _)⟩ (.inl ⟨rfl, rfl, rfl, rfl⟩))) | (refine cutLoN (stk.length - 1) 1 (by exact (wrapI (by omega)).trans (by omega)) (by omega) ?_; conv => whnf) | (refine idxOI (topO hst (stk.length - 1) 1 (by omega)) 0 rfl (by decide) (fun b3 o3 hA3 hcl3 => ?_); conv => whnf) | (refine ldO (by assumption) (tab_ok _ _ (by rfl)) (by rfl) ?_; conv => whnf) | (refine CallVC.anchor [] _ en116 rfl (fun E w Y hE => passed08_vc (f := ⟨task, Ap, np, cp, path, fn, pc, Al, loc.length, cl, loc, As, stk.length, cs, stk, Ak, kids.length, ck, kids, many, spent, fail⟩) (m := 1) (ls := []) (hE.fr hfA) (by first | omega | rfl) (by show 1 ≤ stk.length; omega) hns ⟨.inl rfl, rfl, Nat.le_refl _, Nat.zero_le _⟩ (by decide) ⟨by show -1000000 ≤ pc; omega, by show pc ≤ 1000000; omega⟩ ⟨by show -1000000 ≤ spent; omega, by show spent ≤ 1000000; omega⟩ (fun A1 c1 hc1 hA1 => RetN.to _ rfl ?_)); conv => whnf) | (refine idxF hc f0 f1 (fun b' o' hcl => ?_); conv => whnf) | (refine ldO (hcl 2 _ rfl) (tab_ok _ _ (by rfl)) (by rfl) ?_; conv => whnf) | (refine idxOG InsP.l 4 InsP.l_len (by omega) hir hil pc.toNat (by omega) hplt (fun b'' o'' hA hcl2 => ?_); rw [← hie] at hcl2; conv => whnf) | (refine ldsO [.int .i64 5, .int .i64 ia, .int .i64 ib, .int .i64 ic] hcl2 (tab_ok _ _ (by rfl)) (by rfl) (by rfl) ?_; conv => whnf) | (refine ia114 (by rfl) ?_; intro w1 X1; conv => whnf) | (refine awaits08_vc (f := ⟨task, Ap, np, cp, path, fn, pc, Al, loc.length, cl, loc, As, stk.length, cs, stk, Ak, kids.length, ck, kids, many, spent, fail⟩) hki (fun haw => ?_) (fun haw => ?_) <;> conv => whnf) | (refine is08_vc (fun hv => ?_) (fun hv => ?_) <;> simp only [valB, Bool.and_eq_true, decide_eq_true_eq, Bool.and_eq_false_imp, decide_eq_false_iff_not] at hv <;> conv => whnf) | (refine bsA el23 (by rfl) ?_; (conv => whnf); refine ⟨by rfl, fun bl => ?_⟩; conv => whnf) | (refine RetA.go ?_; conv => whnf) | (refine And.intro ?_ ?_ <;> conv => whnf) | (refine splitB.dec (fun hb => ?_) (fun hb => ?_) <;> first | (exfalso; omega) | (conv => whnf)) | (refine splitB.ndec (fun hb => ?_) (fun hb => ?_) <;> first | (exfalso; omega) | (conv => whnf)) | (refine splitB.eqI (fun hb => ?_) (fun hb => ?_) <;> first | (exfalso; omega) | (conv => whnf)) | (refine splitB.neI (fun hb => ?_) (fun hb => ?_) <;> first | (exfalso; omega) | (conv => whnf)))
set_option maxHeartbeats 8000000 in
theorem step08_6 {c : CodeP} {f : FrP} (hs : StepOk wA c f) (hop : (insAt (bodyAt c f.fn) f.pc).op = 6)
    (he : stp c f = .err 1 → K (.tuple #[.agg f.l.toArray, .agg (q0Q 0 0 0 0 0 0 0).l.toArray, .int .i64 1]) (CtxA wA w0 X M))
    (hg : ∀ f' M', stp c f = .go (pfF f') → Keep M' f f' → K (.tuple #[.agg f'.l.toArray, .agg (q0Q 0 0 0 0 0 0 0).l.toArray, .int .i64 0]) (CtxA wA w0 X (M' ++ M)))
    (ha : ∀ f' q M', stp c f = .ask (pfF f') (qp q) → q.kind ≠ 0 → Keep M' f f' → QKeep M' q → K (.tuple #[.agg f'.l.toArray, .agg q.l.toArray, .int .i64 0]) (CtxA wA w0 X (M' ++ M))) :
    CallVC Tryz.prog (CtxA wA w0 X M) 59 #[.agg c.l.toArray, .agg f.l.toArray] K Z := by
  obtain ⟨task, Ap, np, cp, path, fn, pc, Al, nl, cl, loc, As, ns, cs, stk, Ak, nk, ck, kids, many, spent, fail⟩ := f
  obtain ⟨hc, hf, f0, f1, p0, p1, hns, hvs, hsp⟩ := hs
  obtain ⟨hpa, hlo, hst, hki⟩ := hf
  have l1 := hlo.len
  have l2 := hst.len
  have l3 := hki.len
  have l4 := hlo.sm
  have l5 := hst.cap
  have hnf := hc.nf
  have hnm := hc.sm
  dsimp only at hop hpa hlo hst hki l1 l2 l3 l4 l5 f0 f1 p0 p1 hns hvs hsp
  subst l1 l2 l3
  have hflt : fn.toNat < c.funs.length := by omega
  have hbe := bodyAt_eq (c := c) hflt
  obtain ⟨hir, hil, him⟩ := hc.ins _ hflt
  rw [← hbe] at hir hil him
  rw [insL_flat] at hir
  have hplt : pc.toNat < (bodyAt c fn).ins.length := by omega
  have hie : insAt (bodyAt c fn) pc = (bodyAt c fn).ins[pc.toNat] := by simp [insAt, List.getD, hplt]
  have hS : stp c ⟨task, Ap, np, cp, path, fn, pc, Al, loc.length, cl, loc, As, stk.length, cs, stk, Ak, kids.length, ck, kids, many, spent, fail⟩ = instrP (kOf c ⟨task, Ap, np, cp, path, fn, pc, Al, loc.length, cl, loc, As, stk.length, cs, stk, Ak, kids.length, ck, kids, many, spent, fail⟩ none 0 none 0) (fun a => (bodyAt c a).args) ⟨pc, spent, fail, loc, stk⟩ (insAt (bodyAt c fn) pc) := stepP_in (by show ¬ spent = 2000; omega) ⟨p0, p1⟩ (by exact ⟨by show 1 ≤ (insAt (bodyAt c fn) pc).op; omega, by show (insAt (bodyAt c fn) pc).op < 20; omega⟩)
  generalize hii : insAt (bodyAt c fn) pc = ii at hop hie hS
  obtain ⟨op, ia, ib, ic⟩ := ii
  dsimp only at hop
  subst hop
  rw [instr_6 rfl] at hS
  dsimp only [PF.two, callP, PF.nx, PF.pop, PF.at_, kOf] at hS
  have hfA : FrOk wA ⟨task, Ap, np, cp, path, fn, pc, Al, loc.length, cl, loc, As, stk.length, cs, stk, Ak, kids.length, ck, kids, many, spent, fail⟩ := ⟨hpa, hlo, hst, hki⟩
  have hvd : valsB (stk.drop (stk.length - 2)) = true := List.all_eq_true.2 fun x hx => List.all_eq_true.1 hvs x (List.mem_of_mem_drop hx)
  refine it59 (args := [_, _]) (by rfl) ?_
  intro w2 X2
  dsimp only [FrP.l]
  conv => whnf
  repeat' (first | (refine JoinVC.go ?_; conv => whnf) | (refine RetA.go ?_; conv => whnf) | (exact RetT.drop (K := K) M (by repeat (first | exact List.Sublist.refl _ | refine List.Sublist.cons_cons _ ?_ | refine List.Sublist.cons _ ?_)) (he (by rw [hS]; repeat (first | refine (if_pos (by first | omega | assumption)).trans ?_ | refine (if_neg (by first | omega | assumption | (intro hh; rw [haw] at hh; cases hh))).trans ?_ | rfl | (simp [pfF, qp, q0Q, pairP]; done))))) | (exact RetT.drop (K := K) (((.slice A1 (stk.length - 2 + 1) c1, .row 3 1 (is (stk.take (stk.length - 2) ++ [pairP 6 ((stk.drop (stk.length - 2)).getD 0 0) ((stk.drop (stk.length - 2)).getD 1 0)]))) : Value × DA) :: M) (by repeat (first | exact List.Sublist.refl _ | refine List.Sublist.cons_cons _ ?_ | refine List.Sublist.cons _ ?_)) (hg ⟨task, Ap, np, cp, path, fn, pc + 1, Al, loc.length, cl, loc, A1, stk.length - 2 + 1, c1, stk.take (stk.length - 2) ++ [pairP 6 ((stk.drop (stk.length - 2)).getD 0 0) ((stk.drop (stk.length - 2)).getD 1 0)], Ak, kids.length, ck, kids, many, spent + 1, fail⟩ [((.slice A1 (stk.length - 2 + 1) c1, .row 3 1 (is (stk.take (stk.length - 2) ++ [pairP 6 ((stk.drop (stk.length - 2)).getD 0 0) ((stk.drop (stk.length - 2)).getD 1 0)]))) : Value × DA)] (by rw [hS]; repeat (first | refine (if_pos (by first | omega | assumption)).trans ?_ | refine (if_neg (by first | omega | assumption | (intro hh; rw [haw] at hh; cases hh))).trans ?_ | rfl | (simp [pfF, qp, q0Q, pairP]; done))) ⟨rfl, ⟨rfl, rfl, rfl, rfl⟩, rfl, ⟨rfl, rfl, rfl, rfl⟩, rfl, .inl ⟨rfl, rfl, rfl, rfl⟩, .inr (List.Mem.head _)⟩)) | (refine cutLoN (stk.length - 2) 2 (by exact (wrapI (by omega)).trans (by omega)) (by omega) ?_; conv => whnf) | (refine idxOI (topO hst (stk.length - 2) 2 (by omega)) 0 rfl (by decide) (fun b3 o3 hA3 hcl3 => ?_); conv => whnf) | (refine idxOI (topO hst (stk.length - 2) 2 (by omega)) 1 rfl (by decide) (fun b3 o3 hA3 hcl3 => ?_); conv => whnf) | (refine ldO (by assumption) (tab_ok _ _ (by rfl)) (by rfl) ?_; conv => whnf) | (refine pair08_vc (by decide) (vals_at hvd (by simp; omega)) (vals_at hvd (by simp; omega)) ?_; conv => whnf) | (refine CallVC.anchor [] _ en116 rfl (fun E w Y hE => passed08_vc (f := ⟨task, Ap, np, cp, path, fn, pc, Al, loc.length, cl, loc, As, stk.length, cs, stk, Ak, kids.length, ck, kids, many, spent, fail⟩) (m := 2) (ls := [pairP 6 ((stk.drop (stk.length - 2)).getD 0 0) ((stk.drop (stk.length - 2)).getD 1 0)]) (hE.fr hfA) (by first | omega | rfl) (by show 2 ≤ stk.length; omega) hns (hE.ownI (xs := [pairP 6 ((stk.drop (stk.length - 2)).getD 0 0) ((stk.drop (stk.length - 2)).getD 1 0)]) (List.Mem.head _) (by decide)) (by decide) ⟨by show -1000000 ≤ pc; omega, by show pc ≤ 1000000; omega⟩ ⟨by show -1000000 ≤ spent; omega, by show spent ≤ 1000000; omega⟩ (fun A1 c1 hc1 hA1 => RetN.to _ rfl ?_)); conv => whnf) | (refine idxF hc f0 f1 (fun b' o' hcl => ?_); conv => whnf) | (refine ldO (hcl 2 _ rfl) (tab_ok _ _ (by rfl)) (by rfl) ?_; conv => whnf) | (refine idxOG InsP.l 4 InsP.l_len (by omega) hir hil pc.toNat (by omega) hplt (fun b'' o'' hA hcl2 => ?_); rw [← hie] at hcl2; conv => whnf) | (refine ldsO [.int .i64 6, .int .i64 ia, .int .i64 ib, .int .i64 ic] hcl2 (tab_ok _ _ (by rfl)) (by rfl) (by rfl) ?_; conv => whnf) | (refine ia114 (by rfl) ?_; intro w1 X1; conv => whnf) | (refine awaits08_vc (f := ⟨task, Ap, np, cp, path, fn, pc, Al, loc.length, cl, loc, As, stk.length, cs, stk, Ak, kids.length, ck, kids, many, spent, fail⟩) hki (fun haw => ?_) (fun haw => ?_) <;> conv => whnf) | (refine is08_vc (fun hv => ?_) (fun hv => ?_) <;> simp only [valB, Bool.and_eq_true, decide_eq_true_eq, Bool.and_eq_false_imp, decide_eq_false_iff_not] at hv <;> conv => whnf) | (refine bsA el23 (by rfl) ?_; (conv => whnf); refine ⟨by rfl, fun bl => ?_⟩; conv => whnf) | (refine RetA.go ?_; conv => whnf) | (refine And.intro ?_ ?_ <;> conv => whnf) | (refine splitB.dec (fun hb => ?_) (fun hb => ?_) <;> first | (exfalso; omega) | (conv => whnf)) | (refine splitB.ndec (fun hb => ?_) (fun hb => ?_) <;> first | (exfalso; omega) | (conv => whnf)) | (refine splitB.eqI (fun hb => ?_) (fun hb => ?_) <;> first | (exfalso; omega) | (conv => whnf)) | (refine splitB.neI (fun hb => ?_) (fun hb => ?_) <;> first | (exfalso; omega) | (conv => whnf)))
set_option maxHeartbeats 8000000 in
theorem step08_7 {c : CodeP} {f : FrP} (hs : StepOk wA c f) (hop : (insAt (bodyAt c f.fn) f.pc).op = 7)
    (he : stp c f = .err 1 → K (.tuple #[.agg f.l.toArray, .agg (q0Q 0 0 0 0 0 0 0).l.toArray, .int .i64 1]) (CtxA wA w0 X M))
    (hg : ∀ f' M', stp c f = .go (pfF f') → Keep M' f f' → K (.tuple #[.agg f'.l.toArray, .agg (q0Q 0 0 0 0 0 0 0).l.toArray, .int .i64 0]) (CtxA wA w0 X (M' ++ M)))
    (ha : ∀ f' q M', stp c f = .ask (pfF f') (qp q) → q.kind ≠ 0 → Keep M' f f' → QKeep M' q → K (.tuple #[.agg f'.l.toArray, .agg q.l.toArray, .int .i64 0]) (CtxA wA w0 X (M' ++ M))) :
    CallVC Tryz.prog (CtxA wA w0 X M) 59 #[.agg c.l.toArray, .agg f.l.toArray] K Z := by
  obtain ⟨task, Ap, np, cp, path, fn, pc, Al, nl, cl, loc, As, ns, cs, stk, Ak, nk, ck, kids, many, spent, fail⟩ := f
  obtain ⟨hc, hf, f0, f1, p0, p1, hns, hvs, hsp⟩ := hs
  obtain ⟨hpa, hlo, hst, hki⟩ := hf
  have l1 := hlo.len
  have l2 := hst.len
  have l3 := hki.len
  have l4 := hlo.sm
  have l5 := hst.cap
  have hnf := hc.nf
  have hnm := hc.sm
  dsimp only at hop hpa hlo hst hki l1 l2 l3 l4 l5 f0 f1 p0 p1 hns hvs hsp
  subst l1 l2 l3
  have hflt : fn.toNat < c.funs.length := by omega
  have hbe := bodyAt_eq (c := c) hflt
  obtain ⟨hir, hil, him⟩ := hc.ins _ hflt
  rw [← hbe] at hir hil him
  rw [insL_flat] at hir
  have hplt : pc.toNat < (bodyAt c fn).ins.length := by omega
  have hie : insAt (bodyAt c fn) pc = (bodyAt c fn).ins[pc.toNat] := by simp [insAt, List.getD, hplt]
  have hS : stp c ⟨task, Ap, np, cp, path, fn, pc, Al, loc.length, cl, loc, As, stk.length, cs, stk, Ak, kids.length, ck, kids, many, spent, fail⟩ = instrP (kOf c ⟨task, Ap, np, cp, path, fn, pc, Al, loc.length, cl, loc, As, stk.length, cs, stk, Ak, kids.length, ck, kids, many, spent, fail⟩ none 0 none 0) (fun a => (bodyAt c a).args) ⟨pc, spent, fail, loc, stk⟩ (insAt (bodyAt c fn) pc) := stepP_in (by show ¬ spent = 2000; omega) ⟨p0, p1⟩ (by exact ⟨by show 1 ≤ (insAt (bodyAt c fn) pc).op; omega, by show (insAt (bodyAt c fn) pc).op < 20; omega⟩)
  generalize hii : insAt (bodyAt c fn) pc = ii at hop hie hS
  obtain ⟨op, ia, ib, ic⟩ := ii
  dsimp only at hop
  subst hop
  rw [instr_7 rfl] at hS
  dsimp only [PF.two, callP, PF.nx, PF.pop, PF.at_, kOf] at hS
  have hfA : FrOk wA ⟨task, Ap, np, cp, path, fn, pc, Al, loc.length, cl, loc, As, stk.length, cs, stk, Ak, kids.length, ck, kids, many, spent, fail⟩ := ⟨hpa, hlo, hst, hki⟩
  have hvd : valsB (stk.drop (stk.length - 2)) = true := List.all_eq_true.2 fun x hx => List.all_eq_true.1 hvs x (List.mem_of_mem_drop hx)
  refine it59 (args := [_, _]) (by rfl) ?_
  intro w2 X2
  dsimp only [FrP.l]
  conv => whnf
  repeat' (first | (refine JoinVC.go ?_; conv => whnf) | (refine RetA.go ?_; conv => whnf) | (exact RetT.drop (K := K) M (by repeat (first | exact List.Sublist.refl _ | refine List.Sublist.cons_cons _ ?_ | refine List.Sublist.cons _ ?_)) (he (by rw [hS]; repeat (first | refine (if_pos (by first | omega | assumption)).trans ?_ | refine (if_neg (by first | omega | assumption | (intro hh; rw [haw] at hh; cases hh))).trans ?_ | rfl | (simp [pfF, qp, q0Q, pairP]; done))))) | (exact RetT.drop (K := K) (((.slice A1 (stk.length - 2 + 1) c1, .row 3 1 (is (stk.take (stk.length - 2) ++ [pairP 7 ((stk.drop (stk.length - 2)).getD 0 0) ((stk.drop (stk.length - 2)).getD 1 0)]))) : Value × DA) :: M) (by repeat (first | exact List.Sublist.refl _ | refine List.Sublist.cons_cons _ ?_ | refine List.Sublist.cons _ ?_)) (hg ⟨task, Ap, np, cp, path, fn, pc + 1, Al, loc.length, cl, loc, A1, stk.length - 2 + 1, c1, stk.take (stk.length - 2) ++ [pairP 7 ((stk.drop (stk.length - 2)).getD 0 0) ((stk.drop (stk.length - 2)).getD 1 0)], Ak, kids.length, ck, kids, many, spent + 1, fail⟩ [((.slice A1 (stk.length - 2 + 1) c1, .row 3 1 (is (stk.take (stk.length - 2) ++ [pairP 7 ((stk.drop (stk.length - 2)).getD 0 0) ((stk.drop (stk.length - 2)).getD 1 0)]))) : Value × DA)] (by rw [hS]; repeat (first | refine (if_pos (by first | omega | assumption)).trans ?_ | refine (if_neg (by first | omega | assumption | (intro hh; rw [haw] at hh; cases hh))).trans ?_ | rfl | (simp [pfF, qp, q0Q, pairP]; done))) ⟨rfl, ⟨rfl, rfl, rfl, rfl⟩, rfl, ⟨rfl, rfl, rfl, rfl⟩, rfl, .inl ⟨rfl, rfl, rfl, rfl⟩, .inr (List.Mem.head _)⟩)) | (refine cutLoN (stk.length - 2) 2 (by exact (wrapI (by omega)).trans (by omega)) (by omega) ?_; conv => whnf) | (refine idxOI (topO hst (stk.length - 2) 2 (by omega)) 0 rfl (by decide) (fun b3 o3 hA3 hcl3 => ?_); conv => whnf) | (refine idxOI (topO hst (stk.length - 2) 2 (by omega)) 1 rfl (by decide) (fun b3 o3 hA3 hcl3 => ?_); conv => whnf) | (refine ldO (by assumption) (tab_ok _ _ (by rfl)) (by rfl) ?_; conv => whnf) | (refine pair08_vc (by decide) (vals_at hvd (by simp; omega)) (vals_at hvd (by simp; omega)) ?_; conv => whnf) | (refine CallVC.anchor [] _ en116 rfl (fun E w Y hE => passed08_vc (f := ⟨task, Ap, np, cp, path, fn, pc, Al, loc.length, cl, loc, As, stk.length, cs, stk, Ak, kids.length, ck, kids, many, spent, fail⟩) (m := 2) (ls := [pairP 7 ((stk.drop (stk.length - 2)).getD 0 0) ((stk.drop (stk.length - 2)).getD 1 0)]) (hE.fr hfA) (by first | omega | rfl) (by show 2 ≤ stk.length; omega) hns (hE.ownI (xs := [pairP 7 ((stk.drop (stk.length - 2)).getD 0 0) ((stk.drop (stk.length - 2)).getD 1 0)]) (List.Mem.head _) (by decide)) (by decide) ⟨by show -1000000 ≤ pc; omega, by show pc ≤ 1000000; omega⟩ ⟨by show -1000000 ≤ spent; omega, by show spent ≤ 1000000; omega⟩ (fun A1 c1 hc1 hA1 => RetN.to _ rfl ?_)); conv => whnf) | (refine idxF hc f0 f1 (fun b' o' hcl => ?_); conv => whnf) | (refine ldO (hcl 2 _ rfl) (tab_ok _ _ (by rfl)) (by rfl) ?_; conv => whnf) | (refine idxOG InsP.l 4 InsP.l_len (by omega) hir hil pc.toNat (by omega) hplt (fun b'' o'' hA hcl2 => ?_); rw [← hie] at hcl2; conv => whnf) | (refine ldsO [.int .i64 7, .int .i64 ia, .int .i64 ib, .int .i64 ic] hcl2 (tab_ok _ _ (by rfl)) (by rfl) (by rfl) ?_; conv => whnf) | (refine ia114 (by rfl) ?_; intro w1 X1; conv => whnf) | (refine awaits08_vc (f := ⟨task, Ap, np, cp, path, fn, pc, Al, loc.length, cl, loc, As, stk.length, cs, stk, Ak, kids.length, ck, kids, many, spent, fail⟩) hki (fun haw => ?_) (fun haw => ?_) <;> conv => whnf) | (refine is08_vc (fun hv => ?_) (fun hv => ?_) <;> simp only [valB, Bool.and_eq_true, decide_eq_true_eq, Bool.and_eq_false_imp, decide_eq_false_iff_not] at hv <;> conv => whnf) | (refine bsA el23 (by rfl) ?_; (conv => whnf); refine ⟨by rfl, fun bl => ?_⟩; conv => whnf) | (refine RetA.go ?_; conv => whnf) | (refine And.intro ?_ ?_ <;> conv => whnf) | (refine splitB.dec (fun hb => ?_) (fun hb => ?_) <;> first | (exfalso; omega) | (conv => whnf)) | (refine splitB.ndec (fun hb => ?_) (fun hb => ?_) <;> first | (exfalso; omega) | (conv => whnf)) | (refine splitB.eqI (fun hb => ?_) (fun hb => ?_) <;> first | (exfalso; omega) | (conv => whnf)) | (refine splitB.neI (fun hb => ?_) (fun hb => ?_) <;> first | (exfalso; omega) | (conv => whnf)))
end
end Go.Proofs.YtgaopcbjhepklaaGreat
/- The document's frames: a step (2). -/
namespace Go.Proofs.YtgaopcbjhepklaaGreat
open Go.RowKit
set_option linter.unusedSimpArgs false
set_option linter.unusedVariables false
set_option maxRecDepth 100000
section
variable {wA w0 : World} {X : Nat → Prop} {M : EL} {K : Value → Ctx → Prop} {Z : PanK}
set_option maxHeartbeats 8000000 in
theorem step08_11 {c : CodeP} {f : FrP} (hs : StepOk wA c f) (hop : (insAt (bodyAt c f.fn) f.pc).op = 11)
    (he : stp c f = .err 1 → K (.tuple #[.agg f.l.toArray, .agg (q0Q 0 0 0 0 0 0 0).l.toArray, .int .i64 1]) (CtxA wA w0 X M))
    (hg : ∀ f' M', stp c f = .go (pfF f') → Keep M' f f' → K (.tuple #[.agg f'.l.toArray, .agg (q0Q 0 0 0 0 0 0 0).l.toArray, .int .i64 0]) (CtxA wA w0 X (M' ++ M)))
    (ha : ∀ f' q M', stp c f = .ask (pfF f') (qp q) → q.kind ≠ 0 → Keep M' f f' → QKeep M' q → K (.tuple #[.agg f'.l.toArray, .agg q.l.toArray, .int .i64 0]) (CtxA wA w0 X (M' ++ M))) :
    CallVC Tryz.prog (CtxA wA w0 X M) 59 #[.agg c.l.toArray, .agg f.l.toArray] K Z := by
  obtain ⟨task, Ap, np, cp, path, fn, pc, Al, nl, cl, loc, As, ns, cs, stk, Ak, nk, ck, kids, many, spent, fail⟩ := f
  obtain ⟨hc, hf, f0, f1, p0, p1, hns, hvs, hsp⟩ := hs
  obtain ⟨hpa, hlo, hst, hki⟩ := hf
  have l1 := hlo.len
  have l2 := hst.len
  have l3 := hki.len
  have l4 := hlo.sm
  have l5 := hst.cap
  have hnf := hc.nf
  have hnm := hc.sm
  dsimp only at hop hpa hlo hst hki l1 l2 l3 l4 l5 f0 f1 p0 p1 hns hvs hsp
  subst l1 l2 l3
  have hflt : fn.toNat < c.funs.length := by omega
  have hbe := bodyAt_eq (c := c) hflt
  obtain ⟨hir, hil, him⟩ := hc.ins _ hflt
  rw [← hbe] at hir hil him
  rw [insL_flat] at hir
  have hplt : pc.toNat < (bodyAt c fn).ins.length := by omega
  have hie : insAt (bodyAt c fn) pc = (bodyAt c fn).ins[pc.toNat] := by simp [insAt, List.getD, hplt]
  have hS : stp c ⟨task, Ap, np, cp, path, fn, pc, Al, loc.length, cl, loc, As, stk.length, cs, stk, Ak, kids.length, ck, kids, many, spent, fail⟩ = instrP (kOf c ⟨task, Ap, np, cp, path, fn, pc, Al, loc.length, cl, loc, As, stk.length, cs, stk, Ak, kids.length, ck, kids, many, spent, fail⟩ none 0 none 0) (fun a => (bodyAt c a).args) ⟨pc, spent, fail, loc, stk⟩ (insAt (bodyAt c fn) pc) := stepP_in (by show ¬ spent = 2000; omega) ⟨p0, p1⟩ (by exact ⟨by show 1 ≤ (insAt (bodyAt c fn) pc).op; omega, by show (insAt (bodyAt c fn) pc).op < 20; omega⟩)
  generalize hii : insAt (bodyAt c fn) pc = ii at hop hie hS
  obtain ⟨op, ia, ib, ic⟩ := ii
  dsimp only at hop
  subst hop
  rw [instr_11 rfl] at hS
  dsimp only [PF.two, callP, PF.nx, PF.pop, PF.at_, kOf] at hS
  have hfA : FrOk wA ⟨task, Ap, np, cp, path, fn, pc, Al, loc.length, cl, loc, As, stk.length, cs, stk, Ak, kids.length, ck, kids, many, spent, fail⟩ := ⟨hpa, hlo, hst, hki⟩
  rcases (show ia = 1 ∨ ia = 2 ∨ ia = 3 ∨ ia = 4 ∨ ia = 5 ∨ ia = 6 ∨ ia = 7 ∨ (ia < 1 ∨ 7 < ia) by omega) with rfl | rfl | rfl | rfl | rfl | rfl | rfl | hia
  · refine it59 (args := [_, _]) (by rfl) ?_
    intro w2 X2
    dsimp only [FrP.l]
    conv => whnf
    repeat' (first | (refine JoinVC.go ?_; conv => whnf) | (refine RetA.go ?_; conv => whnf) | (exact RetT.drop (K := K) M (by repeat (first | exact List.Sublist.refl _ | refine List.Sublist.cons_cons _ ?_ | refine List.Sublist.cons _ ?_)) (he (by rw [hS]; repeat (first | refine (if_pos (by first | omega | assumption)).trans ?_ | refine (if_neg (by first | omega | assumption | (intro hh; rw [haw] at hh; cases hh))).trans ?_ | rfl | (simp [pfF, qp, q0Q, pairP]; done))))) | (exact RetT.drop (K := K) (((.slice A1 (stk.length - 1 + 0) c1, .row 3 1 (is (stk.take (stk.length - 1) ++ []))) : Value × DA) :: M) (by repeat (first | exact List.Sublist.refl _ | refine List.Sublist.cons_cons _ ?_ | refine List.Sublist.cons _ ?_)) (ha ⟨task, Ap, np, cp, path, fn, pc + 1, Al, loc.length, cl, loc, A1, stk.length - 1 + 0, c1, stk.take (stk.length - 1) ++ [], Ak, kids.length, ck, kids, many, spent + 1, fail⟩ (q0Q 3 0 0 1 ib (((stk.drop (stk.length - 1)).getD 0 0) % 65536) 0) [((.slice A1 (stk.length - 1 + 0) c1, .row 3 1 (is (stk.take (stk.length - 1) ++ []))) : Value × DA)] (by rw [hS]; (repeat (first | refine (if_pos (by omega)).trans ?_ | refine (if_neg (by omega)).trans ?_)); (simp only [wentA (j := 0) (m := 1) (by omega) (by omega : 1 ≤ stk.length), wentB (j := 1) (m := 1) (by omega) (by omega : 1 ≤ stk.length), if_true, Bool.false_eq_true, if_false, pfF, qp, q0Q, List.append_nil] <;> rfl)) (by show (3 : Int) ≠ 0; decide) ⟨rfl, ⟨rfl, rfl, rfl, rfl⟩, rfl, ⟨rfl, rfl, rfl, rfl⟩, rfl, .inl ⟨rfl, rfl, rfl, rfl⟩, .inr (List.Mem.head _)⟩ (.inl ⟨rfl, rfl, rfl, rfl⟩))) | (refine cutLoN (stk.length - 1) 1 (by exact (wrapI (by omega)).trans (by omega)) (by omega) ?_; conv => whnf) | (refine idxOI (topO hst (stk.length - 1) 1 (by omega)) 0 rfl (by decide) (fun b3 o3 hA3 hcl3 => ?_); conv => whnf) | (refine ldO (by assumption) (tab_ok _ _ (by rfl)) (by rfl) ?_; conv => whnf) | (refine key08_vc ?_; conv => whnf) | (refine CallVC.anchor [] _ en116 rfl (fun E w Y hE => passed08_vc (f := ⟨task, Ap, np, cp, path, fn, pc, Al, loc.length, cl, loc, As, stk.length, cs, stk, Ak, kids.length, ck, kids, many, spent, fail⟩) (m := 1) (ls := []) (hE.fr hfA) (by first | omega | rfl) (by show 1 ≤ stk.length; omega) hns ⟨.inl rfl, rfl, Nat.le_refl _, Nat.zero_le _⟩ (by decide) ⟨by show -1000000 ≤ pc; omega, by show pc ≤ 1000000; omega⟩ ⟨by show -1000000 ≤ spent; omega, by show spent ≤ 1000000; omega⟩ (fun A1 c1 hc1 hA1 => RetN.to _ rfl ?_)); conv => whnf) | (refine ia147 (by rfl) ?_; intro w4 X4; conv => whnf) | (refine idxF hc f0 f1 (fun b' o' hcl => ?_); conv => whnf) | (refine ldO (hcl 2 _ rfl) (tab_ok _ _ (by rfl)) (by rfl) ?_; conv => whnf) | (refine idxOG InsP.l 4 InsP.l_len (by omega) hir hil pc.toNat (by omega) hplt (fun b'' o'' hA hcl2 => ?_); rw [← hie] at hcl2; conv => whnf) | (refine ldsO [.int .i64 11, .int .i64 1, .int .i64 ib, .int .i64 ic] hcl2 (tab_ok _ _ (by rfl)) (by rfl) (by rfl) ?_; conv => whnf) | (refine ia114 (by rfl) ?_; intro w1 X1; conv => whnf) | (refine bsA el23 (by rfl) ?_; (conv => whnf); refine ⟨by rfl, fun bl => ?_⟩; conv => whnf) | (refine RetA.go ?_; conv => whnf) | (refine And.intro ?_ ?_ <;> conv => whnf) | (refine splitB.dec (fun hb => ?_) (fun hb => ?_) <;> first | (exfalso; omega) | (conv => whnf)) | (refine splitB.ndec (fun hb => ?_) (fun hb => ?_) <;> first | (exfalso; omega) | (conv => whnf)) | (refine splitB.eqI (fun hb => ?_) (fun hb => ?_) <;> first | (exfalso; omega) | (conv => whnf)) | (refine splitB.neI (fun hb => ?_) (fun hb => ?_) <;> first | (exfalso; omega) | (conv => whnf)))
  · refine it59 (args := [_, _]) (by rfl) ?_
    intro w2 X2
    dsimp only [FrP.l]
    conv => whnf
    repeat' (first | (refine JoinVC.go ?_; conv => whnf) | (refine RetA.go ?_; conv => whnf) | (exact RetT.drop (K := K) M (by repeat (first | exact List.Sublist.refl _ | refine List.Sublist.cons_cons _ ?_ | refine List.Sublist.cons _ ?_)) (he (by rw [hS]; repeat (first | refine (if_pos (by first | omega | assumption)).trans ?_ | refine (if_neg (by first | omega | assumption | (intro hh; rw [haw] at hh; cases hh))).trans ?_ | rfl | (simp [pfF, qp, q0Q, pairP]; done))))) | (exact RetT.drop (K := K) (((.slice A1 (stk.length - 2 + 0) c1, .row 3 1 (is (stk.take (stk.length - 2) ++ []))) : Value × DA) :: M) (by repeat (first | exact List.Sublist.refl _ | refine List.Sublist.cons_cons _ ?_ | refine List.Sublist.cons _ ?_)) (ha ⟨task, Ap, np, cp, path, fn, pc + 1, Al, loc.length, cl, loc, A1, stk.length - 2 + 0, c1, stk.take (stk.length - 2) ++ [], Ak, kids.length, ck, kids, many, spent + 1, fail⟩ (q0Q 3 0 0 2 ib (((stk.drop (stk.length - 2)).getD 0 0) % 65536) ((stk.drop (stk.length - 2)).getD 1 0)) [((.slice A1 (stk.length - 2 + 0) c1, .row 3 1 (is (stk.take (stk.length - 2) ++ []))) : Value × DA)] (by rw [hS]; (repeat (first | refine (if_pos (by omega)).trans ?_ | refine (if_neg (by omega)).trans ?_)); (simp only [wentA (j := 0) (m := 2) (by omega) (by omega : 2 ≤ stk.length), wentA (j := 1) (m := 2) (by omega) (by omega : 2 ≤ stk.length), if_true, Bool.false_eq_true, if_false, pfF, qp, q0Q, List.append_nil] <;> rfl)) (by show (3 : Int) ≠ 0; decide) ⟨rfl, ⟨rfl, rfl, rfl, rfl⟩, rfl, ⟨rfl, rfl, rfl, rfl⟩, rfl, .inl ⟨rfl, rfl, rfl, rfl⟩, .inr (List.Mem.head _)⟩ (.inl ⟨rfl, rfl, rfl, rfl⟩))) | (refine cutLoN (stk.length - 2) 2 (by exact (wrapI (by omega)).trans (by omega)) (by omega) ?_; conv => whnf) | (refine idxOI (topO hst (stk.length - 2) 2 (by omega)) 0 rfl (by decide) (fun b3 o3 hA3 hcl3 => ?_); conv => whnf) | (refine idxOI (topO hst (stk.length - 2) 2 (by omega)) 1 rfl (by decide) (fun b3 o3 hA3 hcl3 => ?_); conv => whnf) | (refine ldO (by assumption) (tab_ok _ _ (by rfl)) (by rfl) ?_; conv => whnf) | (refine key08_vc ?_; conv => whnf) | (refine CallVC.anchor [] _ en116 rfl (fun E w Y hE => passed08_vc (f := ⟨task, Ap, np, cp, path, fn, pc, Al, loc.length, cl, loc, As, stk.length, cs, stk, Ak, kids.length, ck, kids, many, spent, fail⟩) (m := 2) (ls := []) (hE.fr hfA) (by first | omega | rfl) (by show 2 ≤ stk.length; omega) hns ⟨.inl rfl, rfl, Nat.le_refl _, Nat.zero_le _⟩ (by decide) ⟨by show -1000000 ≤ pc; omega, by show pc ≤ 1000000; omega⟩ ⟨by show -1000000 ≤ spent; omega, by show spent ≤ 1000000; omega⟩ (fun A1 c1 hc1 hA1 => RetN.to _ rfl ?_)); conv => whnf) | (refine ia147 (by rfl) ?_; intro w4 X4; conv => whnf) | (refine idxF hc f0 f1 (fun b' o' hcl => ?_); conv => whnf) | (refine ldO (hcl 2 _ rfl) (tab_ok _ _ (by rfl)) (by rfl) ?_; conv => whnf) | (refine idxOG InsP.l 4 InsP.l_len (by omega) hir hil pc.toNat (by omega) hplt (fun b'' o'' hA hcl2 => ?_); rw [← hie] at hcl2; conv => whnf) | (refine ldsO [.int .i64 11, .int .i64 2, .int .i64 ib, .int .i64 ic] hcl2 (tab_ok _ _ (by rfl)) (by rfl) (by rfl) ?_; conv => whnf) | (refine ia114 (by rfl) ?_; intro w1 X1; conv => whnf) | (refine bsA el23 (by rfl) ?_; (conv => whnf); refine ⟨by rfl, fun bl => ?_⟩; conv => whnf) | (refine RetA.go ?_; conv => whnf) | (refine And.intro ?_ ?_ <;> conv => whnf) | (refine splitB.dec (fun hb => ?_) (fun hb => ?_) <;> first | (exfalso; omega) | (conv => whnf)) | (refine splitB.ndec (fun hb => ?_) (fun hb => ?_) <;> first | (exfalso; omega) | (conv => whnf)) | (refine splitB.eqI (fun hb => ?_) (fun hb => ?_) <;> first | (exfalso; omega) | (conv => whnf)) | (refine splitB.neI (fun hb => ?_) (fun hb => ?_) <;> first | (exfalso; omega) | (conv => whnf)))
  · refine it59 (args := [_, _]) (by rfl) ?_
    intro w2 X2
    dsimp only [FrP.l]
    conv => whnf
    repeat' (first | (refine JoinVC.go ?_; conv => whnf) | (refine RetA.go ?_; conv => whnf) | (exact RetT.drop (K := K) M (by repeat (first | exact List.Sublist.refl _ | refine List.Sublist.cons_cons _ ?_ | refine List.Sublist.cons _ ?_)) (he (by rw [hS]; repeat (first | refine (if_pos (by first | omega | assumption)).trans ?_ | refine (if_neg (by first | omega | assumption | (intro hh; rw [haw] at hh; cases hh))).trans ?_ | rfl | (simp [pfF, qp, q0Q, pairP]; done))))) | (exact RetT.drop (K := K) (((.slice A1 (stk.length - 1 + 0) c1, .row 3 1 (is (stk.take (stk.length - 1) ++ []))) : Value × DA) :: M) (by repeat (first | exact List.Sublist.refl _ | refine List.Sublist.cons_cons _ ?_ | refine List.Sublist.cons _ ?_)) (ha ⟨task, Ap, np, cp, path, fn, pc + 1, Al, loc.length, cl, loc, A1, stk.length - 1 + 0, c1, stk.take (stk.length - 1) ++ [], Ak, kids.length, ck, kids, many, spent + 1, fail⟩ (q0Q 3 0 0 3 ib (((stk.drop (stk.length - 1)).getD 0 0) % 65536) 0) [((.slice A1 (stk.length - 1 + 0) c1, .row 3 1 (is (stk.take (stk.length - 1) ++ []))) : Value × DA)] (by rw [hS]; (repeat (first | refine (if_pos (by omega)).trans ?_ | refine (if_neg (by omega)).trans ?_)); (simp only [wentA (j := 0) (m := 1) (by omega) (by omega : 1 ≤ stk.length), wentB (j := 1) (m := 1) (by omega) (by omega : 1 ≤ stk.length), if_true, Bool.false_eq_true, if_false, pfF, qp, q0Q, List.append_nil] <;> rfl)) (by show (3 : Int) ≠ 0; decide) ⟨rfl, ⟨rfl, rfl, rfl, rfl⟩, rfl, ⟨rfl, rfl, rfl, rfl⟩, rfl, .inl ⟨rfl, rfl, rfl, rfl⟩, .inr (List.Mem.head _)⟩ (.inl ⟨rfl, rfl, rfl, rfl⟩))) | (refine cutLoN (stk.length - 1) 1 (by exact (wrapI (by omega)).trans (by omega)) (by omega) ?_; conv => whnf) | (refine idxOI (topO hst (stk.length - 1) 1 (by omega)) 0 rfl (by decide) (fun b3 o3 hA3 hcl3 => ?_); conv => whnf) | (refine ldO (by assumption) (tab_ok _ _ (by rfl)) (by rfl) ?_; conv => whnf) | (refine key08_vc ?_; conv => whnf) | (refine CallVC.anchor [] _ en116 rfl (fun E w Y hE => passed08_vc (f := ⟨task, Ap, np, cp, path, fn, pc, Al, loc.length, cl, loc, As, stk.length, cs, stk, Ak, kids.length, ck, kids, many, spent, fail⟩) (m := 1) (ls := []) (hE.fr hfA) (by first | omega | rfl) (by show 1 ≤ stk.length; omega) hns ⟨.inl rfl, rfl, Nat.le_refl _, Nat.zero_le _⟩ (by decide) ⟨by show -1000000 ≤ pc; omega, by show pc ≤ 1000000; omega⟩ ⟨by show -1000000 ≤ spent; omega, by show spent ≤ 1000000; omega⟩ (fun A1 c1 hc1 hA1 => RetN.to _ rfl ?_)); conv => whnf) | (refine ia147 (by rfl) ?_; intro w4 X4; conv => whnf) | (refine idxF hc f0 f1 (fun b' o' hcl => ?_); conv => whnf) | (refine ldO (hcl 2 _ rfl) (tab_ok _ _ (by rfl)) (by rfl) ?_; conv => whnf) | (refine idxOG InsP.l 4 InsP.l_len (by omega) hir hil pc.toNat (by omega) hplt (fun b'' o'' hA hcl2 => ?_); rw [← hie] at hcl2; conv => whnf) | (refine ldsO [.int .i64 11, .int .i64 3, .int .i64 ib, .int .i64 ic] hcl2 (tab_ok _ _ (by rfl)) (by rfl) (by rfl) ?_; conv => whnf) | (refine ia114 (by rfl) ?_; intro w1 X1; conv => whnf) | (refine bsA el23 (by rfl) ?_; (conv => whnf); refine ⟨by rfl, fun bl => ?_⟩; conv => whnf) | (refine RetA.go ?_; conv => whnf) | (refine And.intro ?_ ?_ <;> conv => whnf) | (refine splitB.dec (fun hb => ?_) (fun hb => ?_) <;> first | (exfalso; omega) | (conv => whnf)) | (refine splitB.ndec (fun hb => ?_) (fun hb => ?_) <;> first | (exfalso; omega) | (conv => whnf)) | (refine splitB.eqI (fun hb => ?_) (fun hb => ?_) <;> first | (exfalso; omega) | (conv => whnf)) | (refine splitB.neI (fun hb => ?_) (fun hb => ?_) <;> first | (exfalso; omega) | (conv => whnf)))
  · refine it59 (args := [_, _]) (by rfl) ?_
    intro w2 X2
    dsimp only [FrP.l]
    conv => whnf
    repeat' (first | (refine JoinVC.go ?_; conv => whnf) | (refine RetA.go ?_; conv => whnf) | (exact RetT.drop (K := K) M (by repeat (first | exact List.Sublist.refl _ | refine List.Sublist.cons_cons _ ?_ | refine List.Sublist.cons _ ?_)) (he (by rw [hS]; repeat (first | refine (if_pos (by first | omega | assumption)).trans ?_ | refine (if_neg (by first | omega | assumption | (intro hh; rw [haw] at hh; cases hh))).trans ?_ | rfl | (simp [pfF, qp, q0Q, pairP]; done))))) | (exact RetT.drop (K := K) (((.slice A1 (stk.length - 1 + 0) c1, .row 3 1 (is (stk.take (stk.length - 1) ++ []))) : Value × DA) :: M) (by repeat (first | exact List.Sublist.refl _ | refine List.Sublist.cons_cons _ ?_ | refine List.Sublist.cons _ ?_)) (ha ⟨task, Ap, np, cp, path, fn, pc + 1, Al, loc.length, cl, loc, A1, stk.length - 1 + 0, c1, stk.take (stk.length - 1) ++ [], Ak, kids.length, ck, kids, many, spent + 1, fail⟩ (q0Q 3 0 0 4 ib (((stk.drop (stk.length - 1)).getD 0 0)) 0) [((.slice A1 (stk.length - 1 + 0) c1, .row 3 1 (is (stk.take (stk.length - 1) ++ []))) : Value × DA)] (by rw [hS]; (repeat (first | refine (if_pos (by omega)).trans ?_ | refine (if_neg (by omega)).trans ?_)); (simp only [wentA (j := 0) (m := 1) (by omega) (by omega : 1 ≤ stk.length), wentB (j := 1) (m := 1) (by omega) (by omega : 1 ≤ stk.length), if_true, Bool.false_eq_true, if_false, pfF, qp, q0Q, List.append_nil] <;> rfl)) (by show (3 : Int) ≠ 0; decide) ⟨rfl, ⟨rfl, rfl, rfl, rfl⟩, rfl, ⟨rfl, rfl, rfl, rfl⟩, rfl, .inl ⟨rfl, rfl, rfl, rfl⟩, .inr (List.Mem.head _)⟩ (.inl ⟨rfl, rfl, rfl, rfl⟩))) | (refine cutLoN (stk.length - 1) 1 (by exact (wrapI (by omega)).trans (by omega)) (by omega) ?_; conv => whnf) | (refine idxOI (topO hst (stk.length - 1) 1 (by omega)) 0 rfl (by decide) (fun b3 o3 hA3 hcl3 => ?_); conv => whnf) | (refine ldO (by assumption) (tab_ok _ _ (by rfl)) (by rfl) ?_; conv => whnf) | (refine key08_vc ?_; conv => whnf) | (refine CallVC.anchor [] _ en116 rfl (fun E w Y hE => passed08_vc (f := ⟨task, Ap, np, cp, path, fn, pc, Al, loc.length, cl, loc, As, stk.length, cs, stk, Ak, kids.length, ck, kids, many, spent, fail⟩) (m := 1) (ls := []) (hE.fr hfA) (by first | omega | rfl) (by show 1 ≤ stk.length; omega) hns ⟨.inl rfl, rfl, Nat.le_refl _, Nat.zero_le _⟩ (by decide) ⟨by show -1000000 ≤ pc; omega, by show pc ≤ 1000000; omega⟩ ⟨by show -1000000 ≤ spent; omega, by show spent ≤ 1000000; omega⟩ (fun A1 c1 hc1 hA1 => RetN.to _ rfl ?_)); conv => whnf) | (refine ia147 (by rfl) ?_; intro w4 X4; conv => whnf) | (refine idxF hc f0 f1 (fun b' o' hcl => ?_); conv => whnf) | (refine ldO (hcl 2 _ rfl) (tab_ok _ _ (by rfl)) (by rfl) ?_; conv => whnf) | (refine idxOG InsP.l 4 InsP.l_len (by omega) hir hil pc.toNat (by omega) hplt (fun b'' o'' hA hcl2 => ?_); rw [← hie] at hcl2; conv => whnf) | (refine ldsO [.int .i64 11, .int .i64 4, .int .i64 ib, .int .i64 ic] hcl2 (tab_ok _ _ (by rfl)) (by rfl) (by rfl) ?_; conv => whnf) | (refine ia114 (by rfl) ?_; intro w1 X1; conv => whnf) | (refine bsA el23 (by rfl) ?_; (conv => whnf); refine ⟨by rfl, fun bl => ?_⟩; conv => whnf) | (refine RetA.go ?_; conv => whnf) | (refine And.intro ?_ ?_ <;> conv => whnf) | (refine splitB.dec (fun hb => ?_) (fun hb => ?_) <;> first | (exfalso; omega) | (conv => whnf)) | (refine splitB.ndec (fun hb => ?_) (fun hb => ?_) <;> first | (exfalso; omega) | (conv => whnf)) | (refine splitB.eqI (fun hb => ?_) (fun hb => ?_) <;> first | (exfalso; omega) | (conv => whnf)) | (refine splitB.neI (fun hb => ?_) (fun hb => ?_) <;> first | (exfalso; omega) | (conv => whnf)))
  · refine it59 (args := [_, _]) (by rfl) ?_
    intro w2 X2
    dsimp only [FrP.l]
    conv => whnf
    repeat' (first | (refine JoinVC.go ?_; conv => whnf) | (refine RetA.go ?_; conv => whnf) | (exact RetT.drop (K := K) M (by repeat (first | exact List.Sublist.refl _ | refine List.Sublist.cons_cons _ ?_ | refine List.Sublist.cons _ ?_)) (he (by rw [hS]; repeat (first | refine (if_pos (by first | omega | assumption)).trans ?_ | refine (if_neg (by first | omega | assumption | (intro hh; rw [haw] at hh; cases hh))).trans ?_ | rfl | (simp [pfF, qp, q0Q, pairP]; done))))) | (exact RetT.drop (K := K) (((.slice A1 (stk.length - 0 + 0) c1, .row 3 1 (is (stk.take (stk.length - 0) ++ []))) : Value × DA) :: M) (by repeat (first | exact List.Sublist.refl _ | refine List.Sublist.cons_cons _ ?_ | refine List.Sublist.cons _ ?_)) (ha ⟨task, Ap, np, cp, path, fn, pc + 1, Al, loc.length, cl, loc, A1, stk.length - 0 + 0, c1, stk.take (stk.length - 0) ++ [], Ak, kids.length, ck, kids, many, spent + 1, fail⟩ (q0Q 3 0 0 5 ib (0) 0) [((.slice A1 (stk.length - 0 + 0) c1, .row 3 1 (is (stk.take (stk.length - 0) ++ []))) : Value × DA)] (by rw [hS]; (repeat (first | refine (if_pos (by omega)).trans ?_ | refine (if_neg (by omega)).trans ?_)); (simp only [wentB (j := 0) (m := 0) (by omega) (by omega : 0 ≤ stk.length), wentB (j := 1) (m := 0) (by omega) (by omega : 0 ≤ stk.length), if_true, Bool.false_eq_true, if_false, pfF, qp, q0Q, List.append_nil] <;> rfl)) (by show (3 : Int) ≠ 0; decide) ⟨rfl, ⟨rfl, rfl, rfl, rfl⟩, rfl, ⟨rfl, rfl, rfl, rfl⟩, rfl, .inl ⟨rfl, rfl, rfl, rfl⟩, .inr (List.Mem.head _)⟩ (.inl ⟨rfl, rfl, rfl, rfl⟩))) | (refine cutLoN (stk.length - 0) 0 (by exact (wrapI (by omega)).trans (by omega)) (by omega) ?_; conv => whnf) | (refine ldO (by assumption) (tab_ok _ _ (by rfl)) (by rfl) ?_; conv => whnf) | (refine key08_vc ?_; conv => whnf) | (refine CallVC.anchor [] _ en116 rfl (fun E w Y hE => passed08_vc (f := ⟨task, Ap, np, cp, path, fn, pc, Al, loc.length, cl, loc, As, stk.length, cs, stk, Ak, kids.length, ck, kids, many, spent, fail⟩) (m := 0) (ls := []) (hE.fr hfA) (by first | omega | rfl) (by show 0 ≤ stk.length; omega) hns ⟨.inl rfl, rfl, Nat.le_refl _, Nat.zero_le _⟩ (by decide) ⟨by show -1000000 ≤ pc; omega, by show pc ≤ 1000000; omega⟩ ⟨by show -1000000 ≤ spent; omega, by show spent ≤ 1000000; omega⟩ (fun A1 c1 hc1 hA1 => RetN.to _ rfl ?_)); conv => whnf) | (refine ia147 (by rfl) ?_; intro w4 X4; conv => whnf) | (refine idxF hc f0 f1 (fun b' o' hcl => ?_); conv => whnf) | (refine ldO (hcl 2 _ rfl) (tab_ok _ _ (by rfl)) (by rfl) ?_; conv => whnf) | (refine idxOG InsP.l 4 InsP.l_len (by omega) hir hil pc.toNat (by omega) hplt (fun b'' o'' hA hcl2 => ?_); rw [← hie] at hcl2; conv => whnf) | (refine ldsO [.int .i64 11, .int .i64 5, .int .i64 ib, .int .i64 ic] hcl2 (tab_ok _ _ (by rfl)) (by rfl) (by rfl) ?_; conv => whnf) | (refine ia114 (by rfl) ?_; intro w1 X1; conv => whnf) | (refine bsA el23 (by rfl) ?_; (conv => whnf); refine ⟨by rfl, fun bl => ?_⟩; conv => whnf) | (refine RetA.go ?_; conv => whnf) | (refine And.intro ?_ ?_ <;> conv => whnf) | (refine splitB.dec (fun hb => ?_) (fun hb => ?_) <;> first | (exfalso; omega) | (conv => whnf)) | (refine splitB.ndec (fun hb => ?_) (fun hb => ?_) <;> first | (exfalso; omega) | (conv => whnf)) | (refine splitB.eqI (fun hb => ?_) (fun hb => ?_) <;> first | (exfalso; omega) | (conv => whnf)) | (refine splitB.neI (fun hb => ?_) (fun hb => ?_) <;> first | (exfalso; omega) | (conv => whnf)))
  · refine it59 (args := [_, _]) (by rfl) ?_
    intro w2 X2
    dsimp only [FrP.l]
    conv => whnf
    repeat' (first | (refine JoinVC.go ?_; conv => whnf) | (refine RetA.go ?_; conv => whnf) | (exact RetT.drop (K := K) M (by repeat (first | exact List.Sublist.refl _ | refine List.Sublist.cons_cons _ ?_ | refine List.Sublist.cons _ ?_)) (he (by rw [hS]; repeat (first | refine (if_pos (by first | omega | assumption)).trans ?_ | refine (if_neg (by first | omega | assumption | (intro hh; rw [haw] at hh; cases hh))).trans ?_ | rfl | (simp [pfF, qp, q0Q, pairP]; done))))) | (exact RetT.drop (K := K) (((.slice A1 (stk.length - 1 + 0) c1, .row 3 1 (is (stk.take (stk.length - 1) ++ []))) : Value × DA) :: M) (by repeat (first | exact List.Sublist.refl _ | refine List.Sublist.cons_cons _ ?_ | refine List.Sublist.cons _ ?_)) (ha ⟨task, Ap, np, cp, path, fn, pc + 1, Al, loc.length, cl, loc, A1, stk.length - 1 + 0, c1, stk.take (stk.length - 1) ++ [], Ak, kids.length, ck, kids, many, spent + 1, fail⟩ (q0Q 3 0 0 6 ib (((stk.drop (stk.length - 1)).getD 0 0)) 0) [((.slice A1 (stk.length - 1 + 0) c1, .row 3 1 (is (stk.take (stk.length - 1) ++ []))) : Value × DA)] (by rw [hS]; (repeat (first | refine (if_pos (by omega)).trans ?_ | refine (if_neg (by omega)).trans ?_)); (simp only [wentA (j := 0) (m := 1) (by omega) (by omega : 1 ≤ stk.length), wentB (j := 1) (m := 1) (by omega) (by omega : 1 ≤ stk.length), if_true, Bool.false_eq_true, if_false, pfF, qp, q0Q, List.append_nil] <;> rfl)) (by show (3 : Int) ≠ 0; decide) ⟨rfl, ⟨rfl, rfl, rfl, rfl⟩, rfl, ⟨rfl, rfl, rfl, rfl⟩, rfl, .inl ⟨rfl, rfl, rfl, rfl⟩, .inr (List.Mem.head _)⟩ (.inl ⟨rfl, rfl, rfl, rfl⟩))) | (refine cutLoN (stk.length - 1) 1 (by exact (wrapI (by omega)).trans (by omega)) (by omega) ?_; conv => whnf) | (refine idxOI (topO hst (stk.length - 1) 1 (by omega)) 0 rfl (by decide) (fun b3 o3 hA3 hcl3 => ?_); conv => whnf) | (refine ldO (by assumption) (tab_ok _ _ (by rfl)) (by rfl) ?_; conv => whnf) | (refine key08_vc ?_; conv => whnf) | (refine CallVC.anchor [] _ en116 rfl (fun E w Y hE => passed08_vc (f := ⟨task, Ap, np, cp, path, fn, pc, Al, loc.length, cl, loc, As, stk.length, cs, stk, Ak, kids.length, ck, kids, many, spent, fail⟩) (m := 1) (ls := []) (hE.fr hfA) (by first | omega | rfl) (by show 1 ≤ stk.length; omega) hns ⟨.inl rfl, rfl, Nat.le_refl _, Nat.zero_le _⟩ (by decide) ⟨by show -1000000 ≤ pc; omega, by show pc ≤ 1000000; omega⟩ ⟨by show -1000000 ≤ spent; omega, by show spent ≤ 1000000; omega⟩ (fun A1 c1 hc1 hA1 => RetN.to _ rfl ?_)); conv => whnf) | (refine ia147 (by rfl) ?_; intro w4 X4; conv => whnf) | (refine idxF hc f0 f1 (fun b' o' hcl => ?_); conv => whnf) | (refine ldO (hcl 2 _ rfl) (tab_ok _ _ (by rfl)) (by rfl) ?_; conv => whnf) | (refine idxOG InsP.l 4 InsP.l_len (by omega) hir hil pc.toNat (by omega) hplt (fun b'' o'' hA hcl2 => ?_); rw [← hie] at hcl2; conv => whnf) | (refine ldsO [.int .i64 11, .int .i64 6, .int .i64 ib, .int .i64 ic] hcl2 (tab_ok _ _ (by rfl)) (by rfl) (by rfl) ?_; conv => whnf) | (refine ia114 (by rfl) ?_; intro w1 X1; conv => whnf) | (refine bsA el23 (by rfl) ?_; (conv => whnf); refine ⟨by rfl, fun bl => ?_⟩; conv => whnf) | (refine RetA.go ?_; conv => whnf) | (refine And.intro ?_ ?_ <;> conv => whnf) | (refine splitB.dec (fun hb => ?_) (fun hb => ?_) <;> first | (exfalso; omega) | (conv => whnf)) | (refine splitB.ndec (fun hb => ?_) (fun hb => ?_) <;> first | (exfalso; omega) | (conv => whnf)) | (refine splitB.eqI (fun hb => ?_) (fun hb => ?_) <;> first | (exfalso; omega) | (conv => whnf)) | (refine splitB.neI (fun hb => ?_) (fun hb => ?_) <;> first | (exfalso; omega) | (conv => whnf)))
  · refine it59 (args := [_, _]) (by rfl) ?_
    intro w2 X2
    dsimp only [FrP.l]
    conv => whnf
    repeat' (first | (refine JoinVC.go ?_; conv => whnf) | (refine RetA.go ?_; conv => whnf) | (exact RetT.drop (K := K) M (by repeat (first | exact List.Sublist.refl _ | refine List.Sublist.cons_cons _ ?_ | refine List.Sublist.cons _ ?_)) (he (by rw [hS]; repeat (first | refine (if_pos (by first | omega | assumption)).trans ?_ | refine (if_neg (by first | omega | assumption | (intro hh; rw [haw] at hh; cases hh))).trans ?_ | rfl | (simp [pfF, qp, q0Q, pairP]; done))))) | (exact RetT.drop (K := K) (((.slice A1 (stk.length - 0 + 0) c1, .row 3 1 (is (stk.take (stk.length - 0) ++ []))) : Value × DA) :: M) (by repeat (first | exact List.Sublist.refl _ | refine List.Sublist.cons_cons _ ?_ | refine List.Sublist.cons _ ?_)) (ha ⟨task, Ap, np, cp, path, fn, pc + 1, Al, loc.length, cl, loc, A1, stk.length - 0 + 0, c1, stk.take (stk.length - 0) ++ [], Ak, kids.length, ck, kids, many, spent + 1, fail⟩ (q0Q 3 0 0 7 ib (0) 0) [((.slice A1 (stk.length - 0 + 0) c1, .row 3 1 (is (stk.take (stk.length - 0) ++ []))) : Value × DA)] (by rw [hS]; (repeat (first | refine (if_pos (by omega)).trans ?_ | refine (if_neg (by omega)).trans ?_)); (simp only [wentB (j := 0) (m := 0) (by omega) (by omega : 0 ≤ stk.length), wentB (j := 1) (m := 0) (by omega) (by omega : 0 ≤ stk.length), if_true, Bool.false_eq_true, if_false, pfF, qp, q0Q, List.append_nil] <;> rfl)) (by show (3 : Int) ≠ 0; decide) ⟨rfl, ⟨rfl, rfl, rfl, rfl⟩, rfl, ⟨rfl, rfl, rfl, rfl⟩, rfl, .inl ⟨rfl, rfl, rfl, rfl⟩, .inr (List.Mem.head _)⟩ (.inl ⟨rfl, rfl, rfl, rfl⟩))) | (refine cutLoN (stk.length - 0) 0 (by exact (wrapI (by omega)).trans (by omega)) (by omega) ?_; conv => whnf) | (refine ldO (by assumption) (tab_ok _ _ (by rfl)) (by rfl) ?_; conv => whnf) | (refine key08_vc ?_; conv => whnf) | (refine CallVC.anchor [] _ en116 rfl (fun E w Y hE => passed08_vc (f := ⟨task, Ap, np, cp, path, fn, pc, Al, loc.length, cl, loc, As, stk.length, cs, stk, Ak, kids.length, ck, kids, many, spent, fail⟩) (m := 0) (ls := []) (hE.fr hfA) (by first | omega | rfl) (by show 0 ≤ stk.length; omega) hns ⟨.inl rfl, rfl, Nat.le_refl _, Nat.zero_le _⟩ (by decide) ⟨by show -1000000 ≤ pc; omega, by show pc ≤ 1000000; omega⟩ ⟨by show -1000000 ≤ spent; omega, by show spent ≤ 1000000; omega⟩ (fun A1 c1 hc1 hA1 => RetN.to _ rfl ?_)); conv => whnf) | (refine ia147 (by rfl) ?_; intro w4 X4; conv => whnf) | (refine idxF hc f0 f1 (fun b' o' hcl => ?_); conv => whnf) | (refine ldO (hcl 2 _ rfl) (tab_ok _ _ (by rfl)) (by rfl) ?_; conv => whnf) | (refine idxOG InsP.l 4 InsP.l_len (by omega) hir hil pc.toNat (by omega) hplt (fun b'' o'' hA hcl2 => ?_); rw [← hie] at hcl2; conv => whnf) | (refine ldsO [.int .i64 11, .int .i64 7, .int .i64 ib, .int .i64 ic] hcl2 (tab_ok _ _ (by rfl)) (by rfl) (by rfl) ?_; conv => whnf) | (refine ia114 (by rfl) ?_; intro w1 X1; conv => whnf) | (refine bsA el23 (by rfl) ?_; (conv => whnf); refine ⟨by rfl, fun bl => ?_⟩; conv => whnf) | (refine RetA.go ?_; conv => whnf) | (refine And.intro ?_ ?_ <;> conv => whnf) | (refine splitB.dec (fun hb => ?_) (fun hb => ?_) <;> first | (exfalso; omega) | (conv => whnf)) | (refine splitB.ndec (fun hb => ?_) (fun hb => ?_) <;> first | (exfalso; omega) | (conv => whnf)) | (refine splitB.eqI (fun hb => ?_) (fun hb => ?_) <;> first | (exfalso; omega) | (conv => whnf)) | (refine splitB.neI (fun hb => ?_) (fun hb => ?_) <;> first | (exfalso; omega) | (conv => whnf)))
  · refine it59 (args := [_, _]) (by rfl) ?_
    intro w2 X2
    dsimp only [FrP.l]
    conv => whnf
    repeat' (first | (refine JoinVC.go ?_; conv => whnf) | (refine RetA.go ?_; conv => whnf) | (exact RetT.drop (K := K) M (by repeat (first | exact List.Sublist.refl _ | refine List.Sublist.cons_cons _ ?_ | refine List.Sublist.cons _ ?_)) (he (by rw [hS]; repeat (first | refine (if_pos (by first | omega | assumption)).trans ?_ | refine (if_neg (by first | omega | assumption | (intro hh; rw [haw] at hh; cases hh))).trans ?_ | rfl | (simp [pfF, qp, q0Q, pairP]; done))))) | (refine ia147 (by rfl) ?_; intro w4 X4; conv => whnf) | (refine idxF hc f0 f1 (fun b' o' hcl => ?_); conv => whnf) | (refine ldO (hcl 2 _ rfl) (tab_ok _ _ (by rfl)) (by rfl) ?_; conv => whnf) | (refine idxOG InsP.l 4 InsP.l_len (by omega) hir hil pc.toNat (by omega) hplt (fun b'' o'' hA hcl2 => ?_); rw [← hie] at hcl2; conv => whnf) | (refine ldsO [.int .i64 11, .int .i64 ia, .int .i64 ib, .int .i64 ic] hcl2 (tab_ok _ _ (by rfl)) (by rfl) (by rfl) ?_; conv => whnf) | (refine ia114 (by rfl) ?_; intro w1 X1; conv => whnf) | (refine bsA el23 (by rfl) ?_; (conv => whnf); refine ⟨by rfl, fun bl => ?_⟩; conv => whnf) | (refine RetA.go ?_; conv => whnf) | (refine And.intro ?_ ?_ <;> conv => whnf) | (refine splitB.dec (fun hb => ?_) (fun hb => ?_) <;> first | (exfalso; omega) | (conv => whnf)) | (refine splitB.ndec (fun hb => ?_) (fun hb => ?_) <;> first | (exfalso; omega) | (conv => whnf)) | (refine splitB.eqI (fun hb => ?_) (fun hb => ?_) <;> first | (exfalso; omega) | (conv => whnf)) | (refine splitB.neI (fun hb => ?_) (fun hb => ?_) <;> first | (exfalso; omega) | (conv => whnf)))
end
end Go.Proofs.YtgaopcbjhepklaaGreat
/- The document's frames: a step (3). -/
namespace Go.Proofs.YtgaopcbjhepklaaGreat
open Go.RowKit
set_option linter.unusedSimpArgs false
set_option linter.unusedVariables false
set_option maxRecDepth 100000
section
variable {wA w0 : World} {X : Nat → Prop} {M : EL} {K : Value → Ctx → Prop} {Z : PanK}
set_option maxHeartbeats 8000000 in
theorem step08_8 {c : CodeP} {f : FrP} (hs : StepOk wA c f) (hop : (insAt (bodyAt c f.fn) f.pc).op = 8)
    (he : stp c f = .err 1 → K (.tuple #[.agg f.l.toArray, .agg (q0Q 0 0 0 0 0 0 0).l.toArray, .int .i64 1]) (CtxA wA w0 X M))
    (hg : ∀ f' M', stp c f = .go (pfF f') → Keep M' f f' → K (.tuple #[.agg f'.l.toArray, .agg (q0Q 0 0 0 0 0 0 0).l.toArray, .int .i64 0]) (CtxA wA w0 X (M' ++ M)))
    (ha : ∀ f' q M', stp c f = .ask (pfF f') (qp q) → q.kind ≠ 0 → Keep M' f f' → QKeep M' q → K (.tuple #[.agg f'.l.toArray, .agg q.l.toArray, .int .i64 0]) (CtxA wA w0 X (M' ++ M))) :
    CallVC Tryz.prog (CtxA wA w0 X M) 59 #[.agg c.l.toArray, .agg f.l.toArray] K Z := by
  obtain ⟨task, Ap, np, cp, path, fn, pc, Al, nl, cl, loc, As, ns, cs, stk, Ak, nk, ck, kids, many, spent, fail⟩ := f
  obtain ⟨hc, hf, f0, f1, p0, p1, hns, hvs, hsp⟩ := hs
  obtain ⟨hpa, hlo, hst, hki⟩ := hf
  have l1 := hlo.len
  have l2 := hst.len
  have l3 := hki.len
  have l4 := hlo.sm
  have l5 := hst.cap
  have hnf := hc.nf
  have hnm := hc.sm
  dsimp only at hop hpa hlo hst hki l1 l2 l3 l4 l5 f0 f1 p0 p1 hns hvs hsp
  subst l1 l2 l3
  have hflt : fn.toNat < c.funs.length := by omega
  have hbe := bodyAt_eq (c := c) hflt
  obtain ⟨hir, hil, him⟩ := hc.ins _ hflt
  rw [← hbe] at hir hil him
  rw [insL_flat] at hir
  have hplt : pc.toNat < (bodyAt c fn).ins.length := by omega
  have hie : insAt (bodyAt c fn) pc = (bodyAt c fn).ins[pc.toNat] := by simp [insAt, List.getD, hplt]
  have hS : stp c ⟨task, Ap, np, cp, path, fn, pc, Al, loc.length, cl, loc, As, stk.length, cs, stk, Ak, kids.length, ck, kids, many, spent, fail⟩ = instrP (kOf c ⟨task, Ap, np, cp, path, fn, pc, Al, loc.length, cl, loc, As, stk.length, cs, stk, Ak, kids.length, ck, kids, many, spent, fail⟩ none 0 none 0) (fun a => (bodyAt c a).args) ⟨pc, spent, fail, loc, stk⟩ (insAt (bodyAt c fn) pc) := stepP_in (by show ¬ spent = 2000; omega) ⟨p0, p1⟩ (by exact ⟨by show 1 ≤ (insAt (bodyAt c fn) pc).op; omega, by show (insAt (bodyAt c fn) pc).op < 20; omega⟩)
  generalize hii : insAt (bodyAt c fn) pc = ii at hop hie hS
  obtain ⟨op, ia, ib, ic⟩ := ii
  dsimp only at hop
  subst hop
  rw [instr_8 rfl] at hS
  dsimp only [PF.two, callP, PF.nx, PF.pop, PF.at_, kOf] at hS
  have hfA : FrOk wA ⟨task, Ap, np, cp, path, fn, pc, Al, loc.length, cl, loc, As, stk.length, cs, stk, Ak, kids.length, ck, kids, many, spent, fail⟩ := ⟨hpa, hlo, hst, hki⟩
  have hvd : valsB (stk.drop (stk.length - 2)) = true := List.all_eq_true.2 fun x hx => List.all_eq_true.1 hvs x (List.mem_of_mem_drop hx)
  refine it59 (args := [_, _]) (by rfl) ?_
  intro w2 X2
  dsimp only [FrP.l]
  conv => whnf
  repeat' (first | (refine JoinVC.go ?_; conv => whnf) | (refine RetA.go ?_; conv => whnf) | (exact RetT.drop (K := K) M (by repeat (first | exact List.Sublist.refl _ | refine List.Sublist.cons_cons _ ?_ | refine List.Sublist.cons _ ?_)) (he (by rw [hS]; repeat (first | refine (if_pos (by first | omega | assumption)).trans ?_ | refine (if_neg (by first | omega | assumption | (intro hh; rw [haw] at hh; cases hh))).trans ?_ | rfl | (simp [pfF, qp, q0Q, pairP]; done))))) | (exact RetT.drop (K := K) (((.slice A1 (stk.length - 2 + 1) c1, .row 3 1 (is (stk.take (stk.length - 2) ++ [pairP 8 ((stk.drop (stk.length - 2)).getD 0 0) ((stk.drop (stk.length - 2)).getD 1 0)]))) : Value × DA) :: M) (by repeat (first | exact List.Sublist.refl _ | refine List.Sublist.cons_cons _ ?_ | refine List.Sublist.cons _ ?_)) (hg ⟨task, Ap, np, cp, path, fn, pc + 1, Al, loc.length, cl, loc, A1, stk.length - 2 + 1, c1, stk.take (stk.length - 2) ++ [pairP 8 ((stk.drop (stk.length - 2)).getD 0 0) ((stk.drop (stk.length - 2)).getD 1 0)], Ak, kids.length, ck, kids, many, spent + 1, fail⟩ [((.slice A1 (stk.length - 2 + 1) c1, .row 3 1 (is (stk.take (stk.length - 2) ++ [pairP 8 ((stk.drop (stk.length - 2)).getD 0 0) ((stk.drop (stk.length - 2)).getD 1 0)]))) : Value × DA)] (by rw [hS]; repeat (first | refine (if_pos (by first | omega | assumption)).trans ?_ | refine (if_neg (by first | omega | assumption | (intro hh; rw [haw] at hh; cases hh))).trans ?_ | rfl | (simp [pfF, qp, q0Q, pairP]; done))) ⟨rfl, ⟨rfl, rfl, rfl, rfl⟩, rfl, ⟨rfl, rfl, rfl, rfl⟩, rfl, .inl ⟨rfl, rfl, rfl, rfl⟩, .inr (List.Mem.head _)⟩)) | (refine cutLoN (stk.length - 2) 2 (by exact (wrapI (by omega)).trans (by omega)) (by omega) ?_; conv => whnf) | (refine idxOI (topO hst (stk.length - 2) 2 (by omega)) 0 rfl (by decide) (fun b3 o3 hA3 hcl3 => ?_); conv => whnf) | (refine idxOI (topO hst (stk.length - 2) 2 (by omega)) 1 rfl (by decide) (fun b3 o3 hA3 hcl3 => ?_); conv => whnf) | (refine ldO (by assumption) (tab_ok _ _ (by rfl)) (by rfl) ?_; conv => whnf) | (refine pair08_vc (by decide) (vals_at hvd (by simp; omega)) (vals_at hvd (by simp; omega)) ?_; conv => whnf) | (refine CallVC.anchor [] _ en116 rfl (fun E w Y hE => passed08_vc (f := ⟨task, Ap, np, cp, path, fn, pc, Al, loc.length, cl, loc, As, stk.length, cs, stk, Ak, kids.length, ck, kids, many, spent, fail⟩) (m := 2) (ls := [pairP 8 ((stk.drop (stk.length - 2)).getD 0 0) ((stk.drop (stk.length - 2)).getD 1 0)]) (hE.fr hfA) (by first | omega | rfl) (by show 2 ≤ stk.length; omega) hns (hE.ownI (xs := [pairP 8 ((stk.drop (stk.length - 2)).getD 0 0) ((stk.drop (stk.length - 2)).getD 1 0)]) (List.Mem.head _) (by decide)) (by decide) ⟨by show -1000000 ≤ pc; omega, by show pc ≤ 1000000; omega⟩ ⟨by show -1000000 ≤ spent; omega, by show spent ≤ 1000000; omega⟩ (fun A1 c1 hc1 hA1 => RetN.to _ rfl ?_)); conv => whnf) | (refine idxF hc f0 f1 (fun b' o' hcl => ?_); conv => whnf) | (refine ldO (hcl 2 _ rfl) (tab_ok _ _ (by rfl)) (by rfl) ?_; conv => whnf) | (refine idxOG InsP.l 4 InsP.l_len (by omega) hir hil pc.toNat (by omega) hplt (fun b'' o'' hA hcl2 => ?_); rw [← hie] at hcl2; conv => whnf) | (refine ldsO [.int .i64 8, .int .i64 ia, .int .i64 ib, .int .i64 ic] hcl2 (tab_ok _ _ (by rfl)) (by rfl) (by rfl) ?_; conv => whnf) | (refine ia114 (by rfl) ?_; intro w1 X1; conv => whnf) | (refine awaits08_vc (f := ⟨task, Ap, np, cp, path, fn, pc, Al, loc.length, cl, loc, As, stk.length, cs, stk, Ak, kids.length, ck, kids, many, spent, fail⟩) hki (fun haw => ?_) (fun haw => ?_) <;> conv => whnf) | (refine is08_vc (fun hv => ?_) (fun hv => ?_) <;> simp only [valB, Bool.and_eq_true, decide_eq_true_eq, Bool.and_eq_false_imp, decide_eq_false_iff_not] at hv <;> conv => whnf) | (refine bsA el23 (by rfl) ?_; (conv => whnf); refine ⟨by rfl, fun bl => ?_⟩; conv => whnf) | (refine RetA.go ?_; conv => whnf) | (refine And.intro ?_ ?_ <;> conv => whnf) | (refine splitB.dec (fun hb => ?_) (fun hb => ?_) <;> first | (exfalso; omega) | (conv => whnf)) | (refine splitB.ndec (fun hb => ?_) (fun hb => ?_) <;> first | (exfalso; omega) | (conv => whnf)) | (refine splitB.eqI (fun hb => ?_) (fun hb => ?_) <;> first | (exfalso; omega) | (conv => whnf)) | (refine splitB.neI (fun hb => ?_) (fun hb => ?_) <;> first | (exfalso; omega) | (conv => whnf)))
set_option maxHeartbeats 8000000 in
theorem step08_9 {c : CodeP} {f : FrP} (hs : StepOk wA c f) (hop : (insAt (bodyAt c f.fn) f.pc).op = 9)
    (he : stp c f = .err 1 → K (.tuple #[.agg f.l.toArray, .agg (q0Q 0 0 0 0 0 0 0).l.toArray, .int .i64 1]) (CtxA wA w0 X M))
    (hg : ∀ f' M', stp c f = .go (pfF f') → Keep M' f f' → K (.tuple #[.agg f'.l.toArray, .agg (q0Q 0 0 0 0 0 0 0).l.toArray, .int .i64 0]) (CtxA wA w0 X (M' ++ M)))
    (ha : ∀ f' q M', stp c f = .ask (pfF f') (qp q) → q.kind ≠ 0 → Keep M' f f' → QKeep M' q → K (.tuple #[.agg f'.l.toArray, .agg q.l.toArray, .int .i64 0]) (CtxA wA w0 X (M' ++ M))) :
    CallVC Tryz.prog (CtxA wA w0 X M) 59 #[.agg c.l.toArray, .agg f.l.toArray] K Z := by
  obtain ⟨task, Ap, np, cp, path, fn, pc, Al, nl, cl, loc, As, ns, cs, stk, Ak, nk, ck, kids, many, spent, fail⟩ := f
  obtain ⟨hc, hf, f0, f1, p0, p1, hns, hvs, hsp⟩ := hs
  obtain ⟨hpa, hlo, hst, hki⟩ := hf
  have l1 := hlo.len
  have l2 := hst.len
  have l3 := hki.len
  have l4 := hlo.sm
  have l5 := hst.cap
  have hnf := hc.nf
  have hnm := hc.sm
  dsimp only at hop hpa hlo hst hki l1 l2 l3 l4 l5 f0 f1 p0 p1 hns hvs hsp
  subst l1 l2 l3
  have hflt : fn.toNat < c.funs.length := by omega
  have hbe := bodyAt_eq (c := c) hflt
  obtain ⟨hir, hil, him⟩ := hc.ins _ hflt
  rw [← hbe] at hir hil him
  rw [insL_flat] at hir
  have hplt : pc.toNat < (bodyAt c fn).ins.length := by omega
  have hie : insAt (bodyAt c fn) pc = (bodyAt c fn).ins[pc.toNat] := by simp [insAt, List.getD, hplt]
  have hS : stp c ⟨task, Ap, np, cp, path, fn, pc, Al, loc.length, cl, loc, As, stk.length, cs, stk, Ak, kids.length, ck, kids, many, spent, fail⟩ = instrP (kOf c ⟨task, Ap, np, cp, path, fn, pc, Al, loc.length, cl, loc, As, stk.length, cs, stk, Ak, kids.length, ck, kids, many, spent, fail⟩ none 0 none 0) (fun a => (bodyAt c a).args) ⟨pc, spent, fail, loc, stk⟩ (insAt (bodyAt c fn) pc) := stepP_in (by show ¬ spent = 2000; omega) ⟨p0, p1⟩ (by exact ⟨by show 1 ≤ (insAt (bodyAt c fn) pc).op; omega, by show (insAt (bodyAt c fn) pc).op < 20; omega⟩)
  generalize hii : insAt (bodyAt c fn) pc = ii at hop hie hS
  obtain ⟨op, ia, ib, ic⟩ := ii
  dsimp only at hop
  subst hop
  rw [instr_9 rfl] at hS
  dsimp only [PF.two, callP, PF.nx, PF.pop, PF.at_, kOf] at hS
  have hfA : FrOk wA ⟨task, Ap, np, cp, path, fn, pc, Al, loc.length, cl, loc, As, stk.length, cs, stk, Ak, kids.length, ck, kids, many, spent, fail⟩ := ⟨hpa, hlo, hst, hki⟩
  have hvd : valsB (stk.drop (stk.length - 2)) = true := List.all_eq_true.2 fun x hx => List.all_eq_true.1 hvs x (List.mem_of_mem_drop hx)
  refine it59 (args := [_, _]) (by rfl) ?_
  intro w2 X2
  dsimp only [FrP.l]
  conv => whnf
  repeat' (first | (refine JoinVC.go ?_; conv => whnf) | (refine RetA.go ?_; conv => whnf) | (exact RetT.drop (K := K) M (by repeat (first | exact List.Sublist.refl _ | refine List.Sublist.cons_cons _ ?_ | refine List.Sublist.cons _ ?_)) (he (by rw [hS]; repeat (first | refine (if_pos (by first | omega | assumption)).trans ?_ | refine (if_neg (by first | omega | assumption | (intro hh; rw [haw] at hh; cases hh))).trans ?_ | rfl | (simp [pfF, qp, q0Q, pairP]; done))))) | (exact RetT.drop (K := K) (((.slice A1 (stk.length - 2 + 1) c1, .row 3 1 (is (stk.take (stk.length - 2) ++ [pairP 9 ((stk.drop (stk.length - 2)).getD 0 0) ((stk.drop (stk.length - 2)).getD 1 0)]))) : Value × DA) :: M) (by repeat (first | exact List.Sublist.refl _ | refine List.Sublist.cons_cons _ ?_ | refine List.Sublist.cons _ ?_)) (hg ⟨task, Ap, np, cp, path, fn, pc + 1, Al, loc.length, cl, loc, A1, stk.length - 2 + 1, c1, stk.take (stk.length - 2) ++ [pairP 9 ((stk.drop (stk.length - 2)).getD 0 0) ((stk.drop (stk.length - 2)).getD 1 0)], Ak, kids.length, ck, kids, many, spent + 1, fail⟩ [((.slice A1 (stk.length - 2 + 1) c1, .row 3 1 (is (stk.take (stk.length - 2) ++ [pairP 9 ((stk.drop (stk.length - 2)).getD 0 0) ((stk.drop (stk.length - 2)).getD 1 0)]))) : Value × DA)] (by rw [hS]; repeat (first | refine (if_pos (by first | omega | assumption)).trans ?_ | refine (if_neg (by first | omega | assumption | (intro hh; rw [haw] at hh; cases hh))).trans ?_ | rfl | (simp [pfF, qp, q0Q, pairP]; done))) ⟨rfl, ⟨rfl, rfl, rfl, rfl⟩, rfl, ⟨rfl, rfl, rfl, rfl⟩, rfl, .inl ⟨rfl, rfl, rfl, rfl⟩, .inr (List.Mem.head _)⟩)) | (refine cutLoN (stk.length - 2) 2 (by exact (wrapI (by omega)).trans (by omega)) (by omega) ?_; conv => whnf) | (refine idxOI (topO hst (stk.length - 2) 2 (by omega)) 0 rfl (by decide) (fun b3 o3 hA3 hcl3 => ?_); conv => whnf) | (refine idxOI (topO hst (stk.length - 2) 2 (by omega)) 1 rfl (by decide) (fun b3 o3 hA3 hcl3 => ?_); conv => whnf) | (refine ldO (by assumption) (tab_ok _ _ (by rfl)) (by rfl) ?_; conv => whnf) | (refine pair08_vc (by decide) (vals_at hvd (by simp; omega)) (vals_at hvd (by simp; omega)) ?_; conv => whnf) | (refine CallVC.anchor [] _ en116 rfl (fun E w Y hE => passed08_vc (f := ⟨task, Ap, np, cp, path, fn, pc, Al, loc.length, cl, loc, As, stk.length, cs, stk, Ak, kids.length, ck, kids, many, spent, fail⟩) (m := 2) (ls := [pairP 9 ((stk.drop (stk.length - 2)).getD 0 0) ((stk.drop (stk.length - 2)).getD 1 0)]) (hE.fr hfA) (by first | omega | rfl) (by show 2 ≤ stk.length; omega) hns (hE.ownI (xs := [pairP 9 ((stk.drop (stk.length - 2)).getD 0 0) ((stk.drop (stk.length - 2)).getD 1 0)]) (List.Mem.head _) (by decide)) (by decide) ⟨by show -1000000 ≤ pc; omega, by show pc ≤ 1000000; omega⟩ ⟨by show -1000000 ≤ spent; omega, by show spent ≤ 1000000; omega⟩ (fun A1 c1 hc1 hA1 => RetN.to _ rfl ?_)); conv => whnf) | (refine idxF hc f0 f1 (fun b' o' hcl => ?_); conv => whnf) | (refine ldO (hcl 2 _ rfl) (tab_ok _ _ (by rfl)) (by rfl) ?_; conv => whnf) | (refine idxOG InsP.l 4 InsP.l_len (by omega) hir hil pc.toNat (by omega) hplt (fun b'' o'' hA hcl2 => ?_); rw [← hie] at hcl2; conv => whnf) | (refine ldsO [.int .i64 9, .int .i64 ia, .int .i64 ib, .int .i64 ic] hcl2 (tab_ok _ _ (by rfl)) (by rfl) (by rfl) ?_; conv => whnf) | (refine ia114 (by rfl) ?_; intro w1 X1; conv => whnf) | (refine awaits08_vc (f := ⟨task, Ap, np, cp, path, fn, pc, Al, loc.length, cl, loc, As, stk.length, cs, stk, Ak, kids.length, ck, kids, many, spent, fail⟩) hki (fun haw => ?_) (fun haw => ?_) <;> conv => whnf) | (refine is08_vc (fun hv => ?_) (fun hv => ?_) <;> simp only [valB, Bool.and_eq_true, decide_eq_true_eq, Bool.and_eq_false_imp, decide_eq_false_iff_not] at hv <;> conv => whnf) | (refine bsA el23 (by rfl) ?_; (conv => whnf); refine ⟨by rfl, fun bl => ?_⟩; conv => whnf) | (refine RetA.go ?_; conv => whnf) | (refine And.intro ?_ ?_ <;> conv => whnf) | (refine splitB.dec (fun hb => ?_) (fun hb => ?_) <;> first | (exfalso; omega) | (conv => whnf)) | (refine splitB.ndec (fun hb => ?_) (fun hb => ?_) <;> first | (exfalso; omega) | (conv => whnf)) | (refine splitB.eqI (fun hb => ?_) (fun hb => ?_) <;> first | (exfalso; omega) | (conv => whnf)) | (refine splitB.neI (fun hb => ?_) (fun hb => ?_) <;> first | (exfalso; omega) | (conv => whnf)))
set_option maxHeartbeats 8000000 in
theorem step08_10 {c : CodeP} {f : FrP} (hs : StepOk wA c f) (hop : (insAt (bodyAt c f.fn) f.pc).op = 10)
    (he : stp c f = .err 1 → K (.tuple #[.agg f.l.toArray, .agg (q0Q 0 0 0 0 0 0 0).l.toArray, .int .i64 1]) (CtxA wA w0 X M))
    (hg : ∀ f' M', stp c f = .go (pfF f') → Keep M' f f' → K (.tuple #[.agg f'.l.toArray, .agg (q0Q 0 0 0 0 0 0 0).l.toArray, .int .i64 0]) (CtxA wA w0 X (M' ++ M)))
    (ha : ∀ f' q M', stp c f = .ask (pfF f') (qp q) → q.kind ≠ 0 → Keep M' f f' → QKeep M' q → K (.tuple #[.agg f'.l.toArray, .agg q.l.toArray, .int .i64 0]) (CtxA wA w0 X (M' ++ M))) :
    CallVC Tryz.prog (CtxA wA w0 X M) 59 #[.agg c.l.toArray, .agg f.l.toArray] K Z := by
  obtain ⟨task, Ap, np, cp, path, fn, pc, Al, nl, cl, loc, As, ns, cs, stk, Ak, nk, ck, kids, many, spent, fail⟩ := f
  obtain ⟨hc, hf, f0, f1, p0, p1, hns, hvs, hsp⟩ := hs
  obtain ⟨hpa, hlo, hst, hki⟩ := hf
  have l1 := hlo.len
  have l2 := hst.len
  have l3 := hki.len
  have l4 := hlo.sm
  have l5 := hst.cap
  have hnf := hc.nf
  have hnm := hc.sm
  dsimp only at hop hpa hlo hst hki l1 l2 l3 l4 l5 f0 f1 p0 p1 hns hvs hsp
  subst l1 l2 l3
  have hflt : fn.toNat < c.funs.length := by omega
  have hbe := bodyAt_eq (c := c) hflt
  obtain ⟨hir, hil, him⟩ := hc.ins _ hflt
  rw [← hbe] at hir hil him
  rw [insL_flat] at hir
  have hplt : pc.toNat < (bodyAt c fn).ins.length := by omega
  have hie : insAt (bodyAt c fn) pc = (bodyAt c fn).ins[pc.toNat] := by simp [insAt, List.getD, hplt]
  have hS : stp c ⟨task, Ap, np, cp, path, fn, pc, Al, loc.length, cl, loc, As, stk.length, cs, stk, Ak, kids.length, ck, kids, many, spent, fail⟩ = instrP (kOf c ⟨task, Ap, np, cp, path, fn, pc, Al, loc.length, cl, loc, As, stk.length, cs, stk, Ak, kids.length, ck, kids, many, spent, fail⟩ none 0 none 0) (fun a => (bodyAt c a).args) ⟨pc, spent, fail, loc, stk⟩ (insAt (bodyAt c fn) pc) := stepP_in (by show ¬ spent = 2000; omega) ⟨p0, p1⟩ (by exact ⟨by show 1 ≤ (insAt (bodyAt c fn) pc).op; omega, by show (insAt (bodyAt c fn) pc).op < 20; omega⟩)
  generalize hii : insAt (bodyAt c fn) pc = ii at hop hie hS
  obtain ⟨op, ia, ib, ic⟩ := ii
  dsimp only at hop
  subst hop
  rw [instr_10 rfl] at hS
  dsimp only [PF.two, callP, PF.nx, PF.pop, PF.at_, kOf] at hS
  have hfA : FrOk wA ⟨task, Ap, np, cp, path, fn, pc, Al, loc.length, cl, loc, As, stk.length, cs, stk, Ak, kids.length, ck, kids, many, spent, fail⟩ := ⟨hpa, hlo, hst, hki⟩
  have hvd : valsB (stk.drop (stk.length - 2)) = true := List.all_eq_true.2 fun x hx => List.all_eq_true.1 hvs x (List.mem_of_mem_drop hx)
  refine it59 (args := [_, _]) (by rfl) ?_
  intro w2 X2
  dsimp only [FrP.l]
  conv => whnf
  repeat' (first | (refine JoinVC.go ?_; conv => whnf) | (refine RetA.go ?_; conv => whnf) | (exact RetT.drop (K := K) M (by repeat (first | exact List.Sublist.refl _ | refine List.Sublist.cons_cons _ ?_ | refine List.Sublist.cons _ ?_)) (he (by rw [hS]; repeat (first | refine (if_pos (by first | omega | assumption)).trans ?_ | refine (if_neg (by first | omega | assumption | (intro hh; rw [haw] at hh; cases hh))).trans ?_ | rfl | (simp [pfF, qp, q0Q, pairP]; done))))) | (exact RetT.drop (K := K) (((.slice A1 (stk.length - 2 + 1) c1, .row 3 1 (is (stk.take (stk.length - 2) ++ [pairP 10 ((stk.drop (stk.length - 2)).getD 0 0) ((stk.drop (stk.length - 2)).getD 1 0)]))) : Value × DA) :: M) (by repeat (first | exact List.Sublist.refl _ | refine List.Sublist.cons_cons _ ?_ | refine List.Sublist.cons _ ?_)) (hg ⟨task, Ap, np, cp, path, fn, pc + 1, Al, loc.length, cl, loc, A1, stk.length - 2 + 1, c1, stk.take (stk.length - 2) ++ [pairP 10 ((stk.drop (stk.length - 2)).getD 0 0) ((stk.drop (stk.length - 2)).getD 1 0)], Ak, kids.length, ck, kids, many, spent + 1, fail⟩ [((.slice A1 (stk.length - 2 + 1) c1, .row 3 1 (is (stk.take (stk.length - 2) ++ [pairP 10 ((stk.drop (stk.length - 2)).getD 0 0) ((stk.drop (stk.length - 2)).getD 1 0)]))) : Value × DA)] (by rw [hS]; repeat (first | refine (if_pos (by first | omega | assumption)).trans ?_ | refine (if_neg (by first | omega | assumption | (intro hh; rw [haw] at hh; cases hh))).trans ?_ | rfl | (simp [pfF, qp, q0Q, pairP]; done))) ⟨rfl, ⟨rfl, rfl, rfl, rfl⟩, rfl, ⟨rfl, rfl, rfl, rfl⟩, rfl, .inl ⟨rfl, rfl, rfl, rfl⟩, .inr (List.Mem.head _)⟩)) | (refine cutLoN (stk.length - 2) 2 (by exact (wrapI (by omega)).trans (by omega)) (by omega) ?_; conv => whnf) | (refine idxOI (topO hst (stk.length - 2) 2 (by omega)) 0 rfl (by decide) (fun b3 o3 hA3 hcl3 => ?_); conv => whnf) | (refine idxOI (topO hst (stk.length - 2) 2 (by omega)) 1 rfl (by decide) (fun b3 o3 hA3 hcl3 => ?_); conv => whnf) | (refine ldO (by assumption) (tab_ok _ _ (by rfl)) (by rfl) ?_; conv => whnf) | (refine pair08_vc (by decide) (vals_at hvd (by simp; omega)) (vals_at hvd (by simp; omega)) ?_; conv => whnf) | (refine CallVC.anchor [] _ en116 rfl (fun E w Y hE => passed08_vc (f := ⟨task, Ap, np, cp, path, fn, pc, Al, loc.length, cl, loc, As, stk.length, cs, stk, Ak, kids.length, ck, kids, many, spent, fail⟩) (m := 2) (ls := [pairP 10 ((stk.drop (stk.length - 2)).getD 0 0) ((stk.drop (stk.length - 2)).getD 1 0)]) (hE.fr hfA) (by first | omega | rfl) (by show 2 ≤ stk.length; omega) hns (hE.ownI (xs := [pairP 10 ((stk.drop (stk.length - 2)).getD 0 0) ((stk.drop (stk.length - 2)).getD 1 0)]) (List.Mem.head _) (by decide)) (by decide) ⟨by show -1000000 ≤ pc; omega, by show pc ≤ 1000000; omega⟩ ⟨by show -1000000 ≤ spent; omega, by show spent ≤ 1000000; omega⟩ (fun A1 c1 hc1 hA1 => RetN.to _ rfl ?_)); conv => whnf) | (refine idxF hc f0 f1 (fun b' o' hcl => ?_); conv => whnf) | (refine ldO (hcl 2 _ rfl) (tab_ok _ _ (by rfl)) (by rfl) ?_; conv => whnf) | (refine idxOG InsP.l 4 InsP.l_len (by omega) hir hil pc.toNat (by omega) hplt (fun b'' o'' hA hcl2 => ?_); rw [← hie] at hcl2; conv => whnf) | (refine ldsO [.int .i64 10, .int .i64 ia, .int .i64 ib, .int .i64 ic] hcl2 (tab_ok _ _ (by rfl)) (by rfl) (by rfl) ?_; conv => whnf) | (refine ia114 (by rfl) ?_; intro w1 X1; conv => whnf) | (refine awaits08_vc (f := ⟨task, Ap, np, cp, path, fn, pc, Al, loc.length, cl, loc, As, stk.length, cs, stk, Ak, kids.length, ck, kids, many, spent, fail⟩) hki (fun haw => ?_) (fun haw => ?_) <;> conv => whnf) | (refine is08_vc (fun hv => ?_) (fun hv => ?_) <;> simp only [valB, Bool.and_eq_true, decide_eq_true_eq, Bool.and_eq_false_imp, decide_eq_false_iff_not] at hv <;> conv => whnf) | (refine bsA el23 (by rfl) ?_; (conv => whnf); refine ⟨by rfl, fun bl => ?_⟩; conv => whnf) | (refine RetA.go ?_; conv => whnf) | (refine And.intro ?_ ?_ <;> conv => whnf) | (refine splitB.dec (fun hb => ?_) (fun hb => ?_) <;> first | (exfalso; omega) | (conv => whnf)) | (refine splitB.ndec (fun hb => ?_) (fun hb => ?_) <;> first | (exfalso; omega) | (conv => whnf)) | (refine splitB.eqI (fun hb => ?_) (fun hb => ?_) <;> first | (exfalso; omega) | (conv => whnf)) | (refine splitB.neI (fun hb => ?_) (fun hb => ?_) <;> first | (exfalso; omega) | (conv => whnf)))
set_option maxHeartbeats 8000000 in
theorem step08_12 {c : CodeP} {f : FrP} (hs : StepOk wA c f) (hop : (insAt (bodyAt c f.fn) f.pc).op = 12)
    (he : stp c f = .err 1 → K (.tuple #[.agg f.l.toArray, .agg (q0Q 0 0 0 0 0 0 0).l.toArray, .int .i64 1]) (CtxA wA w0 X M))
    (hg : ∀ f' M', stp c f = .go (pfF f') → Keep M' f f' → K (.tuple #[.agg f'.l.toArray, .agg (q0Q 0 0 0 0 0 0 0).l.toArray, .int .i64 0]) (CtxA wA w0 X (M' ++ M)))
    (ha : ∀ f' q M', stp c f = .ask (pfF f') (qp q) → q.kind ≠ 0 → Keep M' f f' → QKeep M' q → K (.tuple #[.agg f'.l.toArray, .agg q.l.toArray, .int .i64 0]) (CtxA wA w0 X (M' ++ M))) :
    CallVC Tryz.prog (CtxA wA w0 X M) 59 #[.agg c.l.toArray, .agg f.l.toArray] K Z := by
  obtain ⟨task, Ap, np, cp, path, fn, pc, Al, nl, cl, loc, As, ns, cs, stk, Ak, nk, ck, kids, many, spent, fail⟩ := f
  obtain ⟨hc, hf, f0, f1, p0, p1, hns, hvs, hsp⟩ := hs
  obtain ⟨hpa, hlo, hst, hki⟩ := hf
  have l1 := hlo.len
  have l2 := hst.len
  have l3 := hki.len
  have l4 := hlo.sm
  have l5 := hst.cap
  have hnf := hc.nf
  have hnm := hc.sm
  dsimp only at hop hpa hlo hst hki l1 l2 l3 l4 l5 f0 f1 p0 p1 hns hvs hsp
  subst l1 l2 l3
  have hflt : fn.toNat < c.funs.length := by omega
  have hbe := bodyAt_eq (c := c) hflt
  obtain ⟨hir, hil, him⟩ := hc.ins _ hflt
  rw [← hbe] at hir hil him
  rw [insL_flat] at hir
  have hplt : pc.toNat < (bodyAt c fn).ins.length := by omega
  have hie : insAt (bodyAt c fn) pc = (bodyAt c fn).ins[pc.toNat] := by simp [insAt, List.getD, hplt]
  have hS : stp c ⟨task, Ap, np, cp, path, fn, pc, Al, loc.length, cl, loc, As, stk.length, cs, stk, Ak, kids.length, ck, kids, many, spent, fail⟩ = instrP (kOf c ⟨task, Ap, np, cp, path, fn, pc, Al, loc.length, cl, loc, As, stk.length, cs, stk, Ak, kids.length, ck, kids, many, spent, fail⟩ none 0 none 0) (fun a => (bodyAt c a).args) ⟨pc, spent, fail, loc, stk⟩ (insAt (bodyAt c fn) pc) := stepP_in (by show ¬ spent = 2000; omega) ⟨p0, p1⟩ (by exact ⟨by show 1 ≤ (insAt (bodyAt c fn) pc).op; omega, by show (insAt (bodyAt c fn) pc).op < 20; omega⟩)
  generalize hii : insAt (bodyAt c fn) pc = ii at hop hie hS
  obtain ⟨op, ia, ib, ic⟩ := ii
  dsimp only at hop
  subst hop
  rw [instr_12 rfl] at hS
  dsimp only [PF.two, callP, PF.nx, PF.pop, PF.at_, kOf] at hS
  have hfA : FrOk wA ⟨task, Ap, np, cp, path, fn, pc, Al, loc.length, cl, loc, As, stk.length, cs, stk, Ak, kids.length, ck, kids, many, spent, fail⟩ := ⟨hpa, hlo, hst, hki⟩
  refine it59 (args := [_, _]) (by rfl) ?_
  intro w2 X2
  dsimp only [FrP.l]
  conv => whnf
  repeat' (first | (refine JoinVC.go ?_; conv => whnf) | (refine RetA.go ?_; conv => whnf) | (exact RetT.drop (K := K) M (by repeat (first | exact List.Sublist.refl _ | refine List.Sublist.cons_cons _ ?_ | refine List.Sublist.cons _ ?_)) (he (by rw [hS]; repeat (first | refine (if_pos (by first | omega | assumption)).trans ?_ | refine (if_neg (by first | omega | assumption | (intro hh; rw [haw] at hh; cases hh))).trans ?_ | rfl | (simp [pfF, qp, q0Q, pairP]; done))))) | (exact RetT.drop (K := K) (((.slice A1 (stk.length - 1 + 0) c1, .row 3 1 (is (stk.take (stk.length - 1) ++ []))) : Value × DA) :: M) (by repeat (first | exact List.Sublist.refl _ | refine List.Sublist.cons_cons _ ?_ | refine List.Sublist.cons _ ?_)) (hg ⟨task, Ap, np, cp, path, fn, pc + 1, Al, loc.length, cl, loc, A1, stk.length - 1 + 0, c1, stk.take (stk.length - 1) ++ [], Ak, kids.length, ck, kids, many, spent + 1, fail⟩ [((.slice A1 (stk.length - 1 + 0) c1, .row 3 1 (is (stk.take (stk.length - 1) ++ []))) : Value × DA)] (by rw [hS]; repeat (first | refine (if_pos (by first | omega | assumption)).trans ?_ | refine (if_neg (by first | omega | assumption | (intro hh; rw [haw] at hh; cases hh))).trans ?_ | rfl | (simp [pfF, qp, q0Q, pairP]; done))) ⟨rfl, ⟨rfl, rfl, rfl, rfl⟩, rfl, ⟨rfl, rfl, rfl, rfl⟩, rfl, .inl ⟨rfl, rfl, rfl, rfl⟩, .inr (List.Mem.head _)⟩)) | (refine cutLoN (stk.length - 1) 1 (by exact (wrapI (by omega)).trans (by omega)) (by omega) ?_; conv => whnf) | (refine CallVC.anchor [] _ en116 rfl (fun E w Y hE => passed08_vc (f := ⟨task, Ap, np, cp, path, fn, pc, Al, loc.length, cl, loc, As, stk.length, cs, stk, Ak, kids.length, ck, kids, many, spent, fail⟩) (m := 1) (ls := []) (hE.fr hfA) (by first | omega | rfl) (by show 1 ≤ stk.length; omega) hns ⟨.inl rfl, rfl, Nat.le_refl _, Nat.zero_le _⟩ (by decide) ⟨by show -1000000 ≤ pc; omega, by show pc ≤ 1000000; omega⟩ ⟨by show -1000000 ≤ spent; omega, by show spent ≤ 1000000; omega⟩ (fun A1 c1 hc1 hA1 => RetN.to _ rfl ?_)); conv => whnf) | (refine idxF hc f0 f1 (fun b' o' hcl => ?_); conv => whnf) | (refine ldO (hcl 2 _ rfl) (tab_ok _ _ (by rfl)) (by rfl) ?_; conv => whnf) | (refine idxOG InsP.l 4 InsP.l_len (by omega) hir hil pc.toNat (by omega) hplt (fun b'' o'' hA hcl2 => ?_); rw [← hie] at hcl2; conv => whnf) | (refine ldsO [.int .i64 12, .int .i64 ia, .int .i64 ib, .int .i64 ic] hcl2 (tab_ok _ _ (by rfl)) (by rfl) (by rfl) ?_; conv => whnf) | (refine ia114 (by rfl) ?_; intro w1 X1; conv => whnf) | (refine awaits08_vc (f := ⟨task, Ap, np, cp, path, fn, pc, Al, loc.length, cl, loc, As, stk.length, cs, stk, Ak, kids.length, ck, kids, many, spent, fail⟩) hki (fun haw => ?_) (fun haw => ?_) <;> conv => whnf) | (refine is08_vc (fun hv => ?_) (fun hv => ?_) <;> simp only [valB, Bool.and_eq_true, decide_eq_true_eq, Bool.and_eq_false_imp, decide_eq_false_iff_not] at hv <;> conv => whnf) | (refine bsA el23 (by rfl) ?_; (conv => whnf); refine ⟨by rfl, fun bl => ?_⟩; conv => whnf) | (refine RetA.go ?_; conv => whnf) | (refine And.intro ?_ ?_ <;> conv => whnf) | (refine splitB.dec (fun hb => ?_) (fun hb => ?_) <;> first | (exfalso; omega) | (conv => whnf)) | (refine splitB.ndec (fun hb => ?_) (fun hb => ?_) <;> first | (exfalso; omega) | (conv => whnf)) | (refine splitB.eqI (fun hb => ?_) (fun hb => ?_) <;> first | (exfalso; omega) | (conv => whnf)) | (refine splitB.neI (fun hb => ?_) (fun hb => ?_) <;> first | (exfalso; omega) | (conv => whnf)))
set_option maxHeartbeats 8000000 in
theorem step08_13 {c : CodeP} {f : FrP} (hs : StepOk wA c f) (hop : (insAt (bodyAt c f.fn) f.pc).op = 13)
    (he : stp c f = .err 1 → K (.tuple #[.agg f.l.toArray, .agg (q0Q 0 0 0 0 0 0 0).l.toArray, .int .i64 1]) (CtxA wA w0 X M))
    (hg : ∀ f' M', stp c f = .go (pfF f') → Keep M' f f' → K (.tuple #[.agg f'.l.toArray, .agg (q0Q 0 0 0 0 0 0 0).l.toArray, .int .i64 0]) (CtxA wA w0 X (M' ++ M)))
    (ha : ∀ f' q M', stp c f = .ask (pfF f') (qp q) → q.kind ≠ 0 → Keep M' f f' → QKeep M' q → K (.tuple #[.agg f'.l.toArray, .agg q.l.toArray, .int .i64 0]) (CtxA wA w0 X (M' ++ M))) :
    CallVC Tryz.prog (CtxA wA w0 X M) 59 #[.agg c.l.toArray, .agg f.l.toArray] K Z := by
  obtain ⟨task, Ap, np, cp, path, fn, pc, Al, nl, cl, loc, As, ns, cs, stk, Ak, nk, ck, kids, many, spent, fail⟩ := f
  obtain ⟨hc, hf, f0, f1, p0, p1, hns, hvs, hsp⟩ := hs
  obtain ⟨hpa, hlo, hst, hki⟩ := hf
  have l1 := hlo.len
  have l2 := hst.len
  have l3 := hki.len
  have l4 := hlo.sm
  have l5 := hst.cap
  have hnf := hc.nf
  have hnm := hc.sm
  dsimp only at hop hpa hlo hst hki l1 l2 l3 l4 l5 f0 f1 p0 p1 hns hvs hsp
  subst l1 l2 l3
  have hflt : fn.toNat < c.funs.length := by omega
  have hbe := bodyAt_eq (c := c) hflt
  obtain ⟨hir, hil, him⟩ := hc.ins _ hflt
  rw [← hbe] at hir hil him
  rw [insL_flat] at hir
  have hplt : pc.toNat < (bodyAt c fn).ins.length := by omega
  have hie : insAt (bodyAt c fn) pc = (bodyAt c fn).ins[pc.toNat] := by simp [insAt, List.getD, hplt]
  have hS : stp c ⟨task, Ap, np, cp, path, fn, pc, Al, loc.length, cl, loc, As, stk.length, cs, stk, Ak, kids.length, ck, kids, many, spent, fail⟩ = instrP (kOf c ⟨task, Ap, np, cp, path, fn, pc, Al, loc.length, cl, loc, As, stk.length, cs, stk, Ak, kids.length, ck, kids, many, spent, fail⟩ none 0 none 0) (fun a => (bodyAt c a).args) ⟨pc, spent, fail, loc, stk⟩ (insAt (bodyAt c fn) pc) := stepP_in (by show ¬ spent = 2000; omega) ⟨p0, p1⟩ (by exact ⟨by show 1 ≤ (insAt (bodyAt c fn) pc).op; omega, by show (insAt (bodyAt c fn) pc).op < 20; omega⟩)
  generalize hii : insAt (bodyAt c fn) pc = ii at hop hie hS
  obtain ⟨op, ia, ib, ic⟩ := ii
  dsimp only at hop
  subst hop
  rw [instr_13 rfl] at hS
  dsimp only [PF.two, callP, PF.nx, PF.pop, PF.at_, kOf] at hS
  have hfA : FrOk wA ⟨task, Ap, np, cp, path, fn, pc, Al, loc.length, cl, loc, As, stk.length, cs, stk, Ak, kids.length, ck, kids, many, spent, fail⟩ := ⟨hpa, hlo, hst, hki⟩
  refine it59 (args := [_, _]) (by rfl) ?_
  intro w2 X2
  dsimp only [FrP.l]
  conv => whnf
  repeat' (first | (refine ldO (hcl9 0 _ rfl) (tab_ok _ _ (by rfl)) (by rfl) ?_; conv => whnf) | (refine JoinVC.go ?_; conv => whnf) | (refine RetA.go ?_; conv => whnf) | (exact RetT.drop (K := K) M (by repeat (first | exact List.Sublist.refl _ | refine List.Sublist.cons_cons _ ?_ | refine List.Sublist.cons _ ?_)) (he (by rw [hS]; repeat (first | refine (if_pos (by first | omega | assumption)).trans ?_ | refine (if_neg (by first | omega | assumption | (intro hh; rw [haw] at hh; cases hh))).trans ?_ | rfl | (simp [pfF, qp, q0Q, pairP]; done))))) | (refine RetT.drop (K := K) (((.slice A1 (stk.length - ib.toNat + 0) c1, .row 3 1 (is (stk.take (stk.length - ib.toNat) ++ []))) : Value × DA) :: ((.slice A2 ib.toNat c2, .row 3 1 (is (stk.drop (stk.length - ib.toNat)))) : Value × DA) :: M) ?_ ?_; rotate_left; exact (ha ⟨task, Ap, np, cp, path, fn, pc + 1, Al, loc.length, cl, loc, A1, stk.length - ib.toNat + 0, c1, stk.take (stk.length - ib.toNat) ++ [], Ak, kids.length, ck, kids, many, spent + 1, fail⟩ (⟨4, ia, ic, 0, 0, 0, 0, A2, ib.toNat, c2, stk.drop (stk.length - ib.toNat)⟩ : QV) [((.slice A1 (stk.length - ib.toNat + 0) c1, .row 3 1 (is (stk.take (stk.length - ib.toNat) ++ []))) : Value × DA), ((.slice A2 ib.toNat c2, .row 3 1 (is (stk.drop (stk.length - ib.toNat)))) : Value × DA)] (by rw [hS]; repeat (first | refine (if_pos (by first | omega | assumption)).trans ?_ | refine (if_neg (by first | omega | assumption | (intro hh; rw [haw] at hh; cases hh))).trans ?_ | rfl | (simp [pfF, qp, q0Q, pairP]; done))) (by show (4 : Int) ≠ 0; decide) ⟨rfl, ⟨rfl, rfl, rfl, rfl⟩, rfl, ⟨rfl, rfl, rfl, rfl⟩, rfl, .inl ⟨rfl, rfl, rfl, rfl⟩, .inr (by repeat (first | exact List.Mem.head _ | refine List.Mem.tail _ ?_))⟩ (.inr (by repeat (first | exact List.Mem.head _ | refine List.Mem.tail _ ?_)))); (repeat (first | exact List.Sublist.refl _ | refine List.Sublist.cons_cons _ ?_ | refine List.Sublist.cons _ ?_)); done) | (refine RetT.drop (K := K) (((.slice A2 ib.toNat c2, .row 3 1 (is (stk.drop (stk.length - ib.toNat)))) : Value × DA) :: ((.slice A1 (stk.length - ib.toNat + 0) c1, .row 3 1 (is (stk.take (stk.length - ib.toNat) ++ []))) : Value × DA) :: M) ?_ ?_; rotate_left; exact (ha ⟨task, Ap, np, cp, path, fn, pc + 1, Al, loc.length, cl, loc, A1, stk.length - ib.toNat + 0, c1, stk.take (stk.length - ib.toNat) ++ [], Ak, kids.length, ck, kids, many, spent + 1, fail⟩ (⟨4, ia, ic, 0, 0, 0, 0, A2, ib.toNat, c2, stk.drop (stk.length - ib.toNat)⟩ : QV) [((.slice A2 ib.toNat c2, .row 3 1 (is (stk.drop (stk.length - ib.toNat)))) : Value × DA), ((.slice A1 (stk.length - ib.toNat + 0) c1, .row 3 1 (is (stk.take (stk.length - ib.toNat) ++ []))) : Value × DA)] (by rw [hS]; repeat (first | refine (if_pos (by first | omega | assumption)).trans ?_ | refine (if_neg (by first | omega | assumption | (intro hh; rw [haw] at hh; cases hh))).trans ?_ | rfl | (simp [pfF, qp, q0Q, pairP]; done))) (by show (4 : Int) ≠ 0; decide) ⟨rfl, ⟨rfl, rfl, rfl, rfl⟩, rfl, ⟨rfl, rfl, rfl, rfl⟩, rfl, .inl ⟨rfl, rfl, rfl, rfl⟩, .inr (by repeat (first | exact List.Mem.head _ | refine List.Mem.tail _ ?_))⟩ (.inr (by repeat (first | exact List.Mem.head _ | refine List.Mem.tail _ ?_)))); (repeat (first | exact List.Sublist.refl _ | refine List.Sublist.cons_cons _ ?_ | refine List.Sublist.cons _ ?_)); done) | (refine cutLoN (stk.length - ib.toNat) ib.toNat (by exact (wrapI (by omega)).trans (by omega)) (by omega) ?_; conv => whnf) | (refine ldO (by assumption) (tab_ok _ _ (by rfl)) (by rfl) ?_; conv => whnf) | (refine CallVC.anchor [] _ en116 rfl (fun E w Y hE => passed08_vc (f := ⟨task, Ap, np, cp, path, fn, pc, Al, loc.length, cl, loc, As, stk.length, cs, stk, Ak, kids.length, ck, kids, many, spent, fail⟩) (m := ib.toNat) (ls := []) (hE.fr hfA) (by first | omega | rfl) (by show ib.toNat ≤ stk.length; omega) hns ⟨.inl rfl, rfl, Nat.le_refl _, Nat.zero_le _⟩ (by decide) ⟨by show -1000000 ≤ pc; omega, by show pc ≤ 1000000; omega⟩ ⟨by show -1000000 ≤ spent; omega, by show spent ≤ 1000000; omega⟩ (fun A1 c1 hc1 hA1 => RetN.to _ rfl ?_)); conv => whnf) | (refine app0I (stk.drop (stk.length - ib.toNat)) (SrcA.old el23 (topO hst (stk.length - ib.toNat) ib.toNat (by omega)).rd (by simp; omega) (is_one _)) rfl (by omega) (fun A2 c2 hc2 hA2 => ?_); conv => whnf) | (refine idxF hc f0 f1 (fun b' o' hcl => ?_); conv => whnf) | (refine idxF hc (fn := ia) (by omega) (by omega) (fun b9 o9 hcl9 => ?_); conv => whnf) | (refine ldO (hcl 2 _ rfl) (tab_ok _ _ (by rfl)) (by rfl) ?_; conv => whnf) | (refine idxOG InsP.l 4 InsP.l_len (by omega) hir hil pc.toNat (by omega) hplt (fun b'' o'' hA hcl2 => ?_); rw [← hie] at hcl2; conv => whnf) | (refine ldsO [.int .i64 13, .int .i64 ia, .int .i64 ib, .int .i64 ic] hcl2 (tab_ok _ _ (by rfl)) (by rfl) (by rfl) ?_; conv => whnf) | (refine ia114 (by rfl) ?_; intro w1 X1; conv => whnf) | (refine awaits08_vc (f := ⟨task, Ap, np, cp, path, fn, pc, Al, loc.length, cl, loc, As, stk.length, cs, stk, Ak, kids.length, ck, kids, many, spent, fail⟩) hki (fun haw => ?_) (fun haw => ?_) <;> conv => whnf) | (refine is08_vc (fun hv => ?_) (fun hv => ?_) <;> simp only [valB, Bool.and_eq_true, decide_eq_true_eq, Bool.and_eq_false_imp, decide_eq_false_iff_not] at hv <;> conv => whnf) | (refine bsA el23 (by rfl) ?_; (conv => whnf); refine ⟨by rfl, fun bl => ?_⟩; conv => whnf) | (refine RetA.go ?_; conv => whnf) | (refine And.intro ?_ ?_ <;> conv => whnf) | (refine splitB.dec (fun hb => ?_) (fun hb => ?_) <;> first | (exfalso; omega) | (conv => whnf)) | (refine splitB.ndec (fun hb => ?_) (fun hb => ?_) <;> first | (exfalso; omega) | (conv => whnf)) | (refine splitB.eqI (fun hb => ?_) (fun hb => ?_) <;> first | (exfalso; omega) | (conv => whnf)) | (refine splitB.neI (fun hb => ?_) (fun hb => ?_) <;> first | (exfalso; omega) | (conv => whnf)))
set_option maxHeartbeats 8000000 in
theorem step08_14 {c : CodeP} {f : FrP} (hs : StepOk wA c f) (hop : (insAt (bodyAt c f.fn) f.pc).op = 14)
    (he : stp c f = .err 1 → K (.tuple #[.agg f.l.toArray, .agg (q0Q 0 0 0 0 0 0 0).l.toArray, .int .i64 1]) (CtxA wA w0 X M))
    (hg : ∀ f' M', stp c f = .go (pfF f') → Keep M' f f' → K (.tuple #[.agg f'.l.toArray, .agg (q0Q 0 0 0 0 0 0 0).l.toArray, .int .i64 0]) (CtxA wA w0 X (M' ++ M)))
    (ha : ∀ f' q M', stp c f = .ask (pfF f') (qp q) → q.kind ≠ 0 → Keep M' f f' → QKeep M' q → K (.tuple #[.agg f'.l.toArray, .agg q.l.toArray, .int .i64 0]) (CtxA wA w0 X (M' ++ M))) :
    CallVC Tryz.prog (CtxA wA w0 X M) 59 #[.agg c.l.toArray, .agg f.l.toArray] K Z := by
  obtain ⟨task, Ap, np, cp, path, fn, pc, Al, nl, cl, loc, As, ns, cs, stk, Ak, nk, ck, kids, many, spent, fail⟩ := f
  obtain ⟨hc, hf, f0, f1, p0, p1, hns, hvs, hsp⟩ := hs
  obtain ⟨hpa, hlo, hst, hki⟩ := hf
  have l1 := hlo.len
  have l2 := hst.len
  have l3 := hki.len
  have l4 := hlo.sm
  have l5 := hst.cap
  have hnf := hc.nf
  have hnm := hc.sm
  dsimp only at hop hpa hlo hst hki l1 l2 l3 l4 l5 f0 f1 p0 p1 hns hvs hsp
  subst l1 l2 l3
  have hflt : fn.toNat < c.funs.length := by omega
  have hbe := bodyAt_eq (c := c) hflt
  obtain ⟨hir, hil, him⟩ := hc.ins _ hflt
  rw [← hbe] at hir hil him
  rw [insL_flat] at hir
  have hplt : pc.toNat < (bodyAt c fn).ins.length := by omega
  have hie : insAt (bodyAt c fn) pc = (bodyAt c fn).ins[pc.toNat] := by simp [insAt, List.getD, hplt]
  have hS : stp c ⟨task, Ap, np, cp, path, fn, pc, Al, loc.length, cl, loc, As, stk.length, cs, stk, Ak, kids.length, ck, kids, many, spent, fail⟩ = instrP (kOf c ⟨task, Ap, np, cp, path, fn, pc, Al, loc.length, cl, loc, As, stk.length, cs, stk, Ak, kids.length, ck, kids, many, spent, fail⟩ none 0 none 0) (fun a => (bodyAt c a).args) ⟨pc, spent, fail, loc, stk⟩ (insAt (bodyAt c fn) pc) := stepP_in (by show ¬ spent = 2000; omega) ⟨p0, p1⟩ (by exact ⟨by show 1 ≤ (insAt (bodyAt c fn) pc).op; omega, by show (insAt (bodyAt c fn) pc).op < 20; omega⟩)
  generalize hii : insAt (bodyAt c fn) pc = ii at hop hie hS
  obtain ⟨op, ia, ib, ic⟩ := ii
  dsimp only at hop
  subst hop
  rw [instr_14 rfl] at hS
  dsimp only [PF.two, callP, PF.nx, PF.pop, PF.at_, kOf] at hS
  have hfA : FrOk wA ⟨task, Ap, np, cp, path, fn, pc, Al, loc.length, cl, loc, As, stk.length, cs, stk, Ak, kids.length, ck, kids, many, spent, fail⟩ := ⟨hpa, hlo, hst, hki⟩
  refine it59 (args := [_, _]) (by rfl) ?_
  intro w2 X2
  dsimp only [FrP.l]
  conv => whnf
  repeat' (first | (refine JoinVC.go ?_; conv => whnf) | (refine RetA.go ?_; conv => whnf) | (exact RetT.drop (K := K) M (by repeat (first | exact List.Sublist.refl _ | refine List.Sublist.cons_cons _ ?_ | refine List.Sublist.cons _ ?_)) (he (by rw [hS]; repeat (first | refine (if_pos (by first | omega | assumption)).trans ?_ | refine (if_neg (by first | omega | assumption | (intro hh; rw [haw] at hh; cases hh))).trans ?_ | rfl | (simp [pfF, qp, q0Q, pairP]; done))))) | (exact RetT.drop (K := K) M (by repeat (first | exact List.Sublist.refl _ | refine List.Sublist.cons_cons _ ?_ | refine List.Sublist.cons _ ?_)) (ha ⟨task, Ap, np, cp, path, fn, pc, Al, loc.length, cl, loc, As, stk.length, cs, stk, Ak, kids.length, ck, kids, many, spent, fail⟩ (q0Q 5 0 0 0 0 0 0) [] (by rw [hS]; repeat (first | refine (if_pos (by first | omega | assumption)).trans ?_ | refine (if_neg (by first | omega | assumption | (intro hh; rw [haw] at hh; cases hh))).trans ?_ | rfl | (simp [pfF, qp, q0Q, pairP]; done))) (by show (5 : Int) ≠ 0; decide) (Keep.refl _ _) (.inl ⟨rfl, rfl, rfl, rfl⟩))) | (exact RetT.drop (K := K) (((.slice A1 (stk.length - 0 + 0) c1, .row 3 1 (is (stk.take (stk.length - 0) ++ []))) : Value × DA) :: M) (by repeat (first | exact List.Sublist.refl _ | refine List.Sublist.cons_cons _ ?_ | refine List.Sublist.cons _ ?_)) (hg ⟨task, Ap, np, cp, path, fn, pc + 1, Al, loc.length, cl, loc, A1, stk.length - 0 + 0, c1, stk.take (stk.length - 0) ++ [], Ak, kids.length, ck, kids, many, spent + 1, fail⟩ [((.slice A1 (stk.length - 0 + 0) c1, .row 3 1 (is (stk.take (stk.length - 0) ++ []))) : Value × DA)] (by rw [hS]; repeat (first | refine (if_pos (by first | omega | assumption)).trans ?_ | refine (if_neg (by first | omega | assumption | (intro hh; rw [haw] at hh; cases hh))).trans ?_ | rfl | (simp [pfF, qp, q0Q, pairP]; done))) ⟨rfl, ⟨rfl, rfl, rfl, rfl⟩, rfl, ⟨rfl, rfl, rfl, rfl⟩, rfl, .inl ⟨rfl, rfl, rfl, rfl⟩, .inr (List.Mem.head _)⟩)) | (refine cutLoN (stk.length - 0) 0 (by exact (wrapI (by omega)).trans (by omega)) (by omega) ?_; conv => whnf) | (refine CallVC.anchor [] _ en116 rfl (fun E w Y hE => passed08_vc (f := ⟨task, Ap, np, cp, path, fn, pc, Al, loc.length, cl, loc, As, stk.length, cs, stk, Ak, kids.length, ck, kids, many, spent, fail⟩) (m := 0) (ls := []) (hE.fr hfA) (by first | omega | rfl) (by show 0 ≤ stk.length; omega) hns ⟨.inl rfl, rfl, Nat.le_refl _, Nat.zero_le _⟩ (by decide) ⟨by show -1000000 ≤ pc; omega, by show pc ≤ 1000000; omega⟩ ⟨by show -1000000 ≤ spent; omega, by show spent ≤ 1000000; omega⟩ (fun A1 c1 hc1 hA1 => RetN.to _ rfl ?_)); conv => whnf) | (refine idxF hc f0 f1 (fun b' o' hcl => ?_); conv => whnf) | (refine ldO (hcl 2 _ rfl) (tab_ok _ _ (by rfl)) (by rfl) ?_; conv => whnf) | (refine idxOG InsP.l 4 InsP.l_len (by omega) hir hil pc.toNat (by omega) hplt (fun b'' o'' hA hcl2 => ?_); rw [← hie] at hcl2; conv => whnf) | (refine ldsO [.int .i64 14, .int .i64 ia, .int .i64 ib, .int .i64 ic] hcl2 (tab_ok _ _ (by rfl)) (by rfl) (by rfl) ?_; conv => whnf) | (refine ia114 (by rfl) ?_; intro w1 X1; conv => whnf) | (refine awaits08_vc (f := ⟨task, Ap, np, cp, path, fn, pc, Al, loc.length, cl, loc, As, stk.length, cs, stk, Ak, kids.length, ck, kids, many, spent, fail⟩) hki (fun haw => ?_) (fun haw => ?_) <;> conv => whnf) | (refine is08_vc (fun hv => ?_) (fun hv => ?_) <;> simp only [valB, Bool.and_eq_true, decide_eq_true_eq, Bool.and_eq_false_imp, decide_eq_false_iff_not] at hv <;> conv => whnf) | (refine bsA el23 (by rfl) ?_; (conv => whnf); refine ⟨by rfl, fun bl => ?_⟩; conv => whnf) | (refine RetA.go ?_; conv => whnf) | (refine And.intro ?_ ?_ <;> conv => whnf) | (refine splitB.dec (fun hb => ?_) (fun hb => ?_) <;> first | (exfalso; omega) | (conv => whnf)) | (refine splitB.ndec (fun hb => ?_) (fun hb => ?_) <;> first | (exfalso; omega) | (conv => whnf)) | (refine splitB.eqI (fun hb => ?_) (fun hb => ?_) <;> first | (exfalso; omega) | (conv => whnf)) | (refine splitB.neI (fun hb => ?_) (fun hb => ?_) <;> first | (exfalso; omega) | (conv => whnf)))
set_option maxHeartbeats 8000000 in
theorem step08_15 {c : CodeP} {f : FrP} (hs : StepOk wA c f) (hop : (insAt (bodyAt c f.fn) f.pc).op = 15)
    (he : stp c f = .err 1 → K (.tuple #[.agg f.l.toArray, .agg (q0Q 0 0 0 0 0 0 0).l.toArray, .int .i64 1]) (CtxA wA w0 X M))
    (hg : ∀ f' M', stp c f = .go (pfF f') → Keep M' f f' → K (.tuple #[.agg f'.l.toArray, .agg (q0Q 0 0 0 0 0 0 0).l.toArray, .int .i64 0]) (CtxA wA w0 X (M' ++ M)))
    (ha : ∀ f' q M', stp c f = .ask (pfF f') (qp q) → q.kind ≠ 0 → Keep M' f f' → QKeep M' q → K (.tuple #[.agg f'.l.toArray, .agg q.l.toArray, .int .i64 0]) (CtxA wA w0 X (M' ++ M))) :
    CallVC Tryz.prog (CtxA wA w0 X M) 59 #[.agg c.l.toArray, .agg f.l.toArray] K Z := by
  obtain ⟨task, Ap, np, cp, path, fn, pc, Al, nl, cl, loc, As, ns, cs, stk, Ak, nk, ck, kids, many, spent, fail⟩ := f
  obtain ⟨hc, hf, f0, f1, p0, p1, hns, hvs, hsp⟩ := hs
  obtain ⟨hpa, hlo, hst, hki⟩ := hf
  have l1 := hlo.len
  have l2 := hst.len
  have l3 := hki.len
  have l4 := hlo.sm
  have l5 := hst.cap
  have hnf := hc.nf
  have hnm := hc.sm
  dsimp only at hop hpa hlo hst hki l1 l2 l3 l4 l5 f0 f1 p0 p1 hns hvs hsp
  subst l1 l2 l3
  have hw0 : IntKind.i64.wrap (15 - 15) = 0 := rfl
  have hflt : fn.toNat < c.funs.length := by omega
  have hbe := bodyAt_eq (c := c) hflt
  obtain ⟨hir, hil, him⟩ := hc.ins _ hflt
  rw [← hbe] at hir hil him
  rw [insL_flat] at hir
  have hplt : pc.toNat < (bodyAt c fn).ins.length := by omega
  have hie : insAt (bodyAt c fn) pc = (bodyAt c fn).ins[pc.toNat] := by simp [insAt, List.getD, hplt]
  have hS : stp c ⟨task, Ap, np, cp, path, fn, pc, Al, loc.length, cl, loc, As, stk.length, cs, stk, Ak, kids.length, ck, kids, many, spent, fail⟩ = instrP (kOf c ⟨task, Ap, np, cp, path, fn, pc, Al, loc.length, cl, loc, As, stk.length, cs, stk, Ak, kids.length, ck, kids, many, spent, fail⟩ none 0 none 0) (fun a => (bodyAt c a).args) ⟨pc, spent, fail, loc, stk⟩ (insAt (bodyAt c fn) pc) := stepP_in (by show ¬ spent = 2000; omega) ⟨p0, p1⟩ (by exact ⟨by show 1 ≤ (insAt (bodyAt c fn) pc).op; omega, by show (insAt (bodyAt c fn) pc).op < 20; omega⟩)
  generalize hii : insAt (bodyAt c fn) pc = ii at hop hie hS
  obtain ⟨op, ia, ib, ic⟩ := ii
  dsimp only at hop
  subst hop
  rw [instr_15 rfl] at hS
  dsimp only [PF.two, callP, PF.nx, PF.pop, PF.at_, kOf] at hS
  have hfA : FrOk wA ⟨task, Ap, np, cp, path, fn, pc, Al, loc.length, cl, loc, As, stk.length, cs, stk, Ak, kids.length, ck, kids, many, spent, fail⟩ := ⟨hpa, hlo, hst, hki⟩
  refine it59 (args := [_, _]) (by rfl) ?_
  intro w2 X2
  dsimp only [FrP.l]
  conv => whnf
  repeat' (first | (refine JoinVC.go ?_; conv => whnf) | (refine RetA.go ?_; conv => whnf) | (exact RetT.drop (K := K) M (by repeat (first | exact List.Sublist.refl _ | refine List.Sublist.cons_cons _ ?_ | refine List.Sublist.cons _ ?_)) (he (by rw [hS]; repeat (first | refine (if_pos (by first | omega | assumption)).trans ?_ | refine (if_neg (by first | omega | assumption | (intro hh; rw [haw] at hh; cases hh))).trans ?_ | rfl | (simp [pfF, qp, q0Q, pairP]; done))))) | (exact RetT.drop (K := K) (((.slice A1 (stk.length - 0 + 0) c1, .row 3 1 (is (stk.take (stk.length - 0) ++ []))) : Value × DA) :: M) (by repeat (first | exact List.Sublist.refl _ | refine List.Sublist.cons_cons _ ?_ | refine List.Sublist.cons _ ?_)) (hg ⟨task, Ap, np, cp, path, fn, ia, Al, loc.length, cl, loc, A1, stk.length - 0 + 0, c1, stk.take (stk.length - 0) ++ [], Ak, kids.length, ck, kids, many, spent + 1, fail⟩ [((.slice A1 (stk.length - 0 + 0) c1, .row 3 1 (is (stk.take (stk.length - 0) ++ []))) : Value × DA)] (by rw [hS]; repeat (first | refine (if_pos (by first | omega | assumption)).trans ?_ | refine (if_neg (by first | omega | assumption | (intro hh; rw [haw] at hh; cases hh))).trans ?_ | rfl | (simp [pfF, qp, q0Q, pairP]; done))) ⟨rfl, ⟨rfl, rfl, rfl, rfl⟩, rfl, ⟨rfl, rfl, rfl, rfl⟩, rfl, .inl ⟨rfl, rfl, rfl, rfl⟩, .inr (List.Mem.head _)⟩)) | (refine cutLoN (stk.length - 0) 0 (by exact (wrapI (by omega)).trans (by omega)) (by omega) ?_; conv => whnf) | (refine CallVC.anchor [] _ en116 rfl (fun E w Y hE => passed08_vc (f := ⟨task, Ap, np, cp, path, fn, pc, Al, loc.length, cl, loc, As, stk.length, cs, stk, Ak, kids.length, ck, kids, many, spent, fail⟩) (m := 0) (ls := []) (hE.fr hfA) (by first | omega | rfl) (by show 0 ≤ stk.length; omega) hns ⟨.inl rfl, rfl, Nat.le_refl _, Nat.zero_le _⟩ (by decide) ⟨by show -1000000 ≤ pc; omega, by show pc ≤ 1000000; omega⟩ ⟨by show -1000000 ≤ spent; omega, by show spent ≤ 1000000; omega⟩ (fun A1 c1 hc1 hA1 => RetN.to _ rfl ?_)); conv => whnf) | (refine idxF hc f0 f1 (fun b' o' hcl => ?_); conv => whnf) | (refine ldO (hcl 2 _ rfl) (tab_ok _ _ (by rfl)) (by rfl) ?_; conv => whnf) | (refine idxOG InsP.l 4 InsP.l_len (by omega) hir hil pc.toNat (by omega) hplt (fun b'' o'' hA hcl2 => ?_); rw [← hie] at hcl2; conv => whnf) | (refine ldsO [.int .i64 15, .int .i64 ia, .int .i64 ib, .int .i64 ic] hcl2 (tab_ok _ _ (by rfl)) (by rfl) (by rfl) ?_; conv => whnf) | (refine ia114 (by rfl) ?_; intro w1 X1; conv => whnf) | (refine awaits08_vc (f := ⟨task, Ap, np, cp, path, fn, pc, Al, loc.length, cl, loc, As, stk.length, cs, stk, Ak, kids.length, ck, kids, many, spent, fail⟩) hki (fun haw => ?_) (fun haw => ?_) <;> conv => whnf) | (refine is08_vc (fun hv => ?_) (fun hv => ?_) <;> simp only [valB, Bool.and_eq_true, decide_eq_true_eq, Bool.and_eq_false_imp, decide_eq_false_iff_not] at hv <;> conv => whnf) | (refine bsA el23 (by rfl) ?_; (conv => whnf); refine ⟨by rfl, fun bl => ?_⟩; conv => whnf) | (refine RetA.go ?_; conv => whnf) | (refine And.intro ?_ ?_ <;> conv => whnf) | (refine splitB.dec (fun hb => ?_) (fun hb => ?_) <;> first | (exfalso; omega) | (conv => whnf)) | (refine splitB.ndec (fun hb => ?_) (fun hb => ?_) <;> first | (exfalso; omega) | (conv => whnf)) | (refine splitB.eqI (fun hb => ?_) (fun hb => ?_) <;> first | (exfalso; omega) | (conv => whnf)) | (refine splitB.neI (fun hb => ?_) (fun hb => ?_) <;> first | (exfalso; omega) | (conv => whnf)))
end
end Go.Proofs.YtgaopcbjhepklaaGreat
/- The document's frames: a step (4). -/
namespace Go.Proofs.YtgaopcbjhepklaaGreat
open Go.RowKit
set_option linter.unusedSimpArgs false
set_option linter.unusedVariables false
set_option maxRecDepth 100000
section
variable {wA w0 : World} {X : Nat → Prop} {M : EL} {K : Value → Ctx → Prop} {Z : PanK}
set_option maxHeartbeats 8000000 in
theorem step08_16 {c : CodeP} {f : FrP} (hs : StepOk wA c f) (hop : (insAt (bodyAt c f.fn) f.pc).op = 16)
    (he : stp c f = .err 1 → K (.tuple #[.agg f.l.toArray, .agg (q0Q 0 0 0 0 0 0 0).l.toArray, .int .i64 1]) (CtxA wA w0 X M))
    (hg : ∀ f' M', stp c f = .go (pfF f') → Keep M' f f' → K (.tuple #[.agg f'.l.toArray, .agg (q0Q 0 0 0 0 0 0 0).l.toArray, .int .i64 0]) (CtxA wA w0 X (M' ++ M)))
    (ha : ∀ f' q M', stp c f = .ask (pfF f') (qp q) → q.kind ≠ 0 → Keep M' f f' → QKeep M' q → K (.tuple #[.agg f'.l.toArray, .agg q.l.toArray, .int .i64 0]) (CtxA wA w0 X (M' ++ M))) :
    CallVC Tryz.prog (CtxA wA w0 X M) 59 #[.agg c.l.toArray, .agg f.l.toArray] K Z := by
  obtain ⟨task, Ap, np, cp, path, fn, pc, Al, nl, cl, loc, As, ns, cs, stk, Ak, nk, ck, kids, many, spent, fail⟩ := f
  obtain ⟨hc, hf, f0, f1, p0, p1, hns, hvs, hsp⟩ := hs
  obtain ⟨hpa, hlo, hst, hki⟩ := hf
  have l1 := hlo.len
  have l2 := hst.len
  have l3 := hki.len
  have l4 := hlo.sm
  have l5 := hst.cap
  have hnf := hc.nf
  have hnm := hc.sm
  dsimp only at hop hpa hlo hst hki l1 l2 l3 l4 l5 f0 f1 p0 p1 hns hvs hsp
  subst l1 l2 l3
  have hw0 : IntKind.i64.wrap (16 - 15) = 1 := rfl
  have hflt : fn.toNat < c.funs.length := by omega
  have hbe := bodyAt_eq (c := c) hflt
  obtain ⟨hir, hil, him⟩ := hc.ins _ hflt
  rw [← hbe] at hir hil him
  rw [insL_flat] at hir
  have hplt : pc.toNat < (bodyAt c fn).ins.length := by omega
  have hie : insAt (bodyAt c fn) pc = (bodyAt c fn).ins[pc.toNat] := by simp [insAt, List.getD, hplt]
  have hS : stp c ⟨task, Ap, np, cp, path, fn, pc, Al, loc.length, cl, loc, As, stk.length, cs, stk, Ak, kids.length, ck, kids, many, spent, fail⟩ = instrP (kOf c ⟨task, Ap, np, cp, path, fn, pc, Al, loc.length, cl, loc, As, stk.length, cs, stk, Ak, kids.length, ck, kids, many, spent, fail⟩ none 0 none 0) (fun a => (bodyAt c a).args) ⟨pc, spent, fail, loc, stk⟩ (insAt (bodyAt c fn) pc) := stepP_in (by show ¬ spent = 2000; omega) ⟨p0, p1⟩ (by exact ⟨by show 1 ≤ (insAt (bodyAt c fn) pc).op; omega, by show (insAt (bodyAt c fn) pc).op < 20; omega⟩)
  generalize hii : insAt (bodyAt c fn) pc = ii at hop hie hS
  obtain ⟨op, ia, ib, ic⟩ := ii
  dsimp only at hop
  subst hop
  rw [instr_16 rfl] at hS
  dsimp only [PF.two, callP, PF.nx, PF.pop, PF.at_, kOf] at hS
  have hfA : FrOk wA ⟨task, Ap, np, cp, path, fn, pc, Al, loc.length, cl, loc, As, stk.length, cs, stk, Ak, kids.length, ck, kids, many, spent, fail⟩ := ⟨hpa, hlo, hst, hki⟩
  refine it59 (args := [_, _]) (by rfl) ?_
  intro w2 X2
  dsimp only [FrP.l]
  conv => whnf
  repeat' (first | (refine JoinVC.go ?_; conv => whnf) | (refine RetA.go ?_; conv => whnf) | (exact RetT.drop (K := K) M (by repeat (first | exact List.Sublist.refl _ | refine List.Sublist.cons_cons _ ?_ | refine List.Sublist.cons _ ?_)) (he (by rw [hS]; repeat (first | refine (if_pos (by first | omega | assumption)).trans ?_ | refine (if_neg (by first | omega | assumption | (intro hh; rw [haw] at hh; cases hh))).trans ?_ | rfl | (simp [pfF, qp, q0Q, pairP]; done))))) | (exact RetT.drop (K := K) (((.slice A1 (stk.length - 1 + 0) c1, .row 3 1 (is (stk.take (stk.length - 1) ++ []))) : Value × DA) :: M) (by repeat (first | exact List.Sublist.refl _ | refine List.Sublist.cons_cons _ ?_ | refine List.Sublist.cons _ ?_)) (hg ⟨task, Ap, np, cp, path, fn, ia, Al, loc.length, cl, loc, A1, stk.length - 1 + 0, c1, stk.take (stk.length - 1) ++ [], Ak, kids.length, ck, kids, many, spent + 1, fail⟩ [((.slice A1 (stk.length - 1 + 0) c1, .row 3 1 (is (stk.take (stk.length - 1) ++ []))) : Value × DA)] (by rw [hS]; repeat (first | refine (if_pos (by first | omega | assumption)).trans ?_ | refine (if_neg (by first | omega | assumption | (intro hh; rw [haw] at hh; cases hh))).trans ?_ | rfl | (simp [pfF, qp, q0Q, pairP]; done))) ⟨rfl, ⟨rfl, rfl, rfl, rfl⟩, rfl, ⟨rfl, rfl, rfl, rfl⟩, rfl, .inl ⟨rfl, rfl, rfl, rfl⟩, .inr (List.Mem.head _)⟩)) | (exact RetT.drop (K := K) (((.slice A1 (stk.length - 1 + 0) c1, .row 3 1 (is (stk.take (stk.length - 1) ++ []))) : Value × DA) :: M) (by repeat (first | exact List.Sublist.refl _ | refine List.Sublist.cons_cons _ ?_ | refine List.Sublist.cons _ ?_)) (hg ⟨task, Ap, np, cp, path, fn, pc + 1, Al, loc.length, cl, loc, A1, stk.length - 1 + 0, c1, stk.take (stk.length - 1) ++ [], Ak, kids.length, ck, kids, many, spent + 1, fail⟩ [((.slice A1 (stk.length - 1 + 0) c1, .row 3 1 (is (stk.take (stk.length - 1) ++ []))) : Value × DA)] (by rw [hS]; repeat (first | refine (if_pos (by first | omega | assumption)).trans ?_ | refine (if_neg (by first | omega | assumption | (intro hh; rw [haw] at hh; cases hh))).trans ?_ | rfl | (simp [pfF, qp, q0Q, pairP]; done))) ⟨rfl, ⟨rfl, rfl, rfl, rfl⟩, rfl, ⟨rfl, rfl, rfl, rfl⟩, rfl, .inl ⟨rfl, rfl, rfl, rfl⟩, .inr (List.Mem.head _)⟩)) | (refine cutLoN (stk.length - 1) 1 (by exact (wrapI (by omega)).trans (by omega)) (by omega) ?_; conv => whnf) | (refine idxOI (topO hst (stk.length - 1) 1 (by omega)) 0 rfl (by decide) (fun b3 o3 hA3 hcl3 => ?_); conv => whnf) | (refine ldO (by assumption) (tab_ok _ _ (by rfl)) (by rfl) ?_; conv => whnf) | (refine CallVC.anchor [] _ en116 rfl (fun E w Y hE => passed08_vc (f := ⟨task, Ap, np, cp, path, fn, pc, Al, loc.length, cl, loc, As, stk.length, cs, stk, Ak, kids.length, ck, kids, many, spent, fail⟩) (m := 1) (ls := []) (hE.fr hfA) (by first | omega | rfl) (by show 1 ≤ stk.length; omega) hns ⟨.inl rfl, rfl, Nat.le_refl _, Nat.zero_le _⟩ (by decide) ⟨by show -1000000 ≤ pc; omega, by show pc ≤ 1000000; omega⟩ ⟨by show -1000000 ≤ spent; omega, by show spent ≤ 1000000; omega⟩ (fun A1 c1 hc1 hA1 => RetN.to _ rfl ?_)); conv => whnf) | (refine idxF hc f0 f1 (fun b' o' hcl => ?_); conv => whnf) | (refine ldO (hcl 2 _ rfl) (tab_ok _ _ (by rfl)) (by rfl) ?_; conv => whnf) | (refine idxOG InsP.l 4 InsP.l_len (by omega) hir hil pc.toNat (by omega) hplt (fun b'' o'' hA hcl2 => ?_); rw [← hie] at hcl2; conv => whnf) | (refine ldsO [.int .i64 16, .int .i64 ia, .int .i64 ib, .int .i64 ic] hcl2 (tab_ok _ _ (by rfl)) (by rfl) (by rfl) ?_; conv => whnf) | (refine ia114 (by rfl) ?_; intro w1 X1; conv => whnf) | (refine awaits08_vc (f := ⟨task, Ap, np, cp, path, fn, pc, Al, loc.length, cl, loc, As, stk.length, cs, stk, Ak, kids.length, ck, kids, many, spent, fail⟩) hki (fun haw => ?_) (fun haw => ?_) <;> conv => whnf) | (refine is08_vc (fun hv => ?_) (fun hv => ?_) <;> simp only [valB, Bool.and_eq_true, decide_eq_true_eq, Bool.and_eq_false_imp, decide_eq_false_iff_not] at hv <;> conv => whnf) | (refine bsA el23 (by rfl) ?_; (conv => whnf); refine ⟨by rfl, fun bl => ?_⟩; conv => whnf) | (refine RetA.go ?_; conv => whnf) | (refine And.intro ?_ ?_ <;> conv => whnf) | (refine splitB.dec (fun hb => ?_) (fun hb => ?_) <;> first | (exfalso; omega) | (conv => whnf)) | (refine splitB.ndec (fun hb => ?_) (fun hb => ?_) <;> first | (exfalso; omega) | (conv => whnf)) | (refine splitB.eqI (fun hb => ?_) (fun hb => ?_) <;> first | (exfalso; omega) | (conv => whnf)) | (refine splitB.neI (fun hb => ?_) (fun hb => ?_) <;> first | (exfalso; omega) | (conv => whnf)))
set_option maxHeartbeats 8000000 in
theorem step08_17 {c : CodeP} {f : FrP} (hs : StepOk wA c f) (hop : (insAt (bodyAt c f.fn) f.pc).op = 17)
    (he : stp c f = .err 1 → K (.tuple #[.agg f.l.toArray, .agg (q0Q 0 0 0 0 0 0 0).l.toArray, .int .i64 1]) (CtxA wA w0 X M))
    (hg : ∀ f' M', stp c f = .go (pfF f') → Keep M' f f' → K (.tuple #[.agg f'.l.toArray, .agg (q0Q 0 0 0 0 0 0 0).l.toArray, .int .i64 0]) (CtxA wA w0 X (M' ++ M)))
    (ha : ∀ f' q M', stp c f = .ask (pfF f') (qp q) → q.kind ≠ 0 → Keep M' f f' → QKeep M' q → K (.tuple #[.agg f'.l.toArray, .agg q.l.toArray, .int .i64 0]) (CtxA wA w0 X (M' ++ M))) :
    CallVC Tryz.prog (CtxA wA w0 X M) 59 #[.agg c.l.toArray, .agg f.l.toArray] K Z := by
  obtain ⟨task, Ap, np, cp, path, fn, pc, Al, nl, cl, loc, As, ns, cs, stk, Ak, nk, ck, kids, many, spent, fail⟩ := f
  obtain ⟨hc, hf, f0, f1, p0, p1, hns, hvs, hsp⟩ := hs
  obtain ⟨hpa, hlo, hst, hki⟩ := hf
  have l1 := hlo.len
  have l2 := hst.len
  have l3 := hki.len
  have l4 := hlo.sm
  have l5 := hst.cap
  have hnf := hc.nf
  have hnm := hc.sm
  dsimp only at hop hpa hlo hst hki l1 l2 l3 l4 l5 f0 f1 p0 p1 hns hvs hsp
  subst l1 l2 l3
  have hflt : fn.toNat < c.funs.length := by omega
  have hbe := bodyAt_eq (c := c) hflt
  obtain ⟨hir, hil, him⟩ := hc.ins _ hflt
  rw [← hbe] at hir hil him
  rw [insL_flat] at hir
  have hplt : pc.toNat < (bodyAt c fn).ins.length := by omega
  have hie : insAt (bodyAt c fn) pc = (bodyAt c fn).ins[pc.toNat] := by simp [insAt, List.getD, hplt]
  have hS : stp c ⟨task, Ap, np, cp, path, fn, pc, Al, loc.length, cl, loc, As, stk.length, cs, stk, Ak, kids.length, ck, kids, many, spent, fail⟩ = instrP (kOf c ⟨task, Ap, np, cp, path, fn, pc, Al, loc.length, cl, loc, As, stk.length, cs, stk, Ak, kids.length, ck, kids, many, spent, fail⟩ none 0 none 0) (fun a => (bodyAt c a).args) ⟨pc, spent, fail, loc, stk⟩ (insAt (bodyAt c fn) pc) := stepP_in (by show ¬ spent = 2000; omega) ⟨p0, p1⟩ (by exact ⟨by show 1 ≤ (insAt (bodyAt c fn) pc).op; omega, by show (insAt (bodyAt c fn) pc).op < 20; omega⟩)
  generalize hii : insAt (bodyAt c fn) pc = ii at hop hie hS
  obtain ⟨op, ia, ib, ic⟩ := ii
  dsimp only at hop
  subst hop
  rw [instr_17 rfl] at hS
  dsimp only [PF.two, callP, PF.nx, PF.pop, PF.at_, kOf] at hS
  have hfA : FrOk wA ⟨task, Ap, np, cp, path, fn, pc, Al, loc.length, cl, loc, As, stk.length, cs, stk, Ak, kids.length, ck, kids, many, spent, fail⟩ := ⟨hpa, hlo, hst, hki⟩
  refine it59 (args := [_, _]) (by rfl) ?_
  intro w2 X2
  dsimp only [FrP.l]
  conv => whnf
  repeat' (first | (refine JoinVC.go ?_; conv => whnf) | (refine RetA.go ?_; conv => whnf) | (exact RetT.drop (K := K) M (by repeat (first | exact List.Sublist.refl _ | refine List.Sublist.cons_cons _ ?_ | refine List.Sublist.cons _ ?_)) (he (by rw [hS]; repeat (first | refine (if_pos (by first | omega | assumption)).trans ?_ | refine (if_neg (by first | omega | assumption | (intro hh; rw [haw] at hh; cases hh))).trans ?_ | rfl | (simp [pfF, qp, q0Q, pairP]; done))))) | (exact RetT.drop (K := K) M (by repeat (first | exact List.Sublist.refl _ | refine List.Sublist.cons_cons _ ?_ | refine List.Sublist.cons _ ?_)) (ha ⟨task, Ap, np, cp, path, fn, pc, Al, loc.length, cl, loc, As, stk.length, cs, stk, Ak, kids.length, ck, kids, many, spent, fail⟩ (q0Q 5 0 0 0 0 0 0) [] (by rw [hS]; repeat (first | refine (if_pos (by first | omega | assumption)).trans ?_ | refine (if_neg (by first | omega | assumption | (intro hh; rw [haw] at hh; cases hh))).trans ?_ | rfl | (simp [pfF, qp, q0Q, pairP]; done))) (by show (5 : Int) ≠ 0; decide) (Keep.refl _ _) (.inl ⟨rfl, rfl, rfl, rfl⟩))) | (exact RetT.drop (K := K) (((.slice A1 (stk.length - 1 + 0) c1, .row 3 1 (is (stk.take (stk.length - 1) ++ []))) : Value × DA) :: M) (by repeat (first | exact List.Sublist.refl _ | refine List.Sublist.cons_cons _ ?_ | refine List.Sublist.cons _ ?_)) (ha ⟨task, Ap, np, cp, path, fn, pc + 1, Al, loc.length, cl, loc, A1, stk.length - 1 + 0, c1, stk.take (stk.length - 1) ++ [], Ak, kids.length, ck, kids, many, spent + 1, fail⟩ (q0Q 6 ((stk.drop (stk.length - 1)).getD 0 0) 0 0 0 0 0) [((.slice A1 (stk.length - 1 + 0) c1, .row 3 1 (is (stk.take (stk.length - 1) ++ []))) : Value × DA)] (by rw [hS]; repeat (first | refine (if_pos (by first | omega | assumption)).trans ?_ | refine (if_neg (by first | omega | assumption | (intro hh; rw [haw] at hh; cases hh))).trans ?_ | rfl | (simp [pfF, qp, q0Q, pairP]; done))) (by show (6 : Int) ≠ 0; decide) ⟨rfl, ⟨rfl, rfl, rfl, rfl⟩, rfl, ⟨rfl, rfl, rfl, rfl⟩, rfl, .inl ⟨rfl, rfl, rfl, rfl⟩, .inr (List.Mem.head _)⟩ (.inl ⟨rfl, rfl, rfl, rfl⟩))) | (refine cutLoN (stk.length - 0) 0 (by exact (wrapI (by omega)).trans (by omega)) (by omega) ?_; conv => whnf) | (refine cutLoN (stk.length - 1) 1 (by exact (wrapI (by omega)).trans (by omega)) (by omega) ?_; conv => whnf) | (refine idxOI (topO hst (stk.length - 1) 1 (by omega)) 0 rfl (by decide) (fun b3 o3 hA3 hcl3 => ?_); conv => whnf) | (refine ldO (by assumption) (tab_ok _ _ (by rfl)) (by rfl) ?_; conv => whnf) | (refine CallVC.anchor [] _ en116 rfl (fun E w Y hE => passed08_vc (f := ⟨task, Ap, np, cp, path, fn, pc, Al, loc.length, cl, loc, As, stk.length, cs, stk, Ak, kids.length, ck, kids, many, spent, fail⟩) (m := 1) (ls := []) (hE.fr hfA) (by first | omega | rfl) (by show 1 ≤ stk.length; omega) hns ⟨.inl rfl, rfl, Nat.le_refl _, Nat.zero_le _⟩ (by decide) ⟨by show -1000000 ≤ pc; omega, by show pc ≤ 1000000; omega⟩ ⟨by show -1000000 ≤ spent; omega, by show spent ≤ 1000000; omega⟩ (fun A1 c1 hc1 hA1 => RetN.to _ rfl ?_)); conv => whnf) | (refine idxF hc f0 f1 (fun b' o' hcl => ?_); conv => whnf) | (refine ldO (hcl 2 _ rfl) (tab_ok _ _ (by rfl)) (by rfl) ?_; conv => whnf) | (refine idxOG InsP.l 4 InsP.l_len (by omega) hir hil pc.toNat (by omega) hplt (fun b'' o'' hA hcl2 => ?_); rw [← hie] at hcl2; conv => whnf) | (refine ldsO [.int .i64 17, .int .i64 ia, .int .i64 ib, .int .i64 ic] hcl2 (tab_ok _ _ (by rfl)) (by rfl) (by rfl) ?_; conv => whnf) | (refine ia114 (by rfl) ?_; intro w1 X1; conv => whnf) | (refine awaits08_vc (f := ⟨task, Ap, np, cp, path, fn, pc, Al, loc.length, cl, loc, As, stk.length, cs, stk, Ak, kids.length, ck, kids, many, spent, fail⟩) hki (fun haw => ?_) (fun haw => ?_) <;> conv => whnf) | (refine is08_vc (fun hv => ?_) (fun hv => ?_) <;> simp only [valB, Bool.and_eq_true, decide_eq_true_eq, Bool.and_eq_false_imp, decide_eq_false_iff_not] at hv <;> conv => whnf) | (refine bsA el23 (by rfl) ?_; (conv => whnf); refine ⟨by rfl, fun bl => ?_⟩; conv => whnf) | (refine RetA.go ?_; conv => whnf) | (refine And.intro ?_ ?_ <;> conv => whnf) | (refine splitB.dec (fun hb => ?_) (fun hb => ?_) <;> first | (exfalso; omega) | (conv => whnf)) | (refine splitB.ndec (fun hb => ?_) (fun hb => ?_) <;> first | (exfalso; omega) | (conv => whnf)) | (refine splitB.eqI (fun hb => ?_) (fun hb => ?_) <;> first | (exfalso; omega) | (conv => whnf)) | (refine splitB.neI (fun hb => ?_) (fun hb => ?_) <;> first | (exfalso; omega) | (conv => whnf)))
set_option maxHeartbeats 8000000 in
theorem step08_18 {c : CodeP} {f : FrP} (hs : StepOk wA c f) (hop : (insAt (bodyAt c f.fn) f.pc).op = 18)
    (he : stp c f = .err 1 → K (.tuple #[.agg f.l.toArray, .agg (q0Q 0 0 0 0 0 0 0).l.toArray, .int .i64 1]) (CtxA wA w0 X M))
    (hg : ∀ f' M', stp c f = .go (pfF f') → Keep M' f f' → K (.tuple #[.agg f'.l.toArray, .agg (q0Q 0 0 0 0 0 0 0).l.toArray, .int .i64 0]) (CtxA wA w0 X (M' ++ M)))
    (ha : ∀ f' q M', stp c f = .ask (pfF f') (qp q) → q.kind ≠ 0 → Keep M' f f' → QKeep M' q → K (.tuple #[.agg f'.l.toArray, .agg q.l.toArray, .int .i64 0]) (CtxA wA w0 X (M' ++ M))) :
    CallVC Tryz.prog (CtxA wA w0 X M) 59 #[.agg c.l.toArray, .agg f.l.toArray] K Z := by
  obtain ⟨task, Ap, np, cp, path, fn, pc, Al, nl, cl, loc, As, ns, cs, stk, Ak, nk, ck, kids, many, spent, fail⟩ := f
  obtain ⟨hc, hf, f0, f1, p0, p1, hns, hvs, hsp⟩ := hs
  obtain ⟨hpa, hlo, hst, hki⟩ := hf
  have l1 := hlo.len
  have l2 := hst.len
  have l3 := hki.len
  have l4 := hlo.sm
  have l5 := hst.cap
  have hnf := hc.nf
  have hnm := hc.sm
  dsimp only at hop hpa hlo hst hki l1 l2 l3 l4 l5 f0 f1 p0 p1 hns hvs hsp
  subst l1 l2 l3
  have hflt : fn.toNat < c.funs.length := by omega
  have hbe := bodyAt_eq (c := c) hflt
  obtain ⟨hir, hil, him⟩ := hc.ins _ hflt
  rw [← hbe] at hir hil him
  rw [insL_flat] at hir
  have hplt : pc.toNat < (bodyAt c fn).ins.length := by omega
  have hie : insAt (bodyAt c fn) pc = (bodyAt c fn).ins[pc.toNat] := by simp [insAt, List.getD, hplt]
  have hS : stp c ⟨task, Ap, np, cp, path, fn, pc, Al, loc.length, cl, loc, As, stk.length, cs, stk, Ak, kids.length, ck, kids, many, spent, fail⟩ = instrP (kOf c ⟨task, Ap, np, cp, path, fn, pc, Al, loc.length, cl, loc, As, stk.length, cs, stk, Ak, kids.length, ck, kids, many, spent, fail⟩ none 0 none 0) (fun a => (bodyAt c a).args) ⟨pc, spent, fail, loc, stk⟩ (insAt (bodyAt c fn) pc) := stepP_in (by show ¬ spent = 2000; omega) ⟨p0, p1⟩ (by exact ⟨by show 1 ≤ (insAt (bodyAt c fn) pc).op; omega, by show (insAt (bodyAt c fn) pc).op < 20; omega⟩)
  generalize hii : insAt (bodyAt c fn) pc = ii at hop hie hS
  obtain ⟨op, ia, ib, ic⟩ := ii
  dsimp only at hop
  subst hop
  rw [instr_18 rfl] at hS
  dsimp only [PF.two, callP, PF.nx, PF.pop, PF.at_, kOf] at hS
  have hfA : FrOk wA ⟨task, Ap, np, cp, path, fn, pc, Al, loc.length, cl, loc, As, stk.length, cs, stk, Ak, kids.length, ck, kids, many, spent, fail⟩ := ⟨hpa, hlo, hst, hki⟩
  cases fail with
  | true =>
    refine it59 (args := [_, _]) (by rfl) ?_
    intro w2 X2
    dsimp only [FrP.l]
    conv => whnf
    repeat' (first | (refine JoinVC.go ?_; conv => whnf) | (refine RetA.go ?_; conv => whnf) | (exact RetT.drop (K := K) M (by repeat (first | exact List.Sublist.refl _ | refine List.Sublist.cons_cons _ ?_ | refine List.Sublist.cons _ ?_)) (he (by rw [hS]; repeat (first | refine (if_pos (by first | omega | assumption)).trans ?_ | refine (if_neg (by first | omega | assumption | (intro hh; rw [haw] at hh; cases hh))).trans ?_ | rfl | (simp [pfF, qp, q0Q, pairP]; done))))) | (exact RetT.drop (K := K) (((.slice A1 (stk.length - 1 + 0) c1, .row 3 1 (is (stk.take (stk.length - 1) ++ []))) : Value × DA) :: M) (by repeat (first | exact List.Sublist.refl _ | refine List.Sublist.cons_cons _ ?_ | refine List.Sublist.cons _ ?_)) (hg ⟨task, Ap, np, cp, path, fn, pc + 1, Al, loc.length, cl, loc, A1, stk.length - 1 + 0, c1, stk.take (stk.length - 1) ++ [], Ak, kids.length, ck, kids, many, spent + 1, true⟩ [((.slice A1 (stk.length - 1 + 0) c1, .row 3 1 (is (stk.take (stk.length - 1) ++ []))) : Value × DA)] (by rw [hS]; repeat (first | refine (if_pos (by first | omega | assumption)).trans ?_ | refine (if_neg (by first | omega | assumption | (intro hh; rw [haw] at hh; cases hh))).trans ?_ | rfl | (simp [pfF, qp, q0Q, pairP]; done))) ⟨rfl, ⟨rfl, rfl, rfl, rfl⟩, rfl, ⟨rfl, rfl, rfl, rfl⟩, rfl, .inl ⟨rfl, rfl, rfl, rfl⟩, .inr (List.Mem.head _)⟩)) | (exact RetT.drop (K := K) (((.slice A1 (stk.length - 1 + 0) c1, .row 3 1 (is (stk.take (stk.length - 1) ++ []))) : Value × DA) :: M) (by repeat (first | exact List.Sublist.refl _ | refine List.Sublist.cons_cons _ ?_ | refine List.Sublist.cons _ ?_)) (hg ⟨task, Ap, np, cp, path, fn, pc + 1, Al, loc.length, cl, loc, A1, stk.length - 1 + 0, c1, stk.take (stk.length - 1) ++ [], Ak, kids.length, ck, kids, many, spent + 1, true⟩ [((.slice A1 (stk.length - 1 + 0) c1, .row 3 1 (is (stk.take (stk.length - 1) ++ []))) : Value × DA)] (by rw [hS]; repeat (first | refine (if_pos (by first | omega | assumption)).trans ?_ | refine (if_neg (by first | omega | assumption | (intro hh; rw [haw] at hh; cases hh))).trans ?_ | rfl | (simp [pfF, qp, q0Q, pairP]; done))) ⟨rfl, ⟨rfl, rfl, rfl, rfl⟩, rfl, ⟨rfl, rfl, rfl, rfl⟩, rfl, .inl ⟨rfl, rfl, rfl, rfl⟩, .inr (List.Mem.head _)⟩)) | (refine cutLoN (stk.length - 1) 1 (by exact (wrapI (by omega)).trans (by omega)) (by omega) ?_; conv => whnf) | (refine idxOI (topO hst (stk.length - 1) 1 (by omega)) 0 rfl (by decide) (fun b3 o3 hA3 hcl3 => ?_); conv => whnf) | (refine ldO (by assumption) (tab_ok _ _ (by rfl)) (by rfl) ?_; conv => whnf) | (refine CallVC.anchor [] _ en116 rfl (fun E w Y hE => passed08_vc (f := ⟨task, Ap, np, cp, path, fn, pc, Al, loc.length, cl, loc, As, stk.length, cs, stk, Ak, kids.length, ck, kids, many, spent, true⟩) (m := 1) (ls := []) (hE.fr hfA) (by first | omega | rfl) (by show 1 ≤ stk.length; omega) hns ⟨.inl rfl, rfl, Nat.le_refl _, Nat.zero_le _⟩ (by decide) ⟨by show -1000000 ≤ pc; omega, by show pc ≤ 1000000; omega⟩ ⟨by show -1000000 ≤ spent; omega, by show spent ≤ 1000000; omega⟩ (fun A1 c1 hc1 hA1 => RetN.to _ rfl ?_)); conv => whnf) | (refine idxF hc f0 f1 (fun b' o' hcl => ?_); conv => whnf) | (refine ldO (hcl 2 _ rfl) (tab_ok _ _ (by rfl)) (by rfl) ?_; conv => whnf) | (refine idxOG InsP.l 4 InsP.l_len (by omega) hir hil pc.toNat (by omega) hplt (fun b'' o'' hA hcl2 => ?_); rw [← hie] at hcl2; conv => whnf) | (refine ldsO [.int .i64 18, .int .i64 ia, .int .i64 ib, .int .i64 ic] hcl2 (tab_ok _ _ (by rfl)) (by rfl) (by rfl) ?_; conv => whnf) | (refine ia114 (by rfl) ?_; intro w1 X1; conv => whnf) | (refine awaits08_vc (f := ⟨task, Ap, np, cp, path, fn, pc, Al, loc.length, cl, loc, As, stk.length, cs, stk, Ak, kids.length, ck, kids, many, spent, true⟩) hki (fun haw => ?_) (fun haw => ?_) <;> conv => whnf) | (refine is08_vc (fun hv => ?_) (fun hv => ?_) <;> simp only [valB, Bool.and_eq_true, decide_eq_true_eq, Bool.and_eq_false_imp, decide_eq_false_iff_not] at hv <;> conv => whnf) | (refine bsA el23 (by rfl) ?_; (conv => whnf); refine ⟨by rfl, fun bl => ?_⟩; conv => whnf) | (refine RetA.go ?_; conv => whnf) | (refine And.intro ?_ ?_ <;> conv => whnf) | (refine splitB.dec (fun hb => ?_) (fun hb => ?_) <;> first | (exfalso; omega) | (conv => whnf)) | (refine splitB.ndec (fun hb => ?_) (fun hb => ?_) <;> first | (exfalso; omega) | (conv => whnf)) | (refine splitB.eqI (fun hb => ?_) (fun hb => ?_) <;> first | (exfalso; omega) | (conv => whnf)) | (refine splitB.neI (fun hb => ?_) (fun hb => ?_) <;> first | (exfalso; omega) | (conv => whnf)))
  | false =>
    refine it59 (args := [_, _]) (by rfl) ?_
    intro w2 X2
    dsimp only [FrP.l]
    conv => whnf
    repeat' (first | (exact RetT.drop (K := K) (((.slice A1 (stk.length - 1 + 0) c1, .row 3 1 (is (stk.take (stk.length - 1) ++ []))) : Value × DA) :: M) (by repeat (first | exact List.Sublist.refl _ | refine List.Sublist.cons_cons _ ?_ | refine List.Sublist.cons _ ?_)) (hg ⟨task, Ap, np, cp, path, fn, pc + 1, Al, loc.length, cl, loc, A1, stk.length - 1 + 0, c1, stk.take (stk.length - 1) ++ [], Ak, kids.length, ck, kids, many, spent + 1, (((stk.drop (stk.length - 1)).getD 0 0) == 0)⟩ [((.slice A1 (stk.length - 1 + 0) c1, .row 3 1 (is (stk.take (stk.length - 1) ++ []))) : Value × DA)] (by rw [hS]; refine (if_pos (by omega)).trans ?_; by_cases hT : ((stk.drop (stk.length - 1)).getD 0 0) = 0; (refine (if_pos hT).trans ?_; rw [show (((stk.drop (stk.length - 1)).getD 0 0) == 0) = true from beq_iff_eq.2 hT]; simp [pfF]); (refine (if_neg hT).trans ?_; rw [show (((stk.drop (stk.length - 1)).getD 0 0) == 0) = false from beq_eq_false_iff_ne.2 hT]; simp [pfF])) ⟨rfl, ⟨rfl, rfl, rfl, rfl⟩, rfl, ⟨rfl, rfl, rfl, rfl⟩, rfl, .inl ⟨rfl, rfl, rfl, rfl⟩, .inr (List.Mem.head _)⟩)) | (refine JoinVC.go ?_; conv => whnf) | (refine RetA.go ?_; conv => whnf) | (exact RetT.drop (K := K) M (by repeat (first | exact List.Sublist.refl _ | refine List.Sublist.cons_cons _ ?_ | refine List.Sublist.cons _ ?_)) (he (by rw [hS]; repeat (first | refine (if_pos (by first | omega | assumption)).trans ?_ | refine (if_neg (by first | omega | assumption | (intro hh; rw [haw] at hh; cases hh))).trans ?_ | rfl | (simp [pfF, qp, q0Q, pairP]; done))))) | (exact RetT.drop (K := K) (((.slice A1 (stk.length - 1 + 0) c1, .row 3 1 (is (stk.take (stk.length - 1) ++ []))) : Value × DA) :: M) (by repeat (first | exact List.Sublist.refl _ | refine List.Sublist.cons_cons _ ?_ | refine List.Sublist.cons _ ?_)) (hg ⟨task, Ap, np, cp, path, fn, pc + 1, Al, loc.length, cl, loc, A1, stk.length - 1 + 0, c1, stk.take (stk.length - 1) ++ [], Ak, kids.length, ck, kids, many, spent + 1, true⟩ [((.slice A1 (stk.length - 1 + 0) c1, .row 3 1 (is (stk.take (stk.length - 1) ++ []))) : Value × DA)] (by rw [hS]; repeat (first | refine (if_pos (by first | omega | assumption)).trans ?_ | refine (if_neg (by first | omega | assumption | (intro hh; rw [haw] at hh; cases hh))).trans ?_ | rfl | (simp [pfF, qp, q0Q, pairP]; done))) ⟨rfl, ⟨rfl, rfl, rfl, rfl⟩, rfl, ⟨rfl, rfl, rfl, rfl⟩, rfl, .inl ⟨rfl, rfl, rfl, rfl⟩, .inr (List.Mem.head _)⟩)) | (exact RetT.drop (K := K) (((.slice A1 (stk.length - 1 + 0) c1, .row 3 1 (is (stk.take (stk.length - 1) ++ []))) : Value × DA) :: M) (by repeat (first | exact List.Sublist.refl _ | refine List.Sublist.cons_cons _ ?_ | refine List.Sublist.cons _ ?_)) (hg ⟨task, Ap, np, cp, path, fn, pc + 1, Al, loc.length, cl, loc, A1, stk.length - 1 + 0, c1, stk.take (stk.length - 1) ++ [], Ak, kids.length, ck, kids, many, spent + 1, false⟩ [((.slice A1 (stk.length - 1 + 0) c1, .row 3 1 (is (stk.take (stk.length - 1) ++ []))) : Value × DA)] (by rw [hS]; repeat (first | refine (if_pos (by first | omega | assumption)).trans ?_ | refine (if_neg (by first | omega | assumption | (intro hh; rw [haw] at hh; cases hh))).trans ?_ | rfl | (simp [pfF, qp, q0Q, pairP]; done))) ⟨rfl, ⟨rfl, rfl, rfl, rfl⟩, rfl, ⟨rfl, rfl, rfl, rfl⟩, rfl, .inl ⟨rfl, rfl, rfl, rfl⟩, .inr (List.Mem.head _)⟩)) | (refine cutLoN (stk.length - 1) 1 (by exact (wrapI (by omega)).trans (by omega)) (by omega) ?_; conv => whnf) | (refine idxOI (topO hst (stk.length - 1) 1 (by omega)) 0 rfl (by decide) (fun b3 o3 hA3 hcl3 => ?_); conv => whnf) | (refine ldO (by assumption) (tab_ok _ _ (by rfl)) (by rfl) ?_; conv => whnf) | (refine CallVC.anchor [] _ en116 rfl (fun E w Y hE => passed08_vc (f := ⟨task, Ap, np, cp, path, fn, pc, Al, loc.length, cl, loc, As, stk.length, cs, stk, Ak, kids.length, ck, kids, many, spent, false⟩) (m := 1) (ls := []) (hE.fr hfA) (by first | omega | rfl) (by show 1 ≤ stk.length; omega) hns ⟨.inl rfl, rfl, Nat.le_refl _, Nat.zero_le _⟩ (by decide) ⟨by show -1000000 ≤ pc; omega, by show pc ≤ 1000000; omega⟩ ⟨by show -1000000 ≤ spent; omega, by show spent ≤ 1000000; omega⟩ (fun A1 c1 hc1 hA1 => RetN.to _ rfl ?_)); conv => whnf) | (refine idxF hc f0 f1 (fun b' o' hcl => ?_); conv => whnf) | (refine ldO (hcl 2 _ rfl) (tab_ok _ _ (by rfl)) (by rfl) ?_; conv => whnf) | (refine idxOG InsP.l 4 InsP.l_len (by omega) hir hil pc.toNat (by omega) hplt (fun b'' o'' hA hcl2 => ?_); rw [← hie] at hcl2; conv => whnf) | (refine ldsO [.int .i64 18, .int .i64 ia, .int .i64 ib, .int .i64 ic] hcl2 (tab_ok _ _ (by rfl)) (by rfl) (by rfl) ?_; conv => whnf) | (refine ia114 (by rfl) ?_; intro w1 X1; conv => whnf) | (refine awaits08_vc (f := ⟨task, Ap, np, cp, path, fn, pc, Al, loc.length, cl, loc, As, stk.length, cs, stk, Ak, kids.length, ck, kids, many, spent, false⟩) hki (fun haw => ?_) (fun haw => ?_) <;> conv => whnf) | (refine is08_vc (fun hv => ?_) (fun hv => ?_) <;> simp only [valB, Bool.and_eq_true, decide_eq_true_eq, Bool.and_eq_false_imp, decide_eq_false_iff_not] at hv <;> conv => whnf) | (refine bsA el23 (by rfl) ?_; (conv => whnf); refine ⟨by rfl, fun bl => ?_⟩; conv => whnf) | (refine RetA.go ?_; conv => whnf) | (refine And.intro ?_ ?_ <;> conv => whnf) | (refine splitB.dec (fun hb => ?_) (fun hb => ?_) <;> first | (exfalso; omega) | (conv => whnf)) | (refine splitB.ndec (fun hb => ?_) (fun hb => ?_) <;> first | (exfalso; omega) | (conv => whnf)) | (refine splitB.eqI (fun hb => ?_) (fun hb => ?_) <;> first | (exfalso; omega) | (conv => whnf)) | (refine splitB.neI (fun hb => ?_) (fun hb => ?_) <;> first | (exfalso; omega) | (conv => whnf)))
set_option maxHeartbeats 8000000 in
theorem step08_19 {c : CodeP} {f : FrP} (hs : StepOk wA c f) (hop : (insAt (bodyAt c f.fn) f.pc).op = 19)
    (he : stp c f = .err 1 → K (.tuple #[.agg f.l.toArray, .agg (q0Q 0 0 0 0 0 0 0).l.toArray, .int .i64 1]) (CtxA wA w0 X M))
    (hg : ∀ f' M', stp c f = .go (pfF f') → Keep M' f f' → K (.tuple #[.agg f'.l.toArray, .agg (q0Q 0 0 0 0 0 0 0).l.toArray, .int .i64 0]) (CtxA wA w0 X (M' ++ M)))
    (ha : ∀ f' q M', stp c f = .ask (pfF f') (qp q) → q.kind ≠ 0 → Keep M' f f' → QKeep M' q → K (.tuple #[.agg f'.l.toArray, .agg q.l.toArray, .int .i64 0]) (CtxA wA w0 X (M' ++ M))) :
    CallVC Tryz.prog (CtxA wA w0 X M) 59 #[.agg c.l.toArray, .agg f.l.toArray] K Z := by
  obtain ⟨task, Ap, np, cp, path, fn, pc, Al, nl, cl, loc, As, ns, cs, stk, Ak, nk, ck, kids, many, spent, fail⟩ := f
  obtain ⟨hc, hf, f0, f1, p0, p1, hns, hvs, hsp⟩ := hs
  obtain ⟨hpa, hlo, hst, hki⟩ := hf
  have l1 := hlo.len
  have l2 := hst.len
  have l3 := hki.len
  have l4 := hlo.sm
  have l5 := hst.cap
  have hnf := hc.nf
  have hnm := hc.sm
  dsimp only at hop hpa hlo hst hki l1 l2 l3 l4 l5 f0 f1 p0 p1 hns hvs hsp
  subst l1 l2 l3
  have hflt : fn.toNat < c.funs.length := by omega
  have hbe := bodyAt_eq (c := c) hflt
  obtain ⟨hir, hil, him⟩ := hc.ins _ hflt
  rw [← hbe] at hir hil him
  rw [insL_flat] at hir
  have hplt : pc.toNat < (bodyAt c fn).ins.length := by omega
  have hie : insAt (bodyAt c fn) pc = (bodyAt c fn).ins[pc.toNat] := by simp [insAt, List.getD, hplt]
  have hS : stp c ⟨task, Ap, np, cp, path, fn, pc, Al, loc.length, cl, loc, As, stk.length, cs, stk, Ak, kids.length, ck, kids, many, spent, fail⟩ = instrP (kOf c ⟨task, Ap, np, cp, path, fn, pc, Al, loc.length, cl, loc, As, stk.length, cs, stk, Ak, kids.length, ck, kids, many, spent, fail⟩ none 0 none 0) (fun a => (bodyAt c a).args) ⟨pc, spent, fail, loc, stk⟩ (insAt (bodyAt c fn) pc) := stepP_in (by show ¬ spent = 2000; omega) ⟨p0, p1⟩ (by exact ⟨by show 1 ≤ (insAt (bodyAt c fn) pc).op; omega, by show (insAt (bodyAt c fn) pc).op < 20; omega⟩)
  generalize hii : insAt (bodyAt c fn) pc = ii at hop hie hS
  obtain ⟨op, ia, ib, ic⟩ := ii
  dsimp only at hop
  subst hop
  rw [instr_19 rfl] at hS
  dsimp only [PF.two, callP, PF.nx, PF.pop, PF.at_, kOf] at hS
  have hfA : FrOk wA ⟨task, Ap, np, cp, path, fn, pc, Al, loc.length, cl, loc, As, stk.length, cs, stk, Ak, kids.length, ck, kids, many, spent, fail⟩ := ⟨hpa, hlo, hst, hki⟩
  have hvd : valsB (stk.drop (stk.length - 2)) = true := List.all_eq_true.2 fun x hx => List.all_eq_true.1 hvs x (List.mem_of_mem_drop hx)
  refine it59 (args := [_, _]) (by rfl) ?_
  intro w2 X2
  dsimp only [FrP.l]
  conv => whnf
  repeat' (first | (refine JoinVC.go ?_; conv => whnf) | (refine RetA.go ?_; conv => whnf) | (exact RetT.drop (K := K) M (by repeat (first | exact List.Sublist.refl _ | refine List.Sublist.cons_cons _ ?_ | refine List.Sublist.cons _ ?_)) (he (by rw [hS]; repeat (first | refine (if_pos (by first | omega | assumption)).trans ?_ | refine (if_neg (by first | omega | assumption | (intro hh; rw [haw] at hh; cases hh))).trans ?_ | rfl | (simp [pfF, qp, q0Q, pairP]; done))))) | (exact RetT.drop (K := K) (((.slice A1 (stk.length - 2 + 1) c1, .row 3 1 (is (stk.take (stk.length - 2) ++ [pairP 19 ((stk.drop (stk.length - 2)).getD 0 0) ((stk.drop (stk.length - 2)).getD 1 0)]))) : Value × DA) :: M) (by repeat (first | exact List.Sublist.refl _ | refine List.Sublist.cons_cons _ ?_ | refine List.Sublist.cons _ ?_)) (hg ⟨task, Ap, np, cp, path, fn, pc + 1, Al, loc.length, cl, loc, A1, stk.length - 2 + 1, c1, stk.take (stk.length - 2) ++ [pairP 19 ((stk.drop (stk.length - 2)).getD 0 0) ((stk.drop (stk.length - 2)).getD 1 0)], Ak, kids.length, ck, kids, many, spent + 1, fail⟩ [((.slice A1 (stk.length - 2 + 1) c1, .row 3 1 (is (stk.take (stk.length - 2) ++ [pairP 19 ((stk.drop (stk.length - 2)).getD 0 0) ((stk.drop (stk.length - 2)).getD 1 0)]))) : Value × DA)] (by rw [hS]; repeat (first | refine (if_pos (by first | omega | assumption)).trans ?_ | refine (if_neg (by first | omega | assumption | (intro hh; rw [haw] at hh; cases hh))).trans ?_ | rfl | (simp [pfF, qp, q0Q, pairP]; done))) ⟨rfl, ⟨rfl, rfl, rfl, rfl⟩, rfl, ⟨rfl, rfl, rfl, rfl⟩, rfl, .inl ⟨rfl, rfl, rfl, rfl⟩, .inr (List.Mem.head _)⟩)) | (refine cutLoN (stk.length - 2) 2 (by exact (wrapI (by omega)).trans (by omega)) (by omega) ?_; conv => whnf) | (refine idxOI (topO hst (stk.length - 2) 2 (by omega)) 0 rfl (by decide) (fun b3 o3 hA3 hcl3 => ?_); conv => whnf) | (refine idxOI (topO hst (stk.length - 2) 2 (by omega)) 1 rfl (by decide) (fun b3 o3 hA3 hcl3 => ?_); conv => whnf) | (refine ldO (by assumption) (tab_ok _ _ (by rfl)) (by rfl) ?_; conv => whnf) | (refine pair08_vc (by decide) (vals_at hvd (by simp; omega)) (vals_at hvd (by simp; omega)) ?_; conv => whnf) | (refine CallVC.anchor [] _ en116 rfl (fun E w Y hE => passed08_vc (f := ⟨task, Ap, np, cp, path, fn, pc, Al, loc.length, cl, loc, As, stk.length, cs, stk, Ak, kids.length, ck, kids, many, spent, fail⟩) (m := 2) (ls := [pairP 19 ((stk.drop (stk.length - 2)).getD 0 0) ((stk.drop (stk.length - 2)).getD 1 0)]) (hE.fr hfA) (by first | omega | rfl) (by show 2 ≤ stk.length; omega) hns (hE.ownI (xs := [pairP 19 ((stk.drop (stk.length - 2)).getD 0 0) ((stk.drop (stk.length - 2)).getD 1 0)]) (List.Mem.head _) (by decide)) (by decide) ⟨by show -1000000 ≤ pc; omega, by show pc ≤ 1000000; omega⟩ ⟨by show -1000000 ≤ spent; omega, by show spent ≤ 1000000; omega⟩ (fun A1 c1 hc1 hA1 => RetN.to _ rfl ?_)); conv => whnf) | (refine idxF hc f0 f1 (fun b' o' hcl => ?_); conv => whnf) | (refine ldO (hcl 2 _ rfl) (tab_ok _ _ (by rfl)) (by rfl) ?_; conv => whnf) | (refine idxOG InsP.l 4 InsP.l_len (by omega) hir hil pc.toNat (by omega) hplt (fun b'' o'' hA hcl2 => ?_); rw [← hie] at hcl2; conv => whnf) | (refine ldsO [.int .i64 19, .int .i64 ia, .int .i64 ib, .int .i64 ic] hcl2 (tab_ok _ _ (by rfl)) (by rfl) (by rfl) ?_; conv => whnf) | (refine ia114 (by rfl) ?_; intro w1 X1; conv => whnf) | (refine awaits08_vc (f := ⟨task, Ap, np, cp, path, fn, pc, Al, loc.length, cl, loc, As, stk.length, cs, stk, Ak, kids.length, ck, kids, many, spent, fail⟩) hki (fun haw => ?_) (fun haw => ?_) <;> conv => whnf) | (refine is08_vc (fun hv => ?_) (fun hv => ?_) <;> simp only [valB, Bool.and_eq_true, decide_eq_true_eq, Bool.and_eq_false_imp, decide_eq_false_iff_not] at hv <;> conv => whnf) | (refine bsA el23 (by rfl) ?_; (conv => whnf); refine ⟨by rfl, fun bl => ?_⟩; conv => whnf) | (refine RetA.go ?_; conv => whnf) | (refine And.intro ?_ ?_ <;> conv => whnf) | (refine splitB.dec (fun hb => ?_) (fun hb => ?_) <;> first | (exfalso; omega) | (conv => whnf)) | (refine splitB.ndec (fun hb => ?_) (fun hb => ?_) <;> first | (exfalso; omega) | (conv => whnf)) | (refine splitB.eqI (fun hb => ?_) (fun hb => ?_) <;> first | (exfalso; omega) | (conv => whnf)) | (refine splitB.neI (fun hb => ?_) (fun hb => ?_) <;> first | (exfalso; omega) | (conv => whnf)))
set_option maxHeartbeats 8000000 in
theorem step08_eA {c : CodeP} {f : FrP} (hc : CodeOk wA c) (f0 : 0 ≤ f.fn) (f1 : f.fn < c.nf) (hsp : f.spent = 2000)
    (he : K (.tuple #[.agg f.l.toArray, .agg (q0Q 0 0 0 0 0 0 0).l.toArray, .int .i64 11]) (CtxA wA w0 X M)) :
    CallVC Tryz.prog (CtxA wA w0 X M) 59 #[.agg c.l.toArray, .agg f.l.toArray] K Z := by
  obtain ⟨task, Ap, np, cp, path, fn, pc, Al, nl, cl, loc, As, ns, cs, stk, Ak, nk, ck, kids, many, spent, fail⟩ := f
  dsimp only at *
  have hnf := hc.nf
  have hnm := hc.sm
  subst hsp
  refine it59 (args := [_, _]) (by rfl) ?_
  intro w2 X2
  dsimp only [FrP.l]
  conv => whnf
  repeat' (first | (refine JoinVC.go ?_; conv => whnf) | (refine RetA.go ?_; conv => whnf) | (exact RetT.drop (K := K) M (by repeat (first | exact List.Sublist.refl _ | refine List.Sublist.cons_cons _ ?_ | refine List.Sublist.cons _ ?_)) he) | (refine idxF hc f0 f1 (fun b' o' hcl => ?_); conv => whnf) | (refine ldO (hcl 2 _ rfl) (tab_ok _ _ (by rfl)) (by rfl) ?_; conv => whnf) | (refine idxOG InsP.l 4 InsP.l_len (by omega) hir hil pc.toNat (by omega) hplt (fun b'' o'' hA hcl2 => ?_); rw [← hie] at hcl2; conv => whnf) | (refine ldsO [.int .i64 op, .int .i64 ia, .int .i64 ib, .int .i64 ic] hcl2 (tab_ok _ _ (by rfl)) (by rfl) (by rfl) ?_; conv => whnf) | (refine ia114 (by rfl) ?_; intro w1 X1; conv => whnf) | (refine RetA.go ?_; conv => whnf) | (refine And.intro ?_ ?_ <;> conv => whnf) | (refine splitB.dec (fun hb => ?_) (fun hb => ?_) <;> first | (exfalso; omega) | (conv => whnf)) | (refine splitB.ndec (fun hb => ?_) (fun hb => ?_) <;> first | (exfalso; omega) | (conv => whnf)) | (refine splitB.eqI (fun hb => ?_) (fun hb => ?_) <;> first | (exfalso; omega) | (conv => whnf)) | (refine splitB.neI (fun hb => ?_) (fun hb => ?_) <;> first | (exfalso; omega) | (conv => whnf)))
set_option maxHeartbeats 8000000 in
theorem step08_eB {c : CodeP} {f : FrP} (hc : CodeOk wA c) (f0 : 0 ≤ f.fn) (f1 : f.fn < c.nf) (hsp : 0 ≤ f.spent ∧ f.spent < 2000) (hp : f.pc = (bodyAt c f.fn).ni)
    (he : K (.tuple #[.agg f.l.toArray, .agg (q0Q 0 0 0 0 0 0 0).l.toArray, .int .i64 1]) (CtxA wA w0 X M)) :
    CallVC Tryz.prog (CtxA wA w0 X M) 59 #[.agg c.l.toArray, .agg f.l.toArray] K Z := by
  obtain ⟨task, Ap, np, cp, path, fn, pc, Al, nl, cl, loc, As, ns, cs, stk, Ak, nk, ck, kids, many, spent, fail⟩ := f
  dsimp only at *
  have hnf := hc.nf
  have hnm := hc.sm
  subst hp
  refine it59 (args := [_, _]) (by rfl) ?_
  intro w2 X2
  dsimp only [FrP.l]
  conv => whnf
  repeat' (first | (refine JoinVC.go ?_; conv => whnf) | (refine RetA.go ?_; conv => whnf) | (exact RetT.drop (K := K) M (by repeat (first | exact List.Sublist.refl _ | refine List.Sublist.cons_cons _ ?_ | refine List.Sublist.cons _ ?_)) he) | (refine idxF hc f0 f1 (fun b' o' hcl => ?_); conv => whnf) | (refine ldO (hcl 2 _ rfl) (tab_ok _ _ (by rfl)) (by rfl) ?_; conv => whnf) | (refine idxOG InsP.l 4 InsP.l_len (by omega) hir hil pc.toNat (by omega) hplt (fun b'' o'' hA hcl2 => ?_); rw [← hie] at hcl2; conv => whnf) | (refine ldsO [.int .i64 op, .int .i64 ia, .int .i64 ib, .int .i64 ic] hcl2 (tab_ok _ _ (by rfl)) (by rfl) (by rfl) ?_; conv => whnf) | (refine ia114 (by rfl) ?_; intro w1 X1; conv => whnf) | (refine RetA.go ?_; conv => whnf) | (refine And.intro ?_ ?_ <;> conv => whnf) | (refine splitB.dec (fun hb => ?_) (fun hb => ?_) <;> first | (exfalso; omega) | (conv => whnf)) | (refine splitB.ndec (fun hb => ?_) (fun hb => ?_) <;> first | (exfalso; omega) | (conv => whnf)) | (refine splitB.eqI (fun hb => ?_) (fun hb => ?_) <;> first | (exfalso; omega) | (conv => whnf)) | (refine splitB.neI (fun hb => ?_) (fun hb => ?_) <;> first | (exfalso; omega) | (conv => whnf)))
set_option maxHeartbeats 8000000 in
theorem step08_eC {c : CodeP} {f : FrP} (hs : StepOk wA c f) (hop : (insAt (bodyAt c f.fn) f.pc).op < 1 ∨ 19 < (insAt (bodyAt c f.fn) f.pc).op)
    (he : K (.tuple #[.agg f.l.toArray, .agg (q0Q 0 0 0 0 0 0 0).l.toArray, .int .i64 1]) (CtxA wA w0 X M)) :
    CallVC Tryz.prog (CtxA wA w0 X M) 59 #[.agg c.l.toArray, .agg f.l.toArray] K Z := by
  obtain ⟨task, Ap, np, cp, path, fn, pc, Al, nl, cl, loc, As, ns, cs, stk, Ak, nk, ck, kids, many, spent, fail⟩ := f
  obtain ⟨hc, hf, f0, f1, p0, p1, hns, hvs, hsp⟩ := hs
  have hnf := hc.nf
  have hnm := hc.sm
  dsimp only at *
  have hflt : fn.toNat < c.funs.length := by omega
  have hbe := bodyAt_eq (c := c) hflt
  obtain ⟨hir, hil, him⟩ := hc.ins _ hflt
  rw [← hbe] at hir hil him
  rw [insL_flat] at hir
  have hplt : pc.toNat < (bodyAt c fn).ins.length := by omega
  have hie : insAt (bodyAt c fn) pc = (bodyAt c fn).ins[pc.toNat] := by simp [insAt, List.getD, hplt]
  generalize hii : insAt (bodyAt c fn) pc = ii at hop hie
  obtain ⟨op, ia, ib, ic⟩ := ii
  dsimp only at hop
  refine it59 (args := [_, _]) (by rfl) ?_
  intro w2 X2
  dsimp only [FrP.l]
  conv => whnf
  repeat' (first | (refine JoinVC.go ?_; conv => whnf) | (refine RetA.go ?_; conv => whnf) | (exact RetT.drop (K := K) M (by repeat (first | exact List.Sublist.refl _ | refine List.Sublist.cons_cons _ ?_ | refine List.Sublist.cons _ ?_)) he) | (refine idxF hc f0 f1 (fun b' o' hcl => ?_); conv => whnf) | (refine ldO (hcl 2 _ rfl) (tab_ok _ _ (by rfl)) (by rfl) ?_; conv => whnf) | (refine idxOG InsP.l 4 InsP.l_len (by omega) hir hil pc.toNat (by omega) hplt (fun b'' o'' hA hcl2 => ?_); rw [← hie] at hcl2; conv => whnf) | (refine ldsO [.int .i64 op, .int .i64 ia, .int .i64 ib, .int .i64 ic] hcl2 (tab_ok _ _ (by rfl)) (by rfl) (by rfl) ?_; conv => whnf) | (refine ia114 (by rfl) ?_; intro w1 X1; conv => whnf) | (refine RetA.go ?_; conv => whnf) | (refine And.intro ?_ ?_ <;> conv => whnf) | (refine splitB.dec (fun hb => ?_) (fun hb => ?_) <;> first | (exfalso; omega) | (conv => whnf)) | (refine splitB.ndec (fun hb => ?_) (fun hb => ?_) <;> first | (exfalso; omega) | (conv => whnf)) | (refine splitB.eqI (fun hb => ?_) (fun hb => ?_) <;> first | (exfalso; omega) | (conv => whnf)) | (refine splitB.neI (fun hb => ?_) (fun hb => ?_) <;> first | (exfalso; omega) | (conv => whnf)))
end
end Go.Proofs.YtgaopcbjhepklaaGreat
