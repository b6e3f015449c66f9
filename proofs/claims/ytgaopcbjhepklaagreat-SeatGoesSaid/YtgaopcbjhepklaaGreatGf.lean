/- A frame is told what it asked for. -/
import Derived.Test.YtgaopcbjhepklaaGreatZg
import Derived.Test.YtgaopcbjhepklaaGreatGe
namespace Go.Proofs.YtgaopcbjhepklaaGreat
open Go.RowKit
set_option linter.unusedSimpArgs false
set_option linter.unusedVariables false
set_option maxRecDepth 100000
/-- what turns of a frame that is told -/
structure TP where
  stk : List Int
  loc : List Int
  kids : List KidP
  many : Int
def setOne (loc : List Int) (k : KidP) (v : Int) : List Int := if 0 ≤ k.dst then loc.set k.dst.toNat v else loc
def setAll : List Int → List KidP → List Int → List Int
  | loc, k :: ks, v :: vs => setAll (setOne loc k v) ks vs
  | loc, _, _ => loc
def toldP (f : FrP) (k b : Int) (vs : List Int) : Option TP :=
  if k = 1 ∨ k = 3 then (if vs.length = 1 ∧ valsB vs = true ∧ f.stk.length < 100 then some ⟨f.stk ++ vs, f.loc, f.kids, f.many⟩ else none) else
  if k = 2 then (if vs.length = 0 then some ⟨f.stk, f.loc, f.kids, f.many⟩ else none) else
  if k = 4 then (if vs.length = 1 ∧ 1 ≤ vs.getD 0 0 ∧ dstB b f.nl = true then some ⟨f.stk, f.loc, f.kids ++ [⟨vs.getD 0 0, b⟩], IntKind.i64.wrap (f.many + 1)⟩ else none) else
  if k = 5 then (if vs.length = f.kids.length ∧ valsB vs = true ∧ f.kids.all (fun k => dstB k.dst f.nl) = true then some ⟨f.stk, setAll f.loc f.kids vs, [], f.many⟩ else none) else none
abbrev zF : List Value := [.int .i64 0, .slice none 0 0, .int .i64 0, .int .i64 0, .slice none 0 0, .slice none 0 0, .slice none 0 0, .int .i64 0, .int .i64 0, .bool false]
section
variable {f : FrP} {k b : Int} {vs loc : List Int}
theorem told4 {i : Nat} (h : k = 4) (h1 : vs.length = 1) (h3 : dstB b f.nl = true) (h2 : vs.getD 0 0 ≥ 1) (h4 : i = vs.length) : toldP f k b vs = some ⟨f.stk, f.loc, f.kids ++ (vs.take i).map fun v => ⟨v, b⟩, IntKind.i64.wrap (f.many + 1)⟩ := by
  subst h4
  unfold toldP
  rw [if_neg (by omega), if_neg (by omega), if_pos h, if_pos ⟨h1, h2, h3⟩, List.take_length]
  match vs, h1 with
  | [v], _ => rfl
theorem told4n (h : k = 4) (h1 : vs.length ≠ 1 ∨ ¬ 1 ≤ vs.getD 0 0 ∨ dstB b f.nl = false) : toldP f k b vs = none := by
  unfold toldP
  rw [if_neg (by omega), if_neg (by omega), if_pos h, if_neg]
  rintro ⟨h2, h3, h4⟩
  rcases h1 with h1 | h1 | h1
  · omega
  · omega
  · rw [h1] at h4; cases h4
theorem told5 (h : k = 5) (h1 : (vs.length = f.kids.length ∧ valsB vs = true ∧ f.kids.all (fun k => dstB k.dst f.nl) = true) ∧ loc = setAll f.loc f.kids vs) : toldP f k b vs = some ⟨f.stk, loc, [], f.many⟩ := by
  unfold toldP
  rw [if_neg (by omega), if_neg (by omega), if_neg (by omega), if_pos h, if_pos h1.1, h1.2]
theorem told5n (h : k = 5) (h1 : ¬ (vs.length = f.kids.length ∧ valsB vs = true ∧ f.kids.all (fun k => dstB k.dst f.nl) = true)) : toldP f k b vs = none := by
  unfold toldP
  rw [if_neg (by omega), if_neg (by omega), if_neg (by omega), if_pos h, if_neg h1]
end
/-- a frame's rows -/
def rowsG (g : FrP) (M : EL) : EL := (.slice g.Ak g.nk g.ck, .row 67 2 (kidL g.kids)) :: (.slice g.As g.ns g.cs, .row 3 1 (is g.stk)) :: (.slice g.Al g.nl g.cl, .row 3 1 (is g.loc)) :: (.slice g.Ap g.np g.cp, .row 3 1 (is g.path)) :: M
theorem kidL_append : ∀ (xs ys : List KidP), kidL (xs ++ ys) = kidL xs ++ kidL ys
  | [], ys => rfl
  | k :: xs, ys => by simp only [List.cons_append, kidL, kidL_append xs ys]
theorem setAll_take : ∀ (ks : List KidP) (vs loc : List Int) (i : Nat) (h : i < ks.length) (h2 : i < vs.length), setAll loc (ks.take (i + 1)) (vs.take (i + 1)) = setOne (setAll loc (ks.take i) (vs.take i)) ks[i] vs[i]
  | k :: ks, v :: vs, loc, 0, h, h2 => by simp [setAll]
  | k :: ks, v :: vs, loc, i + 1, h, h2 => by
    simp only [List.take_succ_cons, setAll, List.getElem_cons_succ]
    exact setAll_take ks vs _ i (by simpa using h) (by simpa using h2)
theorem setOne_len (loc : List Int) (k : KidP) (v : Int) : (setOne loc k v).length = loc.length := by
  unfold setOne; split <;> simp
theorem setAll_len : ∀ (ks : List KidP) (vs loc : List Int), (setAll loc ks vs).length = loc.length
  | k :: ks, v :: vs, loc => by rw [setAll, setAll_len ks vs, setOne_len]
  | [], vs, _ => by cases vs <;> rfl
  | _ :: _, [], _ => rfl
theorem all_take {α : Type} (p : α → Bool) : ∀ (l : List α) (i : Nat) (h : i < l.length), (l.take (i + 1)).all p = ((l.take i).all p && p l[i])
  | a :: l, 0, h => by simp
  | a :: l, i + 1, h => by simp only [List.take_succ_cons, List.all_cons, List.getElem_cons_succ, all_take p l i (by simpa using h), Bool.and_assoc]
theorem all_not {α : Type} (p : α → Bool) (l : List α) (i : Nat) (h : i < l.length) (hp : p l[i] = false) : l.all p = false := by
  cases e : l.all p with
  | false => rfl
  | true => have := List.all_eq_true.1 e l[i] (List.getElem_mem h); rw [hp] at this; cases this
theorem kids4 {ks : List KidP} {vs : List Int} {b : Int} {i : Nat} (h : i < vs.length) : kidL (ks ++ (vs.take i).map fun v => ⟨v, b⟩) ++ [.int .i64 (vs.getD i 0), .int .i64 b] = kidL (ks ++ (vs.take (i + 1)).map fun v => ⟨v, b⟩) := by
  rw [List.take_add_one, List.getElem?_eq_getElem h, Option.toList_some, List.map_append, ← List.append_assoc, kidL_append _ (List.map _ [_])]
  simp [kidL, List.getD, h]
def Inv5 (f : FrP) (vs : List Int) (i : Nat) (rg : Bool) (loc : List Int) : Prop := i ≤ f.nk ∧ loc.length = f.nl ∧ (rg = true → (vs.length = f.kids.length ∧ valsB vs = true) ∧ (f.kids.take i).all (fun k => dstB k.dst f.nl) = true ∧ loc = setAll f.loc (f.kids.take i) (vs.take i)) ∧ (rg = false → ¬ (vs.length = f.kids.length ∧ valsB vs = true ∧ f.kids.all (fun k => dstB k.dst f.nl) = true))
section
variable {f : FrP} {vs loc : List Int} {i : Nat} {rg : Bool}
theorem Inv5.t0 (h1 : vs.length = f.kids.length) (h2 : valsB vs = true) (h3 : f.nl = f.loc.length) : Inv5 f vs 0 true f.loc := ⟨Nat.zero_le _, h3.symm, fun _ => ⟨⟨h1, h2⟩, rfl, by cases vs <;> cases f.kids <;> rfl⟩, fun h => absurd h (by decide)⟩
theorem Inv5.f0 (h1 : ¬ (vs.length = f.kids.length ∧ valsB vs = true)) (h3 : f.nl = f.loc.length) : Inv5 f vs 0 false f.loc := ⟨Nat.zero_le _, h3.symm, fun h => absurd h (by decide), fun _ h => h1 ⟨h.1, h.2.1⟩⟩
theorem Inv5.ff (h : Inv5 f vs i false loc) (hi : i < f.nk) : Inv5 f vs (i + 1) false loc := ⟨hi, h.2.1, fun h => absurd h (by decide), h.2.2.2⟩
theorem Inv5.tf (h : Inv5 f vs i true loc) (hi : i < f.nk) (hj : i < f.kids.length) (hd : dstB f.kids[i].dst f.nl = false) : Inv5 f vs (i + 1) false loc := ⟨hi, h.2.1, fun h => absurd h (by decide), fun _ hh => by
  have := all_not (fun k : KidP => dstB k.dst f.nl) f.kids i hj hd
  rw [hh.2.2] at this
  cases this⟩
theorem Inv5.tt (h : Inv5 f vs i true loc) (hi : i < f.nk) (hj : i < f.kids.length) (hd : dstB f.kids[i].dst f.nl = true) : Inv5 f vs (i + 1) true (setOne loc f.kids[i] (vs.getD i 0)) := by
  obtain ⟨h1, h2, h3, _⟩ := h
  obtain ⟨h4, h5, h6⟩ := h3 rfl
  have hv : i < vs.length := by omega
  refine ⟨hi, by rw [setOne_len]; exact h2, fun _ => ⟨h4, by rw [all_take _ _ _ hj, h5, hd]; rfl, ?_⟩, fun h => absurd h (by decide)⟩
  rw [setAll_take _ _ _ _ hj hv, ← h6]
  congr 1
  simp [List.getD, hv]
theorem Inv5.ts (h : Inv5 f vs i true loc) (hi : i < f.nk) (hj : i < f.kids.length) (hd : dstB f.kids[i].dst f.nl = true) (h0 : 0 ≤ f.kids[i].dst) : Inv5 f vs (i + 1) true (loc.set f.kids[i].dst.toNat (vs.getD i 0)) := by
  have := h.tt hi hj hd
  rwa [setOne, if_pos h0] at this
theorem Inv5.tn (h : Inv5 f vs i true loc) (hi : i < f.nk) (hj : i < f.kids.length) (hd : dstB f.kids[i].dst f.nl = true) (h0 : ¬ 0 ≤ f.kids[i].dst) : Inv5 f vs (i + 1) true loc := by
  have := h.tt hi hj hd
  rwa [setOne, if_neg h0] at this
theorem Inv5.endT (h : Inv5 f vs i true loc) (hi : ¬ i < f.nk) (hl : f.nk = f.kids.length) : (vs.length = f.kids.length ∧ valsB vs = true ∧ f.kids.all (fun k => dstB k.dst f.nl) = true) ∧ loc = setAll f.loc f.kids vs := by
  obtain ⟨h1, h2, h3, _⟩ := h
  obtain ⟨h4, h5, h6⟩ := h3 rfl
  rw [List.take_of_length_le (by omega)] at h5 h6
  rw [List.take_of_length_le (by omega)] at h6
  exact ⟨⟨h4.1, h4.2, h5⟩, h6⟩
end
section
variable {wA w0 : World} {X : Nat → Prop} {M : EL} {K : Value → Ctx → Prop} {Z : PanK}
theorem clone2_vc {f : FrP} (hf : FrOk wA f) (hk : ∀ Ap cp Al cl As cs Ak ck, Caps f Ap cp Al cl As cs Ak ck → K (.agg #[.int .i64 f.task, .slice Ap f.np cp, .int .i64 f.fn, .int .i64 f.pc, .slice Al f.nl cl, .slice As f.ns cs, .slice Ak f.nk ck, .int .i64 f.many, .int .i64 f.spent, .bool f.fail]) (CtxA wA w0 X (rowsF f Ap cp Al cl As cs Ak ck M))) : CallVC Tryz.prog (CtxA wA w0 X M) 54 #[.agg f.l.toArray] K Z :=
  clone_vc hf hk
theorem values2_vc {A : Option Addr} {n c : Nat} {xs : List Int} (h : OldI wA A n c xs) (h1 : valsB xs = true → K (.bool true) (CtxA wA w0 X M)) (h2 : valsB xs = false → K (.bool false) (CtxA wA w0 X M)) : CallVC Tryz.prog (CtxA wA w0 X M) 89 #[.slice A n c] K Z := by
  refine values_vc h ?_
  cases e : valsB xs with
  | false => exact h2 e
  | true => exact h1 e
theorem dstB_t {d l : Int} (h : d = -1 ∨ 0 ≤ d ∧ d < l) : dstB d l = true := by simp only [dstB, Bool.or_eq_true, Bool.and_eq_true, decide_eq_true_eq]; exact h
theorem dstB_f {d l : Int} (h : ¬ (d = -1 ∨ 0 ≤ d ∧ d < l)) : dstB d l = false := by
  cases e : dstB d l with
  | false => rfl
  | true => simp only [dstB, Bool.or_eq_true, Bool.and_eq_true, decide_eq_true_eq] at e; exact absurd e h
set_option maxHeartbeats 4000000 in
theorem dest2_vc {d l : Int} (h1 : dstB d l = true → (d = -1 ∨ 0 ≤ d ∧ d < l) → K (.bool true) (CtxA wA w0 X M)) (h2 : dstB d l = false → ¬ (d = -1 ∨ 0 ≤ d ∧ d < l) → K (.bool false) (CtxA wA w0 X M)) : CallVC Tryz.prog (CtxA wA w0 X M) 88 #[.int .i64 d, .int .i64 l] K Z := by
  have key : ∀ b : Bool, (b = true ↔ (d = -1 ∨ 0 ≤ d ∧ d < l)) → K (.bool b) (CtxA wA w0 X M) := fun b hb => by
    cases b with
    | false => exact h2 (dstB_f fun h => by have := hb.2 h; cases this) (fun h => by have := hb.2 h; cases this)
    | true => exact h1 (dstB_t (hb.1 rfl)) (hb.1 rfl)
  refine it88 (by rfl) ?_
  intro w2 X2
  conv => whnf
  repeat' (first
    | (refine RetT.drop (K := K) M (by repeat (first | exact List.Sublist.refl _ | refine List.Sublist.cons_cons _ ?_ | refine List.Sublist.cons _ ?_)) (key _ (by first | (simp; omega) | simp))) 
    | (refine ia57 (by rfl) ?_; intro w1 X1; conv => whnf)
    | (refine JoinVC.go ?_; conv => whnf)
    | (refine RetA.go ?_; conv => whnf)
    | (refine PanA.go ?_; conv => whnf)
    | (refine And.intro ?_ ?_ <;> conv => whnf)
    | (refine ldA (by repeat (first | exact List.Mem.head _ | refine List.Mem.tail _ ?_)) (tab_ok _ _ (by rfl)) (by rfl) (by rfl) ?_; conv => whnf)
    | (refine ldsA (by repeat (first | exact List.Mem.head _ | refine List.Mem.tail _ ?_)) (tab_ok _ _ (by rfl)) (by rfl) ?_; conv => whnf)
    | (refine stA (tab_ok _ _ (by rfl)) (by repeat (first | exact AtE.here | apply AtE.there)) ?_; conv => whnf)
    | (refine splitB.dec (fun hb => ?_) (fun hb => ?_) <;> first | (exfalso; omega) | (conv => whnf))
    | (refine splitB.ndec (fun hb => ?_) (fun hb => ?_) <;> first | (exfalso; omega) | (conv => whnf))
    | (refine splitB.eqI (fun hb => ?_) (fun hb => ?_) <;> first | (exfalso; omega) | (conv => whnf))
    | (refine splitB.neI (fun hb => ?_) (fun hb => ?_) <;> first | (exfalso; omega) | (conv => whnf))
    | (intro r bx; conv => whnf))
end
section
variable {wA w0 : World} {X : Nat → Prop} {M : EL} {K : Value → Ctx → Prop} {Z : PanK}
set_option maxHeartbeats 4000000 in
theorem told_vc {f : FrP} {k a b p0 p1 p2 p3 : Int} {Aq : Option Addr} {nq cq : Nat} {Av : Option Addr} {nv cv : Nat} {vs : List Int} (hf : FrOk wA f) (hv : OldI wA Av nv cv vs)
    (h1 : toldP f k b vs = none → K (.tuple #[.agg f.l.toArray, .int .i64 1]) (CtxA wA w0 X M))
    (h2 : ∀ g : FrP, toldP f k b vs = some ⟨g.stk, g.loc, g.kids, g.many⟩ → g.task = f.task → g.path = f.path → g.fn = f.fn → g.pc = f.pc → g.spent = f.spent → g.fail = f.fail → K (.tuple #[.agg g.l.toArray, .int .i64 0]) (CtxA wA w0 X (rowsG g M))) :
    CallVC Tryz.prog (CtxA wA w0 X M) 119 #[.agg f.l.toArray, .agg #[.int .i64 k, .int .i64 a, .int .i64 b, .int .i64 p0, .int .i64 p1, .int .i64 p2, .int .i64 p3, .slice Aq nq cq], .slice Av nv cv] K Z := by
  have hvl := hv.len
  have hvs := hv.sm
  have hkl := hf.kids.len
  have hks := hf.kids.sm
  have hsl := hf.stk.len
  have hss := hf.stk.sm
  refine it119 (by rfl) ?_
  intro w2 X2
  conv => whnf
  refine clone2_vc hf fun Ap cp Al cl As cs Ak ck hcaps => ?_
  conv => whnf
  repeat' (first
    | (refine values2_vc hv (fun hvb => ?_) (fun hvb => ?_) <;> conv => whnf)
    | (refine dest2_vc (fun hd hd2 => ?_) (fun hd hd2 => ?_) <;> conv => whnf)
    | (refine appI vs (SrcA.old el23 hv.rd (by simp; omega) (is_one _)) rfl (by repeat (first | exact AtE.here | apply AtE.there)) (by omega) ?_; intro A' c' hc' hA'; conv => whnf)
    | (refine idxOI hv 0 rfl (by omega) (fun b' o' hA hcl => ?_); conv => whnf)
    | (refine ldO (by assumption) (tab_ok _ _ (by rfl)) (by rfl) ?_; conv => whnf)
    | (refine RetT.drop (K := K) M (by repeat (first | exact List.Sublist.refl _ | refine List.Sublist.cons_cons _ ?_ | refine List.Sublist.cons _ ?_)) (h1 (by first | (exfalso; omega) | skip; unfold toldP; repeat (first | rfl | refine (if_pos (by first | omega | (intro h; simp_all; done) | (refine ⟨?_, ?_, ?_⟩ <;> first | assumption | omega) | (intro h; simp_all; omega) | (simp_all; omega))).trans ?_ | refine (if_neg (by first | omega | (intro h; simp_all; done) | (refine ⟨?_, ?_, ?_⟩ <;> first | assumption | omega) | (intro h; simp_all; omega) | (simp_all; omega))).trans ?_))))
    | (refine RetT.imp (K := K) (rowsG ({ f with Ap := Ap, cp := cp, Al := Al, cl := cl, As := A', ns := f.ns + nv, cs := c', stk := f.stk ++ vs, Ak := Ak, ck := ck } : FrP) M) (Imp.sub (by repeat (first | exact List.Sublist.refl _ | refine List.Sublist.cons_cons _ ?_ | refine List.Sublist.cons _ ?_))) (h2 ({ f with Ap := Ap, cp := cp, Al := Al, cl := cl, As := A', ns := f.ns + nv, cs := c', stk := f.stk ++ vs, Ak := Ak, ck := ck } : FrP) (by first | (exfalso; omega) | skip; unfold toldP; repeat (first | rfl | refine (if_pos (by first | omega | (intro h; simp_all; done) | (refine ⟨?_, ?_, ?_⟩ <;> first | assumption | omega) | (intro h; simp_all; omega) | (simp_all; omega))).trans ?_ | refine (if_neg (by first | omega | (intro h; simp_all; done) | (refine ⟨?_, ?_, ?_⟩ <;> first | assumption | omega) | (intro h; simp_all; omega) | (simp_all; omega))).trans ?_)) rfl rfl rfl rfl rfl rfl))
    | (refine RetT.imp (K := K) (rowsG ({ f with Ap := Ap, cp := cp, Al := Al, cl := cl, As := As, cs := cs, Ak := Ak, ck := ck } : FrP) M) (Imp.sub (by repeat (first | exact List.Sublist.refl _ | refine List.Sublist.cons_cons _ ?_ | refine List.Sublist.cons _ ?_))) (h2 ({ f with Ap := Ap, cp := cp, Al := Al, cl := cl, As := As, cs := cs, Ak := Ak, ck := ck } : FrP) (by first | (exfalso; omega) | skip; unfold toldP; repeat (first | rfl | refine (if_pos (by first | omega | (intro h; simp_all; done) | (refine ⟨?_, ?_, ?_⟩ <;> first | assumption | omega) | (intro h; simp_all; omega) | (simp_all; omega))).trans ?_ | refine (if_neg (by first | omega | (intro h; simp_all; done) | (refine ⟨?_, ?_, ?_⟩ <;> first | assumption | omega) | (intro h; simp_all; omega) | (simp_all; omega))).trans ?_)) rfl rfl rfl rfl rfl rfl))
    | (refine JoinVC.go ?_; conv => whnf)
    | (refine RetA.go ?_; conv => whnf)
    | (refine PanA.go ?_; conv => whnf)
    | (refine And.intro ?_ ?_ <;> conv => whnf)
    | (refine ldA (by repeat (first | exact List.Mem.head _ | refine List.Mem.tail _ ?_)) (tab_ok _ _ (by rfl)) (by rfl) (by rfl) ?_; conv => whnf)
    | (refine ldsA (by repeat (first | exact List.Mem.head _ | refine List.Mem.tail _ ?_)) (tab_ok _ _ (by rfl)) (by rfl) ?_; conv => whnf)
    | (refine stA (tab_ok _ _ (by rfl)) (by repeat (first | exact AtE.here | apply AtE.there)) ?_; conv => whnf)
    | (refine splitB.dec (fun hb => ?_) (fun hb => ?_) <;> first | (exfalso; omega) | (conv => whnf))
    | (refine splitB.ndec (fun hb => ?_) (fun hb => ?_) <;> first | (exfalso; omega) | (conv => whnf))
    | (refine splitB.eqI (fun hb => ?_) (fun hb => ?_) <;> first | (exfalso; omega) | (conv => whnf))
    | (refine splitB.neI (fun hb => ?_) (fun hb => ?_) <;> first | (exfalso; omega) | (conv => whnf))
    | (intro r bx; conv => whnf))
  · refine LoopVC.on (X := Nat × Option Addr × Nat) (fun x => [(3, .p 3 0), (4, .p 4 0), (6, .p 6 0), (7, .v (.int .i64 0)), (8, .p 8 0), (9, .v (.bool true)), (63, .v (.slice Av nv cv)), (64, .v (.int .i64 (nv : Int))), (65, .v (.int .i64 (x.1 : Int)))]) (fun x => [(3, 36, f.l), (4, 29, [.int .i64 k, .int .i64 a, .int .i64 b, .int .i64 p0, .int .i64 p1, .int .i64 p2, .int .i64 p3, .slice Aq nq cq]), (6, 36, zF), (8, 36, [.int .i64 f.task, .slice Ap f.np cp, .int .i64 f.fn, .int .i64 f.pc, .slice Al f.nl cl, .slice As f.ns cs, .slice x.2.1 (f.nk + x.1) x.2.2, .int .i64 f.many, .int .i64 f.spent, .bool f.fail])]) (fun x => CtxA wA w2 X2 (rowsF { f with nk := f.nk + x.1, kids := f.kids ++ (vs.take x.1).map fun v => ⟨v, b⟩ } Ap cp Al cl As cs x.2.1 x.2.2 M)) (fun x => x.1 ≤ nv ∧ f.nk + x.1 ≤ x.2.2 ∧ (0 < x.2.2 → ∃ b, x.2.1 = some ⟨b, 0, none⟩)) (fun x => nv - x.1) (0, Ak, ck) (hC := by simp [rowsF]) ⟨Nat.zero_le _, hcaps.hck, hcaps.hAk⟩ ⟨rfl, rfl, rfl, rfl, rfl, rfl, rfl, rfl, rfl, trivial⟩ ⟨rfl, rfl, rfl, rfl, trivial⟩ ?_; rintro ⟨i, Ak', ck'⟩ r' ⟨hi, hc', hA'⟩; replace hi : i ≤ nv := hi; replace hc' : f.nk + i ≤ ck' := hc'; replace hA' : 0 < ck' → ∃ b, Ak' = some ⟨b, 0, none⟩ := hA'; conv => whnf
    repeat' (first
      | (refine idxOI hv i rfl (by omega) (fun b' o' hA hcl => ?_); conv => whnf)
      | (refine ldO (by assumption) (tab_ok _ _ (by rfl)) (by rfl) ?_; conv => whnf)
      | (refine bsA el34 (by rfl) ?_; (conv => whnf); refine ⟨by rfl, fun bl => ?_⟩; conv => whnf)
      | (refine appD el34 (SrcA.own el34 (by repeat (first | exact List.Mem.head _ | refine List.Mem.tail _ ?_)) (by intro u hu; simp only [List.mem_cons, List.not_mem_nil, or_false] at hu; rcases hu with rfl | rfl <;> rfl) 1) (by repeat (first | exact AtE.here | apply AtE.there)) (by omega) ?_; intro A'' c'' hc'' hA''; conv => whnf)
      | (refine JoinVC.go ?_; conv => whnf)
      | (refine And.intro ?_ ?_ <;> conv => whnf)
      | (refine ldA (by repeat (first | exact List.Mem.head _ | refine List.Mem.tail _ ?_)) (tab_ok _ _ (by rfl)) (by rfl) (by rfl) ?_; conv => whnf)
      | (refine ldsA (by repeat (first | exact List.Mem.head _ | refine List.Mem.tail _ ?_)) (tab_ok _ _ (by rfl)) (by rfl) ?_; conv => whnf)
      | (refine stA (tab_ok _ _ (by rfl)) (by repeat (first | exact AtE.here | apply AtE.there)) ?_; conv => whnf)
      | (refine splitB.dec (fun hb => ?_) (fun hb => ?_) <;> first | (exfalso; omega) | (conv => whnf))
      | (refine splitB.ndec (fun hb => ?_) (fun hb => ?_) <;> first | (exfalso; omega) | (conv => whnf)))
    · refine rnd (X := Nat × Option Addr × Nat) (i + 1, _, _) (by show nv - (i + 1) < nv - i; omega) ⟨by show i + 1 ≤ nv; omega, by assumption, by assumption⟩ ⟨rfl, rfl, rfl, rfl, rfl, rfl, rfl, rfl, ixw (by omega), trivial⟩ ⟨rfl, rfl, rfl, rfl, trivial⟩ (hC := by simp only [rowsF]; rw [← kids4 (by omega)]; rfl)
    · refine RetT.imp (K := K) (rowsG ({ f with Ap := Ap, cp := cp, Al := Al, cl := cl, As := As, cs := cs, Ak := Ak', nk := f.nk + i, ck := ck', kids := f.kids ++ (vs.take i).map fun v => ⟨v, b⟩, many := IntKind.i64.wrap (f.many + 1) } : FrP) M) (Imp.sub (by repeat (first | exact List.Sublist.refl _ | refine List.Sublist.cons_cons _ ?_ | refine List.Sublist.cons _ ?_))) (h2 ({ f with Ap := Ap, cp := cp, Al := Al, cl := cl, As := As, cs := cs, Ak := Ak', nk := f.nk + i, ck := ck', kids := f.kids ++ (vs.take i).map fun v => ⟨v, b⟩, many := IntKind.i64.wrap (f.many + 1) } : FrP) (told4 (by omega) (by omega) (by assumption) (by omega) (by omega)) rfl rfl rfl rfl rfl rfl)
  · refine LoopVC.on (X := Nat × Option Addr × Nat) (fun x => [(3, .p 3 0), (4, .p 4 0), (6, .p 6 0), (7, .v (.int .i64 0)), (8, .p 8 0), (9, .v (.bool false)), (63, .v (.slice Av nv cv)), (64, .v (.int .i64 (nv : Int))), (65, .v (.int .i64 (x.1 : Int)))]) (fun x => [(3, 36, f.l), (4, 29, [.int .i64 k, .int .i64 a, .int .i64 b, .int .i64 p0, .int .i64 p1, .int .i64 p2, .int .i64 p3, .slice Aq nq cq]), (6, 36, zF), (8, 36, [.int .i64 f.task, .slice Ap f.np cp, .int .i64 f.fn, .int .i64 f.pc, .slice Al f.nl cl, .slice As f.ns cs, .slice x.2.1 (f.nk + x.1) x.2.2, .int .i64 f.many, .int .i64 f.spent, .bool f.fail])]) (fun x => CtxA wA w2 X2 (rowsF { f with nk := f.nk + x.1, kids := f.kids ++ (vs.take x.1).map fun v => ⟨v, b⟩ } Ap cp Al cl As cs x.2.1 x.2.2 M)) (fun x => x.1 ≤ nv ∧ f.nk + x.1 ≤ x.2.2 ∧ (0 < x.2.2 → ∃ b, x.2.1 = some ⟨b, 0, none⟩)) (fun x => nv - x.1) (0, Ak, ck) (hC := by simp [rowsF]) ⟨Nat.zero_le _, hcaps.hck, hcaps.hAk⟩ ⟨rfl, rfl, rfl, rfl, rfl, rfl, rfl, rfl, rfl, trivial⟩ ⟨rfl, rfl, rfl, rfl, trivial⟩ ?_; rintro ⟨i, Ak', ck'⟩ r' ⟨hi, hc', hA'⟩; replace hi : i ≤ nv := hi; replace hc' : f.nk + i ≤ ck' := hc'; replace hA' : 0 < ck' → ∃ b, Ak' = some ⟨b, 0, none⟩ := hA'; conv => whnf
    repeat' (first
      | (refine idxOI hv i rfl (by omega) (fun b' o' hA hcl => ?_); conv => whnf)
      | (refine ldO (by assumption) (tab_ok _ _ (by rfl)) (by rfl) ?_; conv => whnf)
      | (refine bsA el34 (by rfl) ?_; (conv => whnf); refine ⟨by rfl, fun bl => ?_⟩; conv => whnf)
      | (refine appD el34 (SrcA.own el34 (by repeat (first | exact List.Mem.head _ | refine List.Mem.tail _ ?_)) (by intro u hu; simp only [List.mem_cons, List.not_mem_nil, or_false] at hu; rcases hu with rfl | rfl <;> rfl) 1) (by repeat (first | exact AtE.here | apply AtE.there)) (by omega) ?_; intro A'' c'' hc'' hA''; conv => whnf)
      | (refine JoinVC.go ?_; conv => whnf)
      | (refine And.intro ?_ ?_ <;> conv => whnf)
      | (refine ldA (by repeat (first | exact List.Mem.head _ | refine List.Mem.tail _ ?_)) (tab_ok _ _ (by rfl)) (by rfl) (by rfl) ?_; conv => whnf)
      | (refine ldsA (by repeat (first | exact List.Mem.head _ | refine List.Mem.tail _ ?_)) (tab_ok _ _ (by rfl)) (by rfl) ?_; conv => whnf)
      | (refine stA (tab_ok _ _ (by rfl)) (by repeat (first | exact AtE.here | apply AtE.there)) ?_; conv => whnf)
      | (refine splitB.dec (fun hb => ?_) (fun hb => ?_) <;> first | (exfalso; omega) | (conv => whnf))
      | (refine splitB.ndec (fun hb => ?_) (fun hb => ?_) <;> first | (exfalso; omega) | (conv => whnf)))
    · refine rnd (X := Nat × Option Addr × Nat) (i + 1, _, _) (by show nv - (i + 1) < nv - i; omega) ⟨by show i + 1 ≤ nv; omega, by assumption, by assumption⟩ ⟨rfl, rfl, rfl, rfl, rfl, rfl, rfl, rfl, ixw (by omega), trivial⟩ ⟨rfl, rfl, rfl, rfl, trivial⟩ (hC := by simp only [rowsF]; rw [← kids4 (by omega)]; rfl)
    · refine RetT.drop (K := K) M (by repeat (first | exact List.Sublist.refl _ | refine List.Sublist.cons_cons _ ?_ | refine List.Sublist.cons _ ?_)) (h1 (told4n (by omega) (by first | (exact .inl (by omega)) | (exact .inr (.inl (by omega))) | (exact .inr (.inr (by assumption))))))
  · refine LoopVC.on (X := Nat × Option Addr × Nat) (fun x => [(3, .p 3 0), (4, .p 4 0), (6, .p 6 0), (7, .v (.int .i64 0)), (8, .p 8 0), (9, .v (.bool false)), (63, .v (.slice Av nv cv)), (64, .v (.int .i64 (nv : Int))), (65, .v (.int .i64 (x.1 : Int)))]) (fun x => [(3, 36, f.l), (4, 29, [.int .i64 k, .int .i64 a, .int .i64 b, .int .i64 p0, .int .i64 p1, .int .i64 p2, .int .i64 p3, .slice Aq nq cq]), (6, 36, zF), (8, 36, [.int .i64 f.task, .slice Ap f.np cp, .int .i64 f.fn, .int .i64 f.pc, .slice Al f.nl cl, .slice As f.ns cs, .slice x.2.1 (f.nk + x.1) x.2.2, .int .i64 f.many, .int .i64 f.spent, .bool f.fail])]) (fun x => CtxA wA w2 X2 (rowsF { f with nk := f.nk + x.1, kids := f.kids ++ (vs.take x.1).map fun v => ⟨v, b⟩ } Ap cp Al cl As cs x.2.1 x.2.2 M)) (fun x => x.1 ≤ nv ∧ f.nk + x.1 ≤ x.2.2 ∧ (0 < x.2.2 → ∃ b, x.2.1 = some ⟨b, 0, none⟩)) (fun x => nv - x.1) (0, Ak, ck) (hC := by simp [rowsF]) ⟨Nat.zero_le _, hcaps.hck, hcaps.hAk⟩ ⟨rfl, rfl, rfl, rfl, rfl, rfl, rfl, rfl, rfl, trivial⟩ ⟨rfl, rfl, rfl, rfl, trivial⟩ ?_; rintro ⟨i, Ak', ck'⟩ r' ⟨hi, hc', hA'⟩; replace hi : i ≤ nv := hi; replace hc' : f.nk + i ≤ ck' := hc'; replace hA' : 0 < ck' → ∃ b, Ak' = some ⟨b, 0, none⟩ := hA'; conv => whnf
    repeat' (first
      | (refine idxOI hv i rfl (by omega) (fun b' o' hA hcl => ?_); conv => whnf)
      | (refine ldO (by assumption) (tab_ok _ _ (by rfl)) (by rfl) ?_; conv => whnf)
      | (refine bsA el34 (by rfl) ?_; (conv => whnf); refine ⟨by rfl, fun bl => ?_⟩; conv => whnf)
      | (refine appD el34 (SrcA.own el34 (by repeat (first | exact List.Mem.head _ | refine List.Mem.tail _ ?_)) (by intro u hu; simp only [List.mem_cons, List.not_mem_nil, or_false] at hu; rcases hu with rfl | rfl <;> rfl) 1) (by repeat (first | exact AtE.here | apply AtE.there)) (by omega) ?_; intro A'' c'' hc'' hA''; conv => whnf)
      | (refine JoinVC.go ?_; conv => whnf)
      | (refine And.intro ?_ ?_ <;> conv => whnf)
      | (refine ldA (by repeat (first | exact List.Mem.head _ | refine List.Mem.tail _ ?_)) (tab_ok _ _ (by rfl)) (by rfl) (by rfl) ?_; conv => whnf)
      | (refine ldsA (by repeat (first | exact List.Mem.head _ | refine List.Mem.tail _ ?_)) (tab_ok _ _ (by rfl)) (by rfl) ?_; conv => whnf)
      | (refine stA (tab_ok _ _ (by rfl)) (by repeat (first | exact AtE.here | apply AtE.there)) ?_; conv => whnf)
      | (refine splitB.dec (fun hb => ?_) (fun hb => ?_) <;> first | (exfalso; omega) | (conv => whnf))
      | (refine splitB.ndec (fun hb => ?_) (fun hb => ?_) <;> first | (exfalso; omega) | (conv => whnf)))
    · refine rnd (X := Nat × Option Addr × Nat) (i + 1, _, _) (by show nv - (i + 1) < nv - i; omega) ⟨by show i + 1 ≤ nv; omega, by assumption, by assumption⟩ ⟨rfl, rfl, rfl, rfl, rfl, rfl, rfl, rfl, ixw (by omega), trivial⟩ ⟨rfl, rfl, rfl, rfl, trivial⟩ (hC := by simp only [rowsF]; rw [← kids4 (by omega)]; rfl)
    · refine RetT.drop (K := K) M (by repeat (first | exact List.Sublist.refl _ | refine List.Sublist.cons_cons _ ?_ | refine List.Sublist.cons _ ?_)) (h1 (told4n (by omega) (by first | (exact .inl (by omega)) | (exact .inr (.inl (by omega))) | (exact .inr (.inr (by assumption))))))
  · refine LoopVC.on (X := Nat × Option Addr × Nat) (fun x => [(3, .p 3 0), (4, .p 4 0), (6, .p 6 0), (7, .v (.int .i64 0)), (8, .p 8 0), (9, .v (.bool false)), (63, .v (.slice Av nv cv)), (64, .v (.int .i64 (nv : Int))), (65, .v (.int .i64 (x.1 : Int)))]) (fun x => [(3, 36, f.l), (4, 29, [.int .i64 k, .int .i64 a, .int .i64 b, .int .i64 p0, .int .i64 p1, .int .i64 p2, .int .i64 p3, .slice Aq nq cq]), (6, 36, zF), (8, 36, [.int .i64 f.task, .slice Ap f.np cp, .int .i64 f.fn, .int .i64 f.pc, .slice Al f.nl cl, .slice As f.ns cs, .slice x.2.1 (f.nk + x.1) x.2.2, .int .i64 f.many, .int .i64 f.spent, .bool f.fail])]) (fun x => CtxA wA w2 X2 (rowsF { f with nk := f.nk + x.1, kids := f.kids ++ (vs.take x.1).map fun v => ⟨v, b⟩ } Ap cp Al cl As cs x.2.1 x.2.2 M)) (fun x => x.1 ≤ nv ∧ f.nk + x.1 ≤ x.2.2 ∧ (0 < x.2.2 → ∃ b, x.2.1 = some ⟨b, 0, none⟩)) (fun x => nv - x.1) (0, Ak, ck) (hC := by simp [rowsF]) ⟨Nat.zero_le _, hcaps.hck, hcaps.hAk⟩ ⟨rfl, rfl, rfl, rfl, rfl, rfl, rfl, rfl, rfl, trivial⟩ ⟨rfl, rfl, rfl, rfl, trivial⟩ ?_; rintro ⟨i, Ak', ck'⟩ r' ⟨hi, hc', hA'⟩; replace hi : i ≤ nv := hi; replace hc' : f.nk + i ≤ ck' := hc'; replace hA' : 0 < ck' → ∃ b, Ak' = some ⟨b, 0, none⟩ := hA'; conv => whnf
    repeat' (first
      | (refine idxOI hv i rfl (by omega) (fun b' o' hA hcl => ?_); conv => whnf)
      | (refine ldO (by assumption) (tab_ok _ _ (by rfl)) (by rfl) ?_; conv => whnf)
      | (refine bsA el34 (by rfl) ?_; (conv => whnf); refine ⟨by rfl, fun bl => ?_⟩; conv => whnf)
      | (refine appD el34 (SrcA.own el34 (by repeat (first | exact List.Mem.head _ | refine List.Mem.tail _ ?_)) (by intro u hu; simp only [List.mem_cons, List.not_mem_nil, or_false] at hu; rcases hu with rfl | rfl <;> rfl) 1) (by repeat (first | exact AtE.here | apply AtE.there)) (by omega) ?_; intro A'' c'' hc'' hA''; conv => whnf)
      | (refine JoinVC.go ?_; conv => whnf)
      | (refine And.intro ?_ ?_ <;> conv => whnf)
      | (refine ldA (by repeat (first | exact List.Mem.head _ | refine List.Mem.tail _ ?_)) (tab_ok _ _ (by rfl)) (by rfl) (by rfl) ?_; conv => whnf)
      | (refine ldsA (by repeat (first | exact List.Mem.head _ | refine List.Mem.tail _ ?_)) (tab_ok _ _ (by rfl)) (by rfl) ?_; conv => whnf)
      | (refine stA (tab_ok _ _ (by rfl)) (by repeat (first | exact AtE.here | apply AtE.there)) ?_; conv => whnf)
      | (refine splitB.dec (fun hb => ?_) (fun hb => ?_) <;> first | (exfalso; omega) | (conv => whnf))
      | (refine splitB.ndec (fun hb => ?_) (fun hb => ?_) <;> first | (exfalso; omega) | (conv => whnf)))
    · refine rnd (X := Nat × Option Addr × Nat) (i + 1, _, _) (by show nv - (i + 1) < nv - i; omega) ⟨by show i + 1 ≤ nv; omega, by assumption, by assumption⟩ ⟨rfl, rfl, rfl, rfl, rfl, rfl, rfl, rfl, ixw (by omega), trivial⟩ ⟨rfl, rfl, rfl, rfl, trivial⟩ (hC := by simp only [rowsF]; rw [← kids4 (by omega)]; rfl)
    · refine RetT.drop (K := K) M (by repeat (first | exact List.Sublist.refl _ | refine List.Sublist.cons_cons _ ?_ | refine List.Sublist.cons _ ?_)) (h1 (told4n (by omega) (by first | (exact .inl (by omega)) | (exact .inr (.inl (by omega))) | (exact .inr (.inr (by assumption))))))
  · refine LoopVC.on (X := Nat × Bool × List Int) (fun x => [(3, .p 3 0), (6, .p 6 0), (7, .v (.int .i64 0)), (8, .p 8 0), (9, .v (.bool x.2.1)), (2, .v (.slice Av nv cv)), (97, .v (.slice f.Ak f.nk f.ck)), (98, .v (.int .i64 (f.nk : Int))), (99, .v (.int .i64 (x.1 : Int)))]) (fun x => [(3, 36, f.l), (6, 36, zF), (8, 36, [.int .i64 f.task, .slice Ap f.np cp, .int .i64 f.fn, .int .i64 f.pc, .slice Al f.nl cl, .slice As f.ns cs, .slice none 0 0, .int .i64 f.many, .int .i64 f.spent, .bool f.fail])]) (fun x => CtxA wA w2 X2 (rowsF { f with loc := x.2.2 } Ap cp Al cl As cs Ak ck M)) (fun x => Inv5 f vs x.1 x.2.1 x.2.2) (fun x => f.nk - x.1) (0, true, f.loc) (Inv5.t0 (by omega) (by assumption) hf.loc.len) ⟨rfl, rfl, rfl, rfl, rfl, rfl, rfl, rfl, rfl, trivial⟩ ⟨rfl, rfl, rfl, trivial⟩ ?_; rintro ⟨i, rg, loc⟩ r' hI; replace hI : Inv5 f vs i rg loc := hI; have hi := hI.1; have hll := hI.2.1
    cases rg
    · conv => whnf
      repeat' (first
        | (refine idxOI hv i rfl (by omega) (fun b' o' hA hcl => ?_); conv => whnf)
        | (refine idxOK hf.kids i rfl (by omega) (fun b' o' hA hcl => ?_); conv => whnf)
        | (refine ldO (by assumption) (tab_ok _ _ (by rfl)) (by rfl) ?_; conv => whnf)
        | (refine ldsO [.int .i64 f.kids[i].task, .int .i64 f.kids[i].dst] (by assumption) (tab_ok _ _ (by rfl)) (by rfl) (by rfl) ?_; conv => whnf)
        | (refine dest2_vc (fun hd hd2 => ?_) (fun hd hd2 => ?_) <;> conv => whnf)
        | (refine idxI hcaps.hAl hcaps.hcl (by omega) (by omega) (fun b' hb' => ?_); conv => whnf)
        | (refine stRI f.kids[i].dst.toNat hb' (by repeat (first | exact AtE.here | apply AtE.there)) rfl (by show f.kids[i].dst.toNat < loc.length; omega) ?_; conv => whnf)
        | (refine JoinVC.go ?_; conv => whnf)
        | (refine And.intro ?_ ?_ <;> conv => whnf)
        | (refine ldA (by repeat (first | exact List.Mem.head _ | refine List.Mem.tail _ ?_)) (tab_ok _ _ (by rfl)) (by rfl) (by rfl) ?_; conv => whnf)
        | (refine ldsA (by repeat (first | exact List.Mem.head _ | refine List.Mem.tail _ ?_)) (tab_ok _ _ (by rfl)) (by rfl) ?_; conv => whnf)
        | (refine stA (tab_ok _ _ (by rfl)) (by repeat (first | exact AtE.here | apply AtE.there)) ?_; conv => whnf)
        | (refine splitB.dec (fun hb => ?_) (fun hb => ?_) <;> first | (exfalso; omega) | (conv => whnf))
        | (refine splitB.ndec (fun hb => ?_) (fun hb => ?_) <;> first | (exfalso; omega) | (conv => whnf)))
      · refine rnd (X := Nat × Bool × List Int) (i + 1, false, loc) (by show f.nk - (i + 1) < f.nk - i; omega) (hI.ff (by omega) ) ⟨rfl, rfl, rfl, rfl, rfl, rfl, rfl, rfl, ixw (by omega), trivial⟩ ⟨rfl, rfl, rfl, trivial⟩
      · refine RetT.drop (K := K) M (by repeat (first | exact List.Sublist.refl _ | refine List.Sublist.cons_cons _ ?_ | refine List.Sublist.cons _ ?_)) (h1 (told5n (by omega) (hI.2.2.2 rfl)))
    · have hl5 := (hI.2.2.1 rfl).1.1
      conv => whnf
      repeat' (first
        | (refine idxOI hv i rfl (by omega) (fun b' o' hA hcl => ?_); conv => whnf)
        | (refine idxOK hf.kids i rfl (by omega) (fun b' o' hA hcl => ?_); conv => whnf)
        | (refine ldO (by assumption) (tab_ok _ _ (by rfl)) (by rfl) ?_; conv => whnf)
        | (refine ldsO [.int .i64 f.kids[i].task, .int .i64 f.kids[i].dst] (by assumption) (tab_ok _ _ (by rfl)) (by rfl) (by rfl) ?_; conv => whnf)
        | (refine dest2_vc (fun hd hd2 => ?_) (fun hd hd2 => ?_) <;> conv => whnf)
        | (refine idxI hcaps.hAl hcaps.hcl (by omega) (by omega) (fun b' hb' => ?_); conv => whnf)
        | (refine stRI f.kids[i].dst.toNat hb' (by repeat (first | exact AtE.here | apply AtE.there)) rfl (by show f.kids[i].dst.toNat < loc.length; omega) ?_; conv => whnf)
        | (refine JoinVC.go ?_; conv => whnf)
        | (refine And.intro ?_ ?_ <;> conv => whnf)
        | (refine ldA (by repeat (first | exact List.Mem.head _ | refine List.Mem.tail _ ?_)) (tab_ok _ _ (by rfl)) (by rfl) (by rfl) ?_; conv => whnf)
        | (refine ldsA (by repeat (first | exact List.Mem.head _ | refine List.Mem.tail _ ?_)) (tab_ok _ _ (by rfl)) (by rfl) ?_; conv => whnf)
        | (refine stA (tab_ok _ _ (by rfl)) (by repeat (first | exact AtE.here | apply AtE.there)) ?_; conv => whnf)
        | (refine splitB.dec (fun hb => ?_) (fun hb => ?_) <;> first | (exfalso; omega) | (conv => whnf))
        | (refine splitB.ndec (fun hb => ?_) (fun hb => ?_) <;> first | (exfalso; omega) | (conv => whnf)))
      · refine rnd (X := Nat × Bool × List Int) (i + 1, true, loc.set f.kids[i].dst.toNat (vs.getD i 0)) (by show f.nk - (i + 1) < f.nk - i; omega) (hI.ts (by omega) (by omega) (by assumption) (by omega)) ⟨rfl, rfl, rfl, rfl, rfl, rfl, rfl, rfl, ixw (by omega), trivial⟩ ⟨rfl, rfl, rfl, trivial⟩
      · refine rnd (X := Nat × Bool × List Int) (i + 1, true, loc) (by show f.nk - (i + 1) < f.nk - i; omega) (hI.tn (by omega) (by omega) (by assumption) (by omega)) ⟨rfl, rfl, rfl, rfl, rfl, rfl, rfl, rfl, ixw (by omega), trivial⟩ ⟨rfl, rfl, rfl, trivial⟩
      · refine rnd (X := Nat × Bool × List Int) (i + 1, false, loc) (by show f.nk - (i + 1) < f.nk - i; omega) (hI.tf (by omega) (by omega) (by assumption)) ⟨rfl, rfl, rfl, rfl, rfl, rfl, rfl, rfl, ixw (by omega), trivial⟩ ⟨rfl, rfl, rfl, trivial⟩
      · refine RetT.imp (K := K) (rowsG ({ f with Ap := Ap, cp := cp, Al := Al, cl := cl, loc := loc, As := As, cs := cs, Ak := none, nk := 0, ck := 0, kids := [] } : FrP) M) ((Imp.sub (by repeat (first | exact List.Sublist.refl _ | refine List.Sublist.cons_cons _ ?_ | refine List.Sublist.cons _ ?_))).trans (Imp.nil _ none _ 2)) (h2 ({ f with Ap := Ap, cp := cp, Al := Al, cl := cl, loc := loc, As := As, cs := cs, Ak := none, nk := 0, ck := 0, kids := [] } : FrP) (told5 (by omega) (hI.endT (by omega) hkl)) rfl rfl rfl rfl rfl rfl)
  · refine LoopVC.on (X := Nat × Bool × List Int) (fun x => [(3, .p 3 0), (6, .p 6 0), (7, .v (.int .i64 0)), (8, .p 8 0), (9, .v (.bool x.2.1)), (2, .v (.slice Av nv cv)), (97, .v (.slice f.Ak f.nk f.ck)), (98, .v (.int .i64 (f.nk : Int))), (99, .v (.int .i64 (x.1 : Int)))]) (fun x => [(3, 36, f.l), (6, 36, zF), (8, 36, [.int .i64 f.task, .slice Ap f.np cp, .int .i64 f.fn, .int .i64 f.pc, .slice Al f.nl cl, .slice As f.ns cs, .slice none 0 0, .int .i64 f.many, .int .i64 f.spent, .bool f.fail])]) (fun x => CtxA wA w2 X2 (rowsF { f with loc := x.2.2 } Ap cp Al cl As cs Ak ck M)) (fun x => Inv5 f vs x.1 x.2.1 x.2.2) (fun x => f.nk - x.1) (0, false, f.loc) (Inv5.f0 (by rintro ⟨h3, h4⟩; first | omega | (rw [h4] at hvb; cases hvb)) hf.loc.len) ⟨rfl, rfl, rfl, rfl, rfl, rfl, rfl, rfl, rfl, trivial⟩ ⟨rfl, rfl, rfl, trivial⟩ ?_; rintro ⟨i, rg, loc⟩ r' hI; replace hI : Inv5 f vs i rg loc := hI; have hi := hI.1; have hll := hI.2.1
    cases rg
    · conv => whnf
      repeat' (first
        | (refine idxOI hv i rfl (by omega) (fun b' o' hA hcl => ?_); conv => whnf)
        | (refine idxOK hf.kids i rfl (by omega) (fun b' o' hA hcl => ?_); conv => whnf)
        | (refine ldO (by assumption) (tab_ok _ _ (by rfl)) (by rfl) ?_; conv => whnf)
        | (refine ldsO [.int .i64 f.kids[i].task, .int .i64 f.kids[i].dst] (by assumption) (tab_ok _ _ (by rfl)) (by rfl) (by rfl) ?_; conv => whnf)
        | (refine dest2_vc (fun hd hd2 => ?_) (fun hd hd2 => ?_) <;> conv => whnf)
        | (refine idxI hcaps.hAl hcaps.hcl (by omega) (by omega) (fun b' hb' => ?_); conv => whnf)
        | (refine stRI f.kids[i].dst.toNat hb' (by repeat (first | exact AtE.here | apply AtE.there)) rfl (by show f.kids[i].dst.toNat < loc.length; omega) ?_; conv => whnf)
        | (refine JoinVC.go ?_; conv => whnf)
        | (refine And.intro ?_ ?_ <;> conv => whnf)
        | (refine ldA (by repeat (first | exact List.Mem.head _ | refine List.Mem.tail _ ?_)) (tab_ok _ _ (by rfl)) (by rfl) (by rfl) ?_; conv => whnf)
        | (refine ldsA (by repeat (first | exact List.Mem.head _ | refine List.Mem.tail _ ?_)) (tab_ok _ _ (by rfl)) (by rfl) ?_; conv => whnf)
        | (refine stA (tab_ok _ _ (by rfl)) (by repeat (first | exact AtE.here | apply AtE.there)) ?_; conv => whnf)
        | (refine splitB.dec (fun hb => ?_) (fun hb => ?_) <;> first | (exfalso; omega) | (conv => whnf))
        | (refine splitB.ndec (fun hb => ?_) (fun hb => ?_) <;> first | (exfalso; omega) | (conv => whnf)))
      · refine rnd (X := Nat × Bool × List Int) (i + 1, false, loc) (by show f.nk - (i + 1) < f.nk - i; omega) (hI.ff (by omega) ) ⟨rfl, rfl, rfl, rfl, rfl, rfl, rfl, rfl, ixw (by omega), trivial⟩ ⟨rfl, rfl, rfl, trivial⟩
      · refine RetT.drop (K := K) M (by repeat (first | exact List.Sublist.refl _ | refine List.Sublist.cons_cons _ ?_ | refine List.Sublist.cons _ ?_)) (h1 (told5n (by omega) (hI.2.2.2 rfl)))
    · have h6 := (hI.2.2.1 rfl).1.2
      rw [h6] at hvb; cases hvb
  · refine LoopVC.on (X := Nat × Bool × List Int) (fun x => [(3, .p 3 0), (6, .p 6 0), (7, .v (.int .i64 0)), (8, .p 8 0), (9, .v (.bool x.2.1)), (2, .v (.slice Av nv cv)), (97, .v (.slice f.Ak f.nk f.ck)), (98, .v (.int .i64 (f.nk : Int))), (99, .v (.int .i64 (x.1 : Int)))]) (fun x => [(3, 36, f.l), (6, 36, zF), (8, 36, [.int .i64 f.task, .slice Ap f.np cp, .int .i64 f.fn, .int .i64 f.pc, .slice Al f.nl cl, .slice As f.ns cs, .slice none 0 0, .int .i64 f.many, .int .i64 f.spent, .bool f.fail])]) (fun x => CtxA wA w2 X2 (rowsF { f with loc := x.2.2 } Ap cp Al cl As cs Ak ck M)) (fun x => Inv5 f vs x.1 x.2.1 x.2.2) (fun x => f.nk - x.1) (0, false, f.loc) (Inv5.f0 (by rintro ⟨h3, h4⟩; first | omega | (rw [h4] at hvb; cases hvb)) hf.loc.len) ⟨rfl, rfl, rfl, rfl, rfl, rfl, rfl, rfl, rfl, trivial⟩ ⟨rfl, rfl, rfl, trivial⟩ ?_; rintro ⟨i, rg, loc⟩ r' hI; replace hI : Inv5 f vs i rg loc := hI; have hi := hI.1; have hll := hI.2.1
    cases rg
    · conv => whnf
      repeat' (first
        | (refine idxOI hv i rfl (by omega) (fun b' o' hA hcl => ?_); conv => whnf)
        | (refine idxOK hf.kids i rfl (by omega) (fun b' o' hA hcl => ?_); conv => whnf)
        | (refine ldO (by assumption) (tab_ok _ _ (by rfl)) (by rfl) ?_; conv => whnf)
        | (refine ldsO [.int .i64 f.kids[i].task, .int .i64 f.kids[i].dst] (by assumption) (tab_ok _ _ (by rfl)) (by rfl) (by rfl) ?_; conv => whnf)
        | (refine dest2_vc (fun hd hd2 => ?_) (fun hd hd2 => ?_) <;> conv => whnf)
        | (refine idxI hcaps.hAl hcaps.hcl (by omega) (by omega) (fun b' hb' => ?_); conv => whnf)
        | (refine stRI f.kids[i].dst.toNat hb' (by repeat (first | exact AtE.here | apply AtE.there)) rfl (by show f.kids[i].dst.toNat < loc.length; omega) ?_; conv => whnf)
        | (refine JoinVC.go ?_; conv => whnf)
        | (refine And.intro ?_ ?_ <;> conv => whnf)
        | (refine ldA (by repeat (first | exact List.Mem.head _ | refine List.Mem.tail _ ?_)) (tab_ok _ _ (by rfl)) (by rfl) (by rfl) ?_; conv => whnf)
        | (refine ldsA (by repeat (first | exact List.Mem.head _ | refine List.Mem.tail _ ?_)) (tab_ok _ _ (by rfl)) (by rfl) ?_; conv => whnf)
        | (refine stA (tab_ok _ _ (by rfl)) (by repeat (first | exact AtE.here | apply AtE.there)) ?_; conv => whnf)
        | (refine splitB.dec (fun hb => ?_) (fun hb => ?_) <;> first | (exfalso; omega) | (conv => whnf))
        | (refine splitB.ndec (fun hb => ?_) (fun hb => ?_) <;> first | (exfalso; omega) | (conv => whnf)))
      · refine rnd (X := Nat × Bool × List Int) (i + 1, false, loc) (by show f.nk - (i + 1) < f.nk - i; omega) (hI.ff (by omega) ) ⟨rfl, rfl, rfl, rfl, rfl, rfl, rfl, rfl, ixw (by omega), trivial⟩ ⟨rfl, rfl, rfl, trivial⟩
      · refine RetT.drop (K := K) M (by repeat (first | exact List.Sublist.refl _ | refine List.Sublist.cons_cons _ ?_ | refine List.Sublist.cons _ ?_)) (h1 (told5n (by omega) (hI.2.2.2 rfl)))
    · have hl5 := (hI.2.2.1 rfl).1.1
      exfalso; omega
end
end Go.Proofs.YtgaopcbjhepklaaGreat
