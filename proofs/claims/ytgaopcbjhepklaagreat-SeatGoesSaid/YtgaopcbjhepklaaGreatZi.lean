/- A frame that goes on. -/
import Derived.Test.YtgaopcbjhepklaaGreatZl
namespace Go.Proofs.YtgaopcbjhepklaaGreat
open Go.RowKit
set_option linter.unusedSimpArgs false
set_option linter.unusedVariables false
set_option maxRecDepth 100000
section
variable {wA w0 : World} {X : Nat → Prop} {M : EL} {K : Value → Ctx → Prop} {Z : PanK}
structure RightP (c : CodeP) (f : FrP) : Prop where
  task : 1 ≤ f.task
  f0 : 0 ≤ f.fn
  f1 : f.fn < c.nf
  pc : 0 ≤ f.pc ∧ f.pc ≤ (bodyAt c f.fn).ni
  nl : (f.nl : Int) = (bodyAt c f.fn).locals
  ns : f.ns ≤ 100
  kids : f.kids.all (kidB (bodyAt c f.fn).locals) = true
  loc : valsB f.loc = true
  stk : valsB f.stk = true
  many : 0 ≤ f.many
  spent : 0 ≤ f.spent ∧ f.spent ≤ 2000
theorem rightB_spec {c : CodeP} {f : FrP} (h : rightB c f = true) : RightP c f := by
  unfold rightB at h
  split at h
  · cases h
  · rename_i h1
    split at h
    · cases h
    · rename_i h2
      split at h
      · cases h
      · rename_i h3
        simp only [Bool.and_eq_true, decide_eq_true_eq] at h
        obtain ⟨h4, h5, h6, h7, h8⟩ := h
        exact ⟨by omega, by omega, by omega, by omega, by omega, by omega, by simpa using h3, h4, h5, h6, by omega⟩
def vOf (f : FrP) (Al : Option Addr) (cl : Nat) (As : Option Addr) (cs : Nat) : MV := ⟨f.pc, f.spent, f.fail, Al, f.nl, cl, f.loc, As, f.ns, cs, f.stk⟩
abbrev zeroF : FrP := ⟨0, none, 0, 0, [], 0, 0, none, 0, 0, [], none, 0, 0, [], none, 0, 0, [], 0, 0, false⟩
def frV (k : MK) (v : MV) : List Value := [.int .i64 k.task, .slice k.Ap k.np k.cp, .int .i64 k.fn, .int .i64 v.pc, .slice v.Al v.nl v.cl, .slice v.As v.ns v.cs, .slice k.Ak k.nk k.ck, .int .i64 k.many, .int .i64 v.spent, .bool v.fail]
def askV (q : QV) : List Value := [.int .i64 q.kind, .int .i64 q.a, .int .i64 q.b, .int .i64 q.o0, .int .i64 q.o1, .int .i64 q.o2, .int .i64 q.o3, .slice q.Aa q.na q.ca]
def rowsN (k : MK) (v : MV) (q : QV) (M : EL) : EL := (.slice v.As v.ns v.cs, .row 3 1 (is v.stk)) :: (.slice v.Al v.nl v.cl, .row 3 1 (is v.loc)) :: (.slice q.Aa q.na q.ca, .row 3 1 (is q.got)) :: (.slice k.Ak k.nk k.ck, .row 67 2 (kidL k.kids)) :: (.slice k.Ap k.np k.cp, .row 3 1 (is k.path)) :: M
theorem insL_at : ∀ (l : List InsP) (i : Nat) (h : i < l.length), ((insL l).drop (i * 4)).take 4 = [.int .i64 l[i].op, .int .i64 l[i].a, .int .i64 l[i].b, .int .i64 l[i].c]
  | k :: l, 0, h => rfl
  | k :: l, i + 1, h => by
    have : (i + 1) * 4 = i * 4 + 4 := by omega
    rw [this]
    simp only [insL, List.drop_succ_cons, List.getElem_cons_succ]
    exact insL_at l i (by simpa using h)
theorem idxOIns {A : Option Addr} {n : Nat} {xs : List InsP} (hrd : Rd wA wA.heap.size A (insL xs)) (hn : n = xs.length) {i : Int} (h0 : 0 ≤ i) (h1 : i < n) {K : Value → Prop} (hk : ∀ b off, (∀ q v, [Value.int .i64 (xs.getD i.toNat ⟨0, 0, 0, 0⟩).op, .int .i64 (xs.getD i.toNat ⟨0, 0, 0, 0⟩).a, .int .i64 (xs.getD i.toNat ⟨0, 0, 0, 0⟩).b, .int .i64 (xs.getD i.toNat ⟨0, 0, 0, 0⟩).c][q]? = some v → wA.cell? ⟨b, off + q, none⟩ = some v) → K (.pointer (some ⟨b, off, none⟩))) : IdxVC A n i 4 K := by
  have hi : i.toNat < xs.length := by omega
  have e : xs.getD i.toNat ⟨0, 0, 0, 0⟩ = xs[i.toNat] := by simp [List.getD, hi]
  rw [e] at hk
  have key : ∀ q v, [Value.int .i64 xs[i.toNat].op, .int .i64 xs[i.toNat].a, .int .i64 xs[i.toNat].b, .int .i64 xs[i.toNat].c][q]? = some v → (insL xs)[i.toNat * 4 + q]? = some v := fun q v hv => by
    have := insL_at xs i.toNat hi
    rw [← this] at hv
    have hq := (List.getElem?_eq_some_iff.1 hv).1
    rw [List.getElem?_take, if_pos (by simp at hq; omega), List.getElem?_drop] at hv
    exact hv
  obtain ⟨b, off, hA, hb, _⟩ := hrd.at_ (key 0 _ rfl)
  refine ⟨_, hA, h0, h1, ?_⟩
  rw [Addr.add_lit]
  refine hk b _ fun q v hv => ?_
  obtain ⟨b', off', hA', _, hc⟩ := hrd.at_ (key q v hv)
  rw [hA] at hA'
  injection hA' with hA'
  injection hA' with e1 e2
  subst e1 e2
  rw [Nat.add_assoc]
  exact hc
theorem stepP_k {c : CodeP} {f : FrP} {Ap : Option Addr} {cp : Nat} {Ak : Option Addr} {ck : Nat} {fa : Int → Int} {b : BodyP} {g : PF} : stepP (kOf c f Ap cp Ak ck) fa b g = stepP (kOf c f none 0 none 0) fa b g := rfl
theorem runP_k {c : CodeP} {f : FrP} {Ap : Option Addr} {cp : Nat} {Ak : Option Addr} {ck : Nat} {fa : Int → Int} {b : BodyP} : ∀ (n : Nat) (g : PF), runP (kOf c f Ap cp Ak ck) fa b n g = runP (kOf c f none 0 none 0) fa b n g
  | 0, _ => rfl
  | n + 1, g => by
    simp only [runP, stepP_k]
    split
    · exact runP_k n _
    · rfl
    · rfl
theorem perm6 {g p k s l a : Value × DA} {R : EL} : List.Perm (g :: p :: k :: s :: l :: a :: R) (p :: s :: l :: g :: k :: a :: R) :=
  (List.Perm.swap p g _).trans (.cons p ((List.perm_append_comm (l₁ := [g, k]) (l₂ := [s, l])).append_right (a :: R)))
theorem Imp.toA {p k s l a : Value × DA} (R : EL) : Imp (p :: k :: s :: l :: a :: R) (p :: s :: l :: (.slice none 0 0, .row 3 1 (is [])) :: k :: a :: R) :=
  Imp.trans (Imp.nil _ none 3 1) (Imp.perm perm6)
theorem Imp.toB {p k s l a : Value × DA} (R : EL) : Imp (k :: s :: l :: a :: p :: R) (p :: s :: l :: (.slice none 0 0, .row 3 1 (is [])) :: k :: a :: R) :=
  Imp.trans (Imp.perm (List.perm_middle (l₁ := [k, s, l, a]) (a := p) (l₂ := R))) (Imp.toA R)
theorem Imp.behind7 {a1 a2 a3 a4 a5 a6 a7 e1 e2 e3 e4 e5 e6 : Value × DA} (R : EL) : Imp (a1 :: a2 :: a3 :: a4 :: a5 :: a6 :: a7 :: e1 :: e2 :: e3 :: e4 :: e5 :: e6 :: R) (e1 :: e2 :: e3 :: e4 :: e5 :: e6 :: a1 :: a2 :: a3 :: a4 :: a5 :: a6 :: a7 :: R) :=
  Imp.perm ((List.perm_append_comm (l₁ := [a1, a2, a3, a4, a5, a6, a7]) (l₂ := [e1, e2, e3, e4, e5, e6])).append_right R)
theorem stepP_in {k : MK} {fa : Int → Int} {b : BodyP} {f : PF} (h1 : ¬ f.spent = 2000) (h2 : 0 ≤ f.pc ∧ f.pc < b.ni) (h3 : 1 ≤ (insAt b f.pc).op ∧ (insAt b f.pc).op < 20) : stepP k fa b f = instrP k fa f (insAt b f.pc) := by
  rw [stepP, if_neg h1, if_neg (fun h => h h2), if_neg (fun h => h h3)]
theorem fa_eq (c : CodeP) (a : Int) : (fun a => (bodyAt c a).args) a = (c.funs.map (·.args)).getD a.toNat 0 := by
  simp only [bodyAt, List.getD, List.getElem?_map]
  cases c.funs[a.toNat]? <;> rfl
theorem funs_args {c : CodeP} {f : FrP} {Ap : Option Addr} {cp : Nat} {Ak : Option Addr} {ck : Nat} (hc : CodeOk wA c) : ∀ i, i < (kOf c f Ap cp Ak ck).nf → ∃ bf o, (kOf c f Ap cp Ak ck).Af = some ⟨bf, o, none⟩ ∧ wA.cell? ⟨bf, o + i * 3, none⟩ = some (.int .i64 ((c.funs.map (·.args)).getD i 0)) := fun i hi => by
  have hi' : i < c.funs.length := by have := hc.nf; have : (kOf c f Ap cp Ak ck).nf = c.nf := rfl; omega
  obtain ⟨b, o, h1, h2⟩ := hc.body i hi'
  have e : (c.funs.map (·.args)).getD i 0 = c.funs[i].args := by simp [List.getD, hi']
  rw [e]
  exact ⟨b, o, h1, h2 0 _ rfl⟩
set_option maxHeartbeats 4000000 in
theorem next_vc {c : CodeP} {f : FrP} (hc : CodeOk wA c) (hf : FrOk wA f)
    (h0 : rightB c f = false → K (.tuple #[.agg f.l.toArray, .agg ask0.toArray, .int .i64 1]) (CtxA wA w0 X M))
    (h1 : rightB c f = true → ∀ e, nextP c f = .err e → K (.tuple #[.agg f.l.toArray, .agg ask0.toArray, .int .i64 e]) (CtxA wA w0 X M))
    (h2 : rightB c f = true → ∀ Ap cp Ak ck v q, MOk (kOf c f Ap cp Ak ck) v → QOk q → q.kind ≠ 0 → nextP c f = .ok (pf v) (qp q) → K (.tuple #[.agg (frV (kOf c f Ap cp Ak ck) v).toArray, .agg (askV q).toArray, .int .i64 0]) (CtxA wA w0 X (rowsN (kOf c f Ap cp Ak ck) v q M))) :
    CallVC Tryz.prog (CtxA wA w0 X M) 24 #[.agg c.l.toArray, .agg f.l.toArray] K Z := by
  refine it24 (by rfl) ?_
  intro w2 X2
  conv => whnf
  refine boxA f.l rfl fun p3 => ?_
  conv => whnf
  refine allocA (tab_ok _ _ (by rfl)) _ rfl fun p4 => ?_
  conv => whnf
  refine allocA (tab_ok _ _ (by rfl)) _ rfl fun p5 => ?_
  conv => whnf
  refine allocA (tab_ok _ _ (by rfl)) _ rfl fun p6 => ?_
  conv => whnf
  refine ldsA (by repeat (first | exact List.Mem.head _ | refine List.Mem.tail _ ?_)) (tab_ok _ _ (by rfl)) (by rfl) ?_
  conv => whnf
  refine right_vc hc hf ?_
  cases hr : rightB c f with
  | false =>
    conv => whnf
    repeat' (first
      | (refine ldsA (by repeat (first | exact List.Mem.head _ | refine List.Mem.tail _ ?_)) (tab_ok _ _ (by rfl)) (by rfl) ?_; conv => whnf)
      | (refine stA (tab_ok _ _ (by rfl)) (by repeat (first | exact AtE.here | apply AtE.there)) ?_; conv => whnf)
      | (refine ressA (by repeat (first | exact List.Mem.head _ | refine List.Mem.tail _ ?_)) (tab_ok _ _ (by rfl)) (by rfl) ?_; conv => whnf)
      | (refine resA (by repeat (first | exact List.Mem.head _ | refine List.Mem.tail _ ?_)) (tab_ok _ _ (by rfl)) (by rfl) (by rfl) ?_; conv => whnf))
    exact RetT.drop (K := K) M (.cons _ (.cons _ (.cons _ (.cons _ (.refl _))))) (h0 hr)
  | true =>
    have hR := rightB_spec hr
    obtain ⟨b, o, hA, hcell⟩ := hc.at_ hR.f0 hR.f1
    conv => whnf
    refine opMkF (by rfl) ?_
    conv => whnf
    refine JoinVC.on (X := Nat × Option Addr × Nat × Option Addr × Nat × Option Addr × Nat × Option Addr × Nat) (fun (bm, _) => [(3, .v (.pointer (some ⟨p3, 0, none⟩))), (4, .v (.pointer (some ⟨p4, 0, none⟩))), (5, .v (.pointer (some ⟨p5, 0, none⟩))), (6, .v (.pointer (some ⟨p6, 0, none⟩))), (7, .v (.pointer (some ⟨bm, 0, none⟩)))]) (fun _ => []) (fun (bm, Ap, cp, Al, cl, As, cs, Ak, ck) => CtxA wA w2 X2 (ent (kOf c f Ap cp Ak ck) (vOf f Al cl As cs) q0 bm (nextE f zeroF ask0 0 p3 p4 p5 p6 M))) (fun (bm, Ap, cp, Al, cl, As, cs, Ak, ck) => Caps f Ap cp Al cl As cs Ak ck) ?_ ?_
    · conv => whnf
      repeat' (first
        | (refine clone_vc hf fun Ap cp Al cl As cs Ak ck hcaps => ?_; conv => whnf)
        | (refine And.intro ?_ ?_ <;> conv => whnf)
        | (refine idxO b o hA hR.f0 hR.f1 ?_; conv => whnf)
        | (refine ldsO (bodyAt c f.fn).l hcell (tab_ok _ _ (by rfl)) (by rfl) (by rfl) ?_; conv => whnf)
        | (refine ldA (by repeat (first | exact List.Mem.head _ | refine List.Mem.tail _ ?_)) (tab_ok _ _ (by rfl)) (by rfl) (by rfl) ?_; conv => whnf)
        | (refine ldsA (by repeat (first | exact List.Mem.head _ | refine List.Mem.tail _ ?_)) (tab_ok _ _ (by rfl)) (by rfl) ?_; conv => whnf)
        | (refine allocA (tab_ok _ _ (by rfl)) _ rfl fun bm => ?_; conv => whnf)
        | (refine StoVC.imp (Imp.toA _) ?_; refine stA (tab_ok _ _ (by rfl)) AtE.here ?_; conv => whnf)
        | (refine StoVC.imp (Imp.toB _) ?_; refine stA (tab_ok _ _ (by rfl)) AtE.here ?_; conv => whnf)
        | exact Wk.on (X := Nat × Option Addr × Nat × Option Addr × Nat × Option Addr × Nat × Option Addr × Nat) (bm, Ap, cp, Al, cl, As, cs, Ak, ck) hcaps ⟨rfl, rfl, rfl, rfl, rfl, trivial⟩ trivial)
    · rintro ⟨bm, Ap, cp, Al, cl, As, cs, Ak, ck⟩ r hcaps
      replace hcaps : Caps f Ap cp Al cl As cs Ak ck := hcaps
      show CallVC _ (CtxA wA w2 X2 (ent (kOf c f Ap cp Ak ck) (vOf f Al cl As cs) q0 bm (nextE f zeroF ask0 0 p3 p4 p5 p6 M))) _ _ _ _
      refine steps_vc fun b1 b2 b3 b4 b5 b6 => ?_
      conv => whnf
      refine allocA (tab_ok _ _ (by rfl)) _ rfl fun b8 => ?_
      conv => whnf
      refine StoVC.imp (Imp.behind7 _) ?_
      refine stA (tab_ok _ _ (by rfl)) (by repeat (first | exact AtE.here | apply AtE.there)) ?_
      conv => whnf
      have hni := hc.ni hR.f0 hR.f1
      refine LoopVC.on (X := MV × QV) (fun _ => [(3, .v (.pointer (some ⟨p3, 0, none⟩))), (4, .v (.pointer (some ⟨p4, 0, none⟩))), (5, .v (.pointer (some ⟨p5, 0, none⟩))), (6, .v (.pointer (some ⟨p6, 0, none⟩))), (7, .v (.pointer (some ⟨bm, 0, none⟩))), (8, .v (.pointer (some ⟨b8, 0, none⟩)))]) (fun _ => []) (fun (v, q) => CtxA wA w2 X2 (ent (kOf c f Ap cp Ak ck) v q bm ((.pointer (some ⟨b8, 0, none⟩), .cs 113 (stepsL b1 b2 b3 b4 b5 b6)) :: ofs b1 b2 b3 b4 b5 b6 (nextE f zeroF ask0 0 p3 p4 p5 p6 M)))) (fun (v, q) => MOk (kOf c f Ap cp Ak ck) v ∧ QOk q ∧ (q = q0 ∧ nextP c f = runP (kOf c f Ap cp Ak ck) (fun a => (bodyAt c a).args) (bodyAt c f.fn) (2001 - v.spent.toNat) (pf v) ∨ q.kind ≠ 0 ∧ nextP c f = .ok (pf v) (qp q))) (fun (v, q) => if q.kind = 0 then 2001 - v.spent.toNat else 0) (vOf f Al cl As cs, q0) ⟨⟨by have := hR.pc; have := hni.2.2; show 0 ≤ f.pc ∧ f.pc ≤ 1000000; omega, hR.spent, hf.stk.len, hf.loc.len, hR.ns, hcaps.hAs, hcaps.hcs, hcaps.hAl, hcaps.hcl, hf.kids.len, hcaps.hAk, hcaps.hck, hf.kids.sm⟩, qok0 _ rfl rfl rfl, .inl ⟨rfl, (runP_k _ _).symm⟩⟩ ⟨rfl, rfl, rfl, rfl, rfl, rfl, trivial⟩ trivial ?_
      rintro ⟨v, q⟩ r ⟨hm, hq, hrun⟩
      replace hm : MOk (kOf c f Ap cp Ak ck) v := hm
      replace hq : QOk q := hq
      replace hrun : q = q0 ∧ nextP c f = runP (kOf c f Ap cp Ak ck) (fun a => (bodyAt c a).args) (bodyAt c f.fn) (2001 - v.spent.toNat) (pf v) ∨ q.kind ≠ 0 ∧ nextP c f = .ok (pf v) (qp q) := hrun
      conv => whnf
      show SemVC _ (CtxA wA w2 X2 (ent (kOf c f Ap cp Ak ck) v q bm ((.pointer (some ⟨b8, 0, none⟩), .cs 113 (stepsL b1 b2 b3 b4 b5 b6)) :: ofs b1 b2 b3 b4 b5 b6 (nextE f zeroF ask0 0 p3 p4 p5 p6 M)))) _ _
      refine ldA (by repeat (first | exact List.Mem.head _ | refine List.Mem.tail _ ?_)) (tab_ok _ _ (by rfl)) (by rfl) (by rfl) ?_
      conv => whnf
      refine splitB.eqI (fun hk0 => ?_) (fun hk0 => ?_)
      · rcases hrun with ⟨hq0, hrun⟩ | ⟨hne, _⟩
        · subst hq0
          have hsp := hm.spent
          have hlt : 2001 - v.spent.toNat = (2000 - v.spent.toNat) + 1 := by omega
          rw [hlt] at hrun
          have herr : ∀ e, stepP (kOf c f Ap cp Ak ck) (fun a => (bodyAt c a).args) (bodyAt c f.fn) (pf v) = .err e → nextP c f = .err e := fun e h => by rw [hrun]; exact runP_err h
          have st1 : v.spent = 2000 → nextP c f = .err 11 := fun h => herr _ (by rw [stepP, if_pos (show (pf v).spent = 2000 from h)])
          have st2 : v.spent ≠ 2000 → ¬ (0 ≤ v.pc ∧ v.pc < (bodyAt c f.fn).ni) → nextP c f = .err 1 := fun h h2 => herr _ (by rw [stepP, if_neg (show ¬ (pf v).spent = 2000 from h), if_pos (show ¬ (0 ≤ (pf v).pc ∧ (pf v).pc < (bodyAt c f.fn).ni) from h2)])
          have st3 : v.spent ≠ 2000 → (0 ≤ v.pc ∧ v.pc < (bodyAt c f.fn).ni) → ¬ (1 ≤ (insAt (bodyAt c f.fn) v.pc).op ∧ (insAt (bodyAt c f.fn) v.pc).op < 20) → nextP c f = .err 1 := fun h h2 h3 => herr _ (by rw [stepP, if_neg (show ¬ (pf v).spent = 2000 from h), if_neg (show ¬ ¬ (0 ≤ (pf v).pc ∧ (pf v).pc < (bodyAt c f.fn).ni) from fun h => h h2), if_pos (show ¬ (1 ≤ (insAt (bodyAt c f.fn) (pf v).pc).op ∧ (insAt (bodyAt c f.fn) (pf v).pc).op < 20) from h3)])
          have kni : (kOf c f Ap cp Ak ck).ni = (bodyAt c f.fn).ni := rfl
          have hio : (insAt (bodyAt c f.fn) v.pc).op = ((bodyAt c f.fn).ins.getD v.pc.toNat ⟨0, 0, 0, 0⟩).op := rfl
          conv => whnf
          repeat' (first
            | (refine RetT.drop (K := K) M (by repeat (first | exact List.Sublist.refl _ | refine List.Sublist.cons _ ?_)) (h1 hr 11 (st1 (by assumption))))
            | (refine RetT.drop (K := K) M (by repeat (first | exact List.Sublist.refl _ | refine List.Sublist.cons _ ?_)) (h1 hr 1 (st2 (by assumption) (by omega))))
            | (refine RetT.drop (K := K) M (by repeat (first | exact List.Sublist.refl _ | refine List.Sublist.cons _ ?_)) (h1 hr 1 (st3 (by assumption) (by omega) (by omega))))
            | (refine DefVC.imp (Imp.sub (by repeat (first | exact List.Sublist.refl _ | refine List.Sublist.cons _ ?_))) (rec_pan (f := f) (g := zeroF) (a := ask0) rfl ?_); conv => whnf)
            | (refine ressA (by repeat (first | exact List.Mem.head _ | refine List.Mem.tail _ ?_)) (tab_ok _ _ (by rfl)) (by rfl) ?_; conv => whnf)
            | (refine resA (by repeat (first | exact List.Mem.head _ | refine List.Mem.tail _ ?_)) (tab_ok _ _ (by rfl)) (by rfl) (by rfl) ?_; conv => whnf)
            | (refine JoinVC.go ?_; conv => whnf)
            | (refine RetA.go ?_; conv => whnf)
            | (refine PanA.go ?_; conv => whnf)
            | (refine ldA (by repeat (first | exact List.Mem.head _ | refine List.Mem.tail _ ?_)) (tab_ok _ _ (by rfl)) (by rfl) (by rfl) ?_; conv => whnf)
            | (refine idxOIns hni.1 hni.2.1 (by omega) (by omega) (fun b' o' hcl => ?_); conv => whnf)
            | (refine ldsO _ (by assumption) (tab_ok _ _ (by rfl)) (by rfl) (by rfl) ?_; conv => whnf)
            | (refine ia57 (by rfl) ?_; intro w1 X1; conv => whnf)
            | (refine ia56 (by rfl) ?_; intro w1 X1; conv => whnf)
            | (refine opMkI (by rfl) (tab_ok _ _ (by rfl)) (by rfl) ?_; conv => whnf)
            | (refine opPan (by rfl) (by rfl) ?_; conv => whnf)
            | (refine splitB.dec (fun hb => ?_) (fun hb => ?_) <;> conv => whnf)
            | (refine splitB.ndec (fun hb => ?_) (fun hb => ?_) <;> conv => whnf)
            | (refine splitB.eqI (fun hb => ?_) (fun hb => ?_) <;> conv => whnf))
          --I0
          --I0
          --I0
          --I0
          --I0
          all_goals
            have bsp : ¬ v.spent = 2000 := by assumption
            have hpc : 0 ≤ v.pc ∧ v.pc < (bodyAt c f.fn).ni := by omega
            have hop : (insAt (bodyAt c f.fn) v.pc).op = 1 ∨ (insAt (bodyAt c f.fn) v.pc).op = 2 ∨ (insAt (bodyAt c f.fn) v.pc).op = 3 ∨ (insAt (bodyAt c f.fn) v.pc).op = 4 ∨ (insAt (bodyAt c f.fn) v.pc).op = 5 ∨ (insAt (bodyAt c f.fn) v.pc).op = 6 ∨ (insAt (bodyAt c f.fn) v.pc).op = 7 ∨ (insAt (bodyAt c f.fn) v.pc).op = 8 ∨ (insAt (bodyAt c f.fn) v.pc).op = 9 ∨ (insAt (bodyAt c f.fn) v.pc).op = 10 ∨ (insAt (bodyAt c f.fn) v.pc).op = 11 ∨ (insAt (bodyAt c f.fn) v.pc).op = 12 ∨ (insAt (bodyAt c f.fn) v.pc).op = 13 ∨ (insAt (bodyAt c f.fn) v.pc).op = 14 ∨ (insAt (bodyAt c f.fn) v.pc).op = 15 ∨ (insAt (bodyAt c f.fn) v.pc).op = 16 ∨ (insAt (bodyAt c f.fn) v.pc).op = 17 ∨ (insAt (bodyAt c f.fn) v.pc).op = 18 ∨ (insAt (bodyAt c f.fn) v.pc).op = 19 := by omega
            have hstp := stepP_in (k := kOf c f Ap cp Ak ck) (fa := fun a => (bodyAt c a).args) (b := bodyAt c f.fn) (f := pf v) bsp hpc (show 1 ≤ (insAt (bodyAt c f.fn) v.pc).op ∧ (insAt (bodyAt c f.fn) v.pc).op < 20 from by omega)
            have hroom : Room (kOf c f Ap cp Ak ck) v := ⟨by have := hni.2.2; omega, by omega, hni.2.2⟩
            have zgo : ∀ v', v'.spent = v.spent + 1 → instrP (kOf c f Ap cp Ak ck) (fun a => (bodyAt c a).args) (pf v) (insAt (bodyAt c f.fn) v.pc) = .go (pf v') → nextP c f = runP (kOf c f Ap cp Ak ck) (fun a => (bodyAt c a).args) (bodyAt c f.fn) (2001 - v'.spent.toNat) (pf v') := fun v' hs he => by
              have e : 2001 - v'.spent.toNat = 2000 - v.spent.toNat := by rw [hs]; omega
              rw [hrun, runP_go (hstp.trans he), e]
            have zask : ∀ v' q', instrP (kOf c f Ap cp Ak ck) (fun a => (bodyAt c a).args) (pf v) (insAt (bodyAt c f.fn) v.pc) = .ask (pf v') (qp q') → nextP c f = .ok (pf v') (qp q') := fun v' q' he => by
              rw [hrun, runP_ask (hstp.trans he)]
            have zerr : instrP (kOf c f Ap cp Ak ck) (fun a => (bodyAt c a).args) (pf v) (insAt (bodyAt c f.fn) v.pc) = .err 1 → nextP c f = .err 1 := fun he => herr 1 (hstp.trans he)
            have hF := funs_args (f := f) (Ap := Ap) (cp := cp) (Ak := Ak) (ck := ck) hc
            rcases hop with hop | hop | hop | hop | hop | hop | hop | hop | hop | hop | hop | hop | hop | hop | hop | hop | hop | hop | hop
            · have hop2 : ((bodyAt c f.fn).ins.getD v.pc.toNat ⟨0, 0, 0, 0⟩).op = ((1 : Nat) : Int) := hop
              refine idxArrN 1 hop2 (n := 20) (e := 112) (by kernel_rfl) (tab_ok _ _ (by rfl)) (by decide) ?_
              conv => whnf
              skip
              repeat' (first
                | (refine i_1 (i := (bodyAt c f.fn).ins.getD v.pc.toNat ⟨0, 0, 0, 0⟩) (fa := fun a => (bodyAt c a).args) hm hroom hop ⟨fun v' hm' hs' he => ?_, fun v' q' hm' hq' hk' he => ?_, fun he => ?_⟩)
                | (refine ldA (by repeat (first | exact List.Mem.head _ | refine List.Mem.tail _ ?_)) (tab_ok _ _ (by rfl)) (by rfl) (by rfl) ?_; conv => whnf)
                | (refine ldsO _ (by assumption) (tab_ok _ _ (by rfl)) (by rfl) (by rfl) ?_; conv => whnf))
              · skip
                conv => whnf
                --GO
                refine rnd (X := MV × QV) (v', q0) (by have := hm'.spent; simp only [if_true, q0]; show 2001 - v'.spent.toNat < 2001 - v.spent.toNat; omega) ⟨hm', hq, .inl ⟨rfl, zgo v' hs' he⟩⟩ ⟨rfl, rfl, rfl, rfl, rfl, rfl, trivial⟩ trivial
              · conv => whnf
                refine rnd (X := MV × QV) (v', q') (by show (if q'.kind = 0 then _ else 0) < (2001 - v.spent.toNat); rw [if_neg hk']; omega) ⟨hm', hq', .inr ⟨hk', zask v' q' he⟩⟩ ⟨rfl, rfl, rfl, rfl, rfl, rfl, trivial⟩ trivial
              · conv => whnf
                repeat' (first
                  | (refine RetT.drop (K := K) M (by repeat (first | exact List.Sublist.refl _ | refine List.Sublist.cons _ ?_)) (h1 hr 1 (zerr he)))
                  | (intro r bx; conv => whnf)
                  | (refine DefVC.imp (Imp.sub (by repeat (first | exact List.Sublist.refl _ | refine List.Sublist.cons _ ?_))) (rec_pan (f := f) (g := zeroF) (a := ask0) rfl ?_); conv => whnf)
                  | (refine ressA (by repeat (first | exact List.Mem.head _ | refine List.Mem.tail _ ?_)) (tab_ok _ _ (by rfl)) (by rfl) ?_; conv => whnf)
                  | (refine resA (by repeat (first | exact List.Mem.head _ | refine List.Mem.tail _ ?_)) (tab_ok _ _ (by rfl)) (by rfl) (by rfl) ?_; conv => whnf)
                  | (refine JoinVC.go ?_; conv => whnf)
                  | (refine RetA.go ?_; conv => whnf)
                  | (refine PanA.go ?_; conv => whnf))
            · have hop2 : ((bodyAt c f.fn).ins.getD v.pc.toNat ⟨0, 0, 0, 0⟩).op = ((2 : Nat) : Int) := hop
              refine idxArrN 2 hop2 (n := 20) (e := 112) (by kernel_rfl) (tab_ok _ _ (by rfl)) (by decide) ?_
              conv => whnf
              skip
              repeat' (first
                | (refine i_2 (i := (bodyAt c f.fn).ins.getD v.pc.toNat ⟨0, 0, 0, 0⟩) (fa := fun a => (bodyAt c a).args) hm hroom hop ⟨fun v' hm' hs' he => ?_, fun v' q' hm' hq' hk' he => ?_, fun he => ?_⟩)
                | (refine ldA (by repeat (first | exact List.Mem.head _ | refine List.Mem.tail _ ?_)) (tab_ok _ _ (by rfl)) (by rfl) (by rfl) ?_; conv => whnf)
                | (refine ldsO _ (by assumption) (tab_ok _ _ (by rfl)) (by rfl) (by rfl) ?_; conv => whnf))
              · skip
                conv => whnf
                --GO
                refine rnd (X := MV × QV) (v', q0) (by have := hm'.spent; simp only [if_true, q0]; show 2001 - v'.spent.toNat < 2001 - v.spent.toNat; omega) ⟨hm', hq, .inl ⟨rfl, zgo v' hs' he⟩⟩ ⟨rfl, rfl, rfl, rfl, rfl, rfl, trivial⟩ trivial
              · conv => whnf
                refine rnd (X := MV × QV) (v', q') (by show (if q'.kind = 0 then _ else 0) < (2001 - v.spent.toNat); rw [if_neg hk']; omega) ⟨hm', hq', .inr ⟨hk', zask v' q' he⟩⟩ ⟨rfl, rfl, rfl, rfl, rfl, rfl, trivial⟩ trivial
              · conv => whnf
                repeat' (first
                  | (refine RetT.drop (K := K) M (by repeat (first | exact List.Sublist.refl _ | refine List.Sublist.cons _ ?_)) (h1 hr 1 (zerr he)))
                  | (intro r bx; conv => whnf)
                  | (refine DefVC.imp (Imp.sub (by repeat (first | exact List.Sublist.refl _ | refine List.Sublist.cons _ ?_))) (rec_pan (f := f) (g := zeroF) (a := ask0) rfl ?_); conv => whnf)
                  | (refine ressA (by repeat (first | exact List.Mem.head _ | refine List.Mem.tail _ ?_)) (tab_ok _ _ (by rfl)) (by rfl) ?_; conv => whnf)
                  | (refine resA (by repeat (first | exact List.Mem.head _ | refine List.Mem.tail _ ?_)) (tab_ok _ _ (by rfl)) (by rfl) (by rfl) ?_; conv => whnf)
                  | (refine JoinVC.go ?_; conv => whnf)
                  | (refine RetA.go ?_; conv => whnf)
                  | (refine PanA.go ?_; conv => whnf))
            · have hop2 : ((bodyAt c f.fn).ins.getD v.pc.toNat ⟨0, 0, 0, 0⟩).op = ((3 : Nat) : Int) := hop
              refine idxArrN 3 hop2 (n := 20) (e := 112) (by kernel_rfl) (tab_ok _ _ (by rfl)) (by decide) ?_
              conv => whnf
              skip
              repeat' (first
                | (refine i_3 (i := (bodyAt c f.fn).ins.getD v.pc.toNat ⟨0, 0, 0, 0⟩) (fa := fun a => (bodyAt c a).args) hm hroom hop ⟨fun v' hm' hs' he => ?_, fun v' q' hm' hq' hk' he => ?_, fun he => ?_⟩)
                | (refine ldA (by repeat (first | exact List.Mem.head _ | refine List.Mem.tail _ ?_)) (tab_ok _ _ (by rfl)) (by rfl) (by rfl) ?_; conv => whnf)
                | (refine ldsO _ (by assumption) (tab_ok _ _ (by rfl)) (by rfl) (by rfl) ?_; conv => whnf))
              · skip
                conv => whnf
                --GO
                refine rnd (X := MV × QV) (v', q0) (by have := hm'.spent; simp only [if_true, q0]; show 2001 - v'.spent.toNat < 2001 - v.spent.toNat; omega) ⟨hm', hq, .inl ⟨rfl, zgo v' hs' he⟩⟩ ⟨rfl, rfl, rfl, rfl, rfl, rfl, trivial⟩ trivial
              · conv => whnf
                refine rnd (X := MV × QV) (v', q') (by show (if q'.kind = 0 then _ else 0) < (2001 - v.spent.toNat); rw [if_neg hk']; omega) ⟨hm', hq', .inr ⟨hk', zask v' q' he⟩⟩ ⟨rfl, rfl, rfl, rfl, rfl, rfl, trivial⟩ trivial
              · conv => whnf
                repeat' (first
                  | (refine RetT.drop (K := K) M (by repeat (first | exact List.Sublist.refl _ | refine List.Sublist.cons _ ?_)) (h1 hr 1 (zerr he)))
                  | (intro r bx; conv => whnf)
                  | (refine DefVC.imp (Imp.sub (by repeat (first | exact List.Sublist.refl _ | refine List.Sublist.cons _ ?_))) (rec_pan (f := f) (g := zeroF) (a := ask0) rfl ?_); conv => whnf)
                  | (refine ressA (by repeat (first | exact List.Mem.head _ | refine List.Mem.tail _ ?_)) (tab_ok _ _ (by rfl)) (by rfl) ?_; conv => whnf)
                  | (refine resA (by repeat (first | exact List.Mem.head _ | refine List.Mem.tail _ ?_)) (tab_ok _ _ (by rfl)) (by rfl) (by rfl) ?_; conv => whnf)
                  | (refine JoinVC.go ?_; conv => whnf)
                  | (refine RetA.go ?_; conv => whnf)
                  | (refine PanA.go ?_; conv => whnf))
            · have hop2 : ((bodyAt c f.fn).ins.getD v.pc.toNat ⟨0, 0, 0, 0⟩).op = ((4 : Nat) : Int) := hop
              refine idxArrN 4 hop2 (n := 20) (e := 112) (by kernel_rfl) (tab_ok _ _ (by rfl)) (by decide) ?_
              conv => whnf
              skip
              repeat' (first
                | (refine i_4 (i := (bodyAt c f.fn).ins.getD v.pc.toNat ⟨0, 0, 0, 0⟩) (fa := fun a => (bodyAt c a).args) hm hroom hop ⟨fun v' hm' hs' he => ?_, fun v' q' hm' hq' hk' he => ?_, fun he => ?_⟩)
                | (refine ldA (by repeat (first | exact List.Mem.head _ | refine List.Mem.tail _ ?_)) (tab_ok _ _ (by rfl)) (by rfl) (by rfl) ?_; conv => whnf)
                | (refine ldsO _ (by assumption) (tab_ok _ _ (by rfl)) (by rfl) (by rfl) ?_; conv => whnf))
              · skip
                conv => whnf
                --GO
                refine rnd (X := MV × QV) (v', q0) (by have := hm'.spent; simp only [if_true, q0]; show 2001 - v'.spent.toNat < 2001 - v.spent.toNat; omega) ⟨hm', hq, .inl ⟨rfl, zgo v' hs' he⟩⟩ ⟨rfl, rfl, rfl, rfl, rfl, rfl, trivial⟩ trivial
              · conv => whnf
                refine rnd (X := MV × QV) (v', q') (by show (if q'.kind = 0 then _ else 0) < (2001 - v.spent.toNat); rw [if_neg hk']; omega) ⟨hm', hq', .inr ⟨hk', zask v' q' he⟩⟩ ⟨rfl, rfl, rfl, rfl, rfl, rfl, trivial⟩ trivial
              · conv => whnf
                repeat' (first
                  | (refine RetT.drop (K := K) M (by repeat (first | exact List.Sublist.refl _ | refine List.Sublist.cons _ ?_)) (h1 hr 1 (zerr he)))
                  | (intro r bx; conv => whnf)
                  | (refine DefVC.imp (Imp.sub (by repeat (first | exact List.Sublist.refl _ | refine List.Sublist.cons _ ?_))) (rec_pan (f := f) (g := zeroF) (a := ask0) rfl ?_); conv => whnf)
                  | (refine ressA (by repeat (first | exact List.Mem.head _ | refine List.Mem.tail _ ?_)) (tab_ok _ _ (by rfl)) (by rfl) ?_; conv => whnf)
                  | (refine resA (by repeat (first | exact List.Mem.head _ | refine List.Mem.tail _ ?_)) (tab_ok _ _ (by rfl)) (by rfl) (by rfl) ?_; conv => whnf)
                  | (refine JoinVC.go ?_; conv => whnf)
                  | (refine RetA.go ?_; conv => whnf)
                  | (refine PanA.go ?_; conv => whnf))
            · have hop2 : ((bodyAt c f.fn).ins.getD v.pc.toNat ⟨0, 0, 0, 0⟩).op = ((5 : Nat) : Int) := hop
              refine idxArrN 5 hop2 (n := 20) (e := 112) (by kernel_rfl) (tab_ok _ _ (by rfl)) (by decide) ?_
              conv => whnf
              skip
              repeat' (first
                | (refine i_5 (i := (bodyAt c f.fn).ins.getD v.pc.toNat ⟨0, 0, 0, 0⟩) (fa := fun a => (bodyAt c a).args) hm hroom hop ⟨fun v' hm' hs' he => ?_, fun v' q' hm' hq' hk' he => ?_, fun he => ?_⟩)
                | (refine ldA (by repeat (first | exact List.Mem.head _ | refine List.Mem.tail _ ?_)) (tab_ok _ _ (by rfl)) (by rfl) (by rfl) ?_; conv => whnf)
                | (refine ldsO _ (by assumption) (tab_ok _ _ (by rfl)) (by rfl) (by rfl) ?_; conv => whnf))
              · skip
                conv => whnf
                --GO
                refine rnd (X := MV × QV) (v', q0) (by have := hm'.spent; simp only [if_true, q0]; show 2001 - v'.spent.toNat < 2001 - v.spent.toNat; omega) ⟨hm', hq, .inl ⟨rfl, zgo v' hs' he⟩⟩ ⟨rfl, rfl, rfl, rfl, rfl, rfl, trivial⟩ trivial
              · conv => whnf
                refine rnd (X := MV × QV) (v', q') (by show (if q'.kind = 0 then _ else 0) < (2001 - v.spent.toNat); rw [if_neg hk']; omega) ⟨hm', hq', .inr ⟨hk', zask v' q' he⟩⟩ ⟨rfl, rfl, rfl, rfl, rfl, rfl, trivial⟩ trivial
              · conv => whnf
                repeat' (first
                  | (refine RetT.drop (K := K) M (by repeat (first | exact List.Sublist.refl _ | refine List.Sublist.cons _ ?_)) (h1 hr 1 (zerr he)))
                  | (intro r bx; conv => whnf)
                  | (refine DefVC.imp (Imp.sub (by repeat (first | exact List.Sublist.refl _ | refine List.Sublist.cons _ ?_))) (rec_pan (f := f) (g := zeroF) (a := ask0) rfl ?_); conv => whnf)
                  | (refine ressA (by repeat (first | exact List.Mem.head _ | refine List.Mem.tail _ ?_)) (tab_ok _ _ (by rfl)) (by rfl) ?_; conv => whnf)
                  | (refine resA (by repeat (first | exact List.Mem.head _ | refine List.Mem.tail _ ?_)) (tab_ok _ _ (by rfl)) (by rfl) (by rfl) ?_; conv => whnf)
                  | (refine JoinVC.go ?_; conv => whnf)
                  | (refine RetA.go ?_; conv => whnf)
                  | (refine PanA.go ?_; conv => whnf))
            · have hop2 : ((bodyAt c f.fn).ins.getD v.pc.toNat ⟨0, 0, 0, 0⟩).op = ((6 : Nat) : Int) := hop
              refine idxArrN 6 hop2 (n := 20) (e := 112) (by kernel_rfl) (tab_ok _ _ (by rfl)) (by decide) ?_
              conv => whnf
              have hof : (Value.pointer (some ⟨b1, 0, none⟩), DA.cs 158 [.func (.func 97) #[] #[]]) ∈ (((.pointer (some ⟨b8, 0, none⟩), .cs 113 (stepsL b1 b2 b3 b4 b5 b6)) :: ofs b1 b2 b3 b4 b5 b6 (nextE f zeroF ask0 0 p3 p4 p5 p6 M)) : EL) := (by repeat (first | exact List.Mem.head _ | refine List.Mem.tail _ ?_))
              repeat' (first
                | (refine i_6 (i := (bodyAt c f.fn).ins.getD v.pc.toNat ⟨0, 0, 0, 0⟩) (fa := fun a => (bodyAt c a).args) hm hroom hop b1 hof ⟨fun v' hm' hs' he => ?_, fun v' q' hm' hq' hk' he => ?_, fun he => ?_⟩)
                | (refine ldA (by repeat (first | exact List.Mem.head _ | refine List.Mem.tail _ ?_)) (tab_ok _ _ (by rfl)) (by rfl) (by rfl) ?_; conv => whnf)
                | (refine ldsO _ (by assumption) (tab_ok _ _ (by rfl)) (by rfl) (by rfl) ?_; conv => whnf))
              · skip
                conv => whnf
                --GO
                refine rnd (X := MV × QV) (v', q0) (by have := hm'.spent; simp only [if_true, q0]; show 2001 - v'.spent.toNat < 2001 - v.spent.toNat; omega) ⟨hm', hq, .inl ⟨rfl, zgo v' hs' he⟩⟩ ⟨rfl, rfl, rfl, rfl, rfl, rfl, trivial⟩ trivial
              · conv => whnf
                refine rnd (X := MV × QV) (v', q') (by show (if q'.kind = 0 then _ else 0) < (2001 - v.spent.toNat); rw [if_neg hk']; omega) ⟨hm', hq', .inr ⟨hk', zask v' q' he⟩⟩ ⟨rfl, rfl, rfl, rfl, rfl, rfl, trivial⟩ trivial
              · conv => whnf
                repeat' (first
                  | (refine RetT.drop (K := K) M (by repeat (first | exact List.Sublist.refl _ | refine List.Sublist.cons _ ?_)) (h1 hr 1 (zerr he)))
                  | (intro r bx; conv => whnf)
                  | (refine DefVC.imp (Imp.sub (by repeat (first | exact List.Sublist.refl _ | refine List.Sublist.cons _ ?_))) (rec_pan (f := f) (g := zeroF) (a := ask0) rfl ?_); conv => whnf)
                  | (refine ressA (by repeat (first | exact List.Mem.head _ | refine List.Mem.tail _ ?_)) (tab_ok _ _ (by rfl)) (by rfl) ?_; conv => whnf)
                  | (refine resA (by repeat (first | exact List.Mem.head _ | refine List.Mem.tail _ ?_)) (tab_ok _ _ (by rfl)) (by rfl) (by rfl) ?_; conv => whnf)
                  | (refine JoinVC.go ?_; conv => whnf)
                  | (refine RetA.go ?_; conv => whnf)
                  | (refine PanA.go ?_; conv => whnf))
            · have hop2 : ((bodyAt c f.fn).ins.getD v.pc.toNat ⟨0, 0, 0, 0⟩).op = ((7 : Nat) : Int) := hop
              refine idxArrN 7 hop2 (n := 20) (e := 112) (by kernel_rfl) (tab_ok _ _ (by rfl)) (by decide) ?_
              conv => whnf
              have hof : (Value.pointer (some ⟨b2, 0, none⟩), DA.cs 158 [.func (.func 99) #[] #[]]) ∈ (((.pointer (some ⟨b8, 0, none⟩), .cs 113 (stepsL b1 b2 b3 b4 b5 b6)) :: ofs b1 b2 b3 b4 b5 b6 (nextE f zeroF ask0 0 p3 p4 p5 p6 M)) : EL) := (by repeat (first | exact List.Mem.head _ | refine List.Mem.tail _ ?_))
              repeat' (first
                | (refine i_7 (i := (bodyAt c f.fn).ins.getD v.pc.toNat ⟨0, 0, 0, 0⟩) (fa := fun a => (bodyAt c a).args) hm hroom hop b2 hof ⟨fun v' hm' hs' he => ?_, fun v' q' hm' hq' hk' he => ?_, fun he => ?_⟩)
                | (refine ldA (by repeat (first | exact List.Mem.head _ | refine List.Mem.tail _ ?_)) (tab_ok _ _ (by rfl)) (by rfl) (by rfl) ?_; conv => whnf)
                | (refine ldsO _ (by assumption) (tab_ok _ _ (by rfl)) (by rfl) (by rfl) ?_; conv => whnf))
              · skip
                conv => whnf
                --GO
                refine rnd (X := MV × QV) (v', q0) (by have := hm'.spent; simp only [if_true, q0]; show 2001 - v'.spent.toNat < 2001 - v.spent.toNat; omega) ⟨hm', hq, .inl ⟨rfl, zgo v' hs' he⟩⟩ ⟨rfl, rfl, rfl, rfl, rfl, rfl, trivial⟩ trivial
              · conv => whnf
                refine rnd (X := MV × QV) (v', q') (by show (if q'.kind = 0 then _ else 0) < (2001 - v.spent.toNat); rw [if_neg hk']; omega) ⟨hm', hq', .inr ⟨hk', zask v' q' he⟩⟩ ⟨rfl, rfl, rfl, rfl, rfl, rfl, trivial⟩ trivial
              · conv => whnf
                repeat' (first
                  | (refine RetT.drop (K := K) M (by repeat (first | exact List.Sublist.refl _ | refine List.Sublist.cons _ ?_)) (h1 hr 1 (zerr he)))
                  | (intro r bx; conv => whnf)
                  | (refine DefVC.imp (Imp.sub (by repeat (first | exact List.Sublist.refl _ | refine List.Sublist.cons _ ?_))) (rec_pan (f := f) (g := zeroF) (a := ask0) rfl ?_); conv => whnf)
                  | (refine ressA (by repeat (first | exact List.Mem.head _ | refine List.Mem.tail _ ?_)) (tab_ok _ _ (by rfl)) (by rfl) ?_; conv => whnf)
                  | (refine resA (by repeat (first | exact List.Mem.head _ | refine List.Mem.tail _ ?_)) (tab_ok _ _ (by rfl)) (by rfl) (by rfl) ?_; conv => whnf)
                  | (refine JoinVC.go ?_; conv => whnf)
                  | (refine RetA.go ?_; conv => whnf)
                  | (refine PanA.go ?_; conv => whnf))
            · have hop2 : ((bodyAt c f.fn).ins.getD v.pc.toNat ⟨0, 0, 0, 0⟩).op = ((8 : Nat) : Int) := hop
              refine idxArrN 8 hop2 (n := 20) (e := 112) (by kernel_rfl) (tab_ok _ _ (by rfl)) (by decide) ?_
              conv => whnf
              have hof : (Value.pointer (some ⟨b3, 0, none⟩), DA.cs 158 [.func (.func 100) #[] #[]]) ∈ (((.pointer (some ⟨b8, 0, none⟩), .cs 113 (stepsL b1 b2 b3 b4 b5 b6)) :: ofs b1 b2 b3 b4 b5 b6 (nextE f zeroF ask0 0 p3 p4 p5 p6 M)) : EL) := (by repeat (first | exact List.Mem.head _ | refine List.Mem.tail _ ?_))
              repeat' (first
                | (refine i_8 (i := (bodyAt c f.fn).ins.getD v.pc.toNat ⟨0, 0, 0, 0⟩) (fa := fun a => (bodyAt c a).args) hm hroom hop b3 hof ⟨fun v' hm' hs' he => ?_, fun v' q' hm' hq' hk' he => ?_, fun he => ?_⟩)
                | (refine ldA (by repeat (first | exact List.Mem.head _ | refine List.Mem.tail _ ?_)) (tab_ok _ _ (by rfl)) (by rfl) (by rfl) ?_; conv => whnf)
                | (refine ldsO _ (by assumption) (tab_ok _ _ (by rfl)) (by rfl) (by rfl) ?_; conv => whnf))
              · skip
                conv => whnf
                --GO
                refine rnd (X := MV × QV) (v', q0) (by have := hm'.spent; simp only [if_true, q0]; show 2001 - v'.spent.toNat < 2001 - v.spent.toNat; omega) ⟨hm', hq, .inl ⟨rfl, zgo v' hs' he⟩⟩ ⟨rfl, rfl, rfl, rfl, rfl, rfl, trivial⟩ trivial
              · conv => whnf
                refine rnd (X := MV × QV) (v', q') (by show (if q'.kind = 0 then _ else 0) < (2001 - v.spent.toNat); rw [if_neg hk']; omega) ⟨hm', hq', .inr ⟨hk', zask v' q' he⟩⟩ ⟨rfl, rfl, rfl, rfl, rfl, rfl, trivial⟩ trivial
              · conv => whnf
                repeat' (first
                  | (refine RetT.drop (K := K) M (by repeat (first | exact List.Sublist.refl _ | refine List.Sublist.cons _ ?_)) (h1 hr 1 (zerr he)))
                  | (intro r bx; conv => whnf)
                  | (refine DefVC.imp (Imp.sub (by repeat (first | exact List.Sublist.refl _ | refine List.Sublist.cons _ ?_))) (rec_pan (f := f) (g := zeroF) (a := ask0) rfl ?_); conv => whnf)
                  | (refine ressA (by repeat (first | exact List.Mem.head _ | refine List.Mem.tail _ ?_)) (tab_ok _ _ (by rfl)) (by rfl) ?_; conv => whnf)
                  | (refine resA (by repeat (first | exact List.Mem.head _ | refine List.Mem.tail _ ?_)) (tab_ok _ _ (by rfl)) (by rfl) (by rfl) ?_; conv => whnf)
                  | (refine JoinVC.go ?_; conv => whnf)
                  | (refine RetA.go ?_; conv => whnf)
                  | (refine PanA.go ?_; conv => whnf))
            · have hop2 : ((bodyAt c f.fn).ins.getD v.pc.toNat ⟨0, 0, 0, 0⟩).op = ((9 : Nat) : Int) := hop
              refine idxArrN 9 hop2 (n := 20) (e := 112) (by kernel_rfl) (tab_ok _ _ (by rfl)) (by decide) ?_
              conv => whnf
              have hof : (Value.pointer (some ⟨b4, 0, none⟩), DA.cs 158 [.func (.func 101) #[] #[]]) ∈ (((.pointer (some ⟨b8, 0, none⟩), .cs 113 (stepsL b1 b2 b3 b4 b5 b6)) :: ofs b1 b2 b3 b4 b5 b6 (nextE f zeroF ask0 0 p3 p4 p5 p6 M)) : EL) := (by repeat (first | exact List.Mem.head _ | refine List.Mem.tail _ ?_))
              repeat' (first
                | (refine i_9 (i := (bodyAt c f.fn).ins.getD v.pc.toNat ⟨0, 0, 0, 0⟩) (fa := fun a => (bodyAt c a).args) hm hroom hop b4 hof ⟨fun v' hm' hs' he => ?_, fun v' q' hm' hq' hk' he => ?_, fun he => ?_⟩)
                | (refine ldA (by repeat (first | exact List.Mem.head _ | refine List.Mem.tail _ ?_)) (tab_ok _ _ (by rfl)) (by rfl) (by rfl) ?_; conv => whnf)
                | (refine ldsO _ (by assumption) (tab_ok _ _ (by rfl)) (by rfl) (by rfl) ?_; conv => whnf))
              · skip
                conv => whnf
                --GO
                refine rnd (X := MV × QV) (v', q0) (by have := hm'.spent; simp only [if_true, q0]; show 2001 - v'.spent.toNat < 2001 - v.spent.toNat; omega) ⟨hm', hq, .inl ⟨rfl, zgo v' hs' he⟩⟩ ⟨rfl, rfl, rfl, rfl, rfl, rfl, trivial⟩ trivial
              · conv => whnf
                refine rnd (X := MV × QV) (v', q') (by show (if q'.kind = 0 then _ else 0) < (2001 - v.spent.toNat); rw [if_neg hk']; omega) ⟨hm', hq', .inr ⟨hk', zask v' q' he⟩⟩ ⟨rfl, rfl, rfl, rfl, rfl, rfl, trivial⟩ trivial
              · conv => whnf
                repeat' (first
                  | (refine RetT.drop (K := K) M (by repeat (first | exact List.Sublist.refl _ | refine List.Sublist.cons _ ?_)) (h1 hr 1 (zerr he)))
                  | (intro r bx; conv => whnf)
                  | (refine DefVC.imp (Imp.sub (by repeat (first | exact List.Sublist.refl _ | refine List.Sublist.cons _ ?_))) (rec_pan (f := f) (g := zeroF) (a := ask0) rfl ?_); conv => whnf)
                  | (refine ressA (by repeat (first | exact List.Mem.head _ | refine List.Mem.tail _ ?_)) (tab_ok _ _ (by rfl)) (by rfl) ?_; conv => whnf)
                  | (refine resA (by repeat (first | exact List.Mem.head _ | refine List.Mem.tail _ ?_)) (tab_ok _ _ (by rfl)) (by rfl) (by rfl) ?_; conv => whnf)
                  | (refine JoinVC.go ?_; conv => whnf)
                  | (refine RetA.go ?_; conv => whnf)
                  | (refine PanA.go ?_; conv => whnf))
            · have hop2 : ((bodyAt c f.fn).ins.getD v.pc.toNat ⟨0, 0, 0, 0⟩).op = ((10 : Nat) : Int) := hop
              refine idxArrN 10 hop2 (n := 20) (e := 112) (by kernel_rfl) (tab_ok _ _ (by rfl)) (by decide) ?_
              conv => whnf
              have hof : (Value.pointer (some ⟨b5, 0, none⟩), DA.cs 158 [.func (.func 103) #[] #[]]) ∈ (((.pointer (some ⟨b8, 0, none⟩), .cs 113 (stepsL b1 b2 b3 b4 b5 b6)) :: ofs b1 b2 b3 b4 b5 b6 (nextE f zeroF ask0 0 p3 p4 p5 p6 M)) : EL) := (by repeat (first | exact List.Mem.head _ | refine List.Mem.tail _ ?_))
              repeat' (first
                | (refine i_10 (i := (bodyAt c f.fn).ins.getD v.pc.toNat ⟨0, 0, 0, 0⟩) (fa := fun a => (bodyAt c a).args) hm hroom hop b5 hof ⟨fun v' hm' hs' he => ?_, fun v' q' hm' hq' hk' he => ?_, fun he => ?_⟩)
                | (refine ldA (by repeat (first | exact List.Mem.head _ | refine List.Mem.tail _ ?_)) (tab_ok _ _ (by rfl)) (by rfl) (by rfl) ?_; conv => whnf)
                | (refine ldsO _ (by assumption) (tab_ok _ _ (by rfl)) (by rfl) (by rfl) ?_; conv => whnf))
              · skip
                conv => whnf
                --GO
                refine rnd (X := MV × QV) (v', q0) (by have := hm'.spent; simp only [if_true, q0]; show 2001 - v'.spent.toNat < 2001 - v.spent.toNat; omega) ⟨hm', hq, .inl ⟨rfl, zgo v' hs' he⟩⟩ ⟨rfl, rfl, rfl, rfl, rfl, rfl, trivial⟩ trivial
              · conv => whnf
                refine rnd (X := MV × QV) (v', q') (by show (if q'.kind = 0 then _ else 0) < (2001 - v.spent.toNat); rw [if_neg hk']; omega) ⟨hm', hq', .inr ⟨hk', zask v' q' he⟩⟩ ⟨rfl, rfl, rfl, rfl, rfl, rfl, trivial⟩ trivial
              · conv => whnf
                repeat' (first
                  | (refine RetT.drop (K := K) M (by repeat (first | exact List.Sublist.refl _ | refine List.Sublist.cons _ ?_)) (h1 hr 1 (zerr he)))
                  | (intro r bx; conv => whnf)
                  | (refine DefVC.imp (Imp.sub (by repeat (first | exact List.Sublist.refl _ | refine List.Sublist.cons _ ?_))) (rec_pan (f := f) (g := zeroF) (a := ask0) rfl ?_); conv => whnf)
                  | (refine ressA (by repeat (first | exact List.Mem.head _ | refine List.Mem.tail _ ?_)) (tab_ok _ _ (by rfl)) (by rfl) ?_; conv => whnf)
                  | (refine resA (by repeat (first | exact List.Mem.head _ | refine List.Mem.tail _ ?_)) (tab_ok _ _ (by rfl)) (by rfl) (by rfl) ?_; conv => whnf)
                  | (refine JoinVC.go ?_; conv => whnf)
                  | (refine RetA.go ?_; conv => whnf)
                  | (refine PanA.go ?_; conv => whnf))
            · have hop2 : ((bodyAt c f.fn).ins.getD v.pc.toNat ⟨0, 0, 0, 0⟩).op = ((11 : Nat) : Int) := hop
              refine idxArrN 11 hop2 (n := 20) (e := 112) (by kernel_rfl) (tab_ok _ _ (by rfl)) (by decide) ?_
              conv => whnf
              skip
              repeat' (first
                | (refine i_11 (i := (bodyAt c f.fn).ins.getD v.pc.toNat ⟨0, 0, 0, 0⟩) (fa := fun a => (bodyAt c a).args) hm hroom hop ⟨fun v' hm' hs' he => ?_, fun v' q' hm' hq' hk' he => ?_, fun he => ?_⟩)
                | (refine ldA (by repeat (first | exact List.Mem.head _ | refine List.Mem.tail _ ?_)) (tab_ok _ _ (by rfl)) (by rfl) (by rfl) ?_; conv => whnf)
                | (refine ldsO _ (by assumption) (tab_ok _ _ (by rfl)) (by rfl) (by rfl) ?_; conv => whnf))
              · skip
                conv => whnf
                --GO
                refine rnd (X := MV × QV) (v', q0) (by have := hm'.spent; simp only [if_true, q0]; show 2001 - v'.spent.toNat < 2001 - v.spent.toNat; omega) ⟨hm', hq, .inl ⟨rfl, zgo v' hs' he⟩⟩ ⟨rfl, rfl, rfl, rfl, rfl, rfl, trivial⟩ trivial
              · conv => whnf
                refine rnd (X := MV × QV) (v', q') (by show (if q'.kind = 0 then _ else 0) < (2001 - v.spent.toNat); rw [if_neg hk']; omega) ⟨hm', hq', .inr ⟨hk', zask v' q' he⟩⟩ ⟨rfl, rfl, rfl, rfl, rfl, rfl, trivial⟩ trivial
              · conv => whnf
                repeat' (first
                  | (refine RetT.drop (K := K) M (by repeat (first | exact List.Sublist.refl _ | refine List.Sublist.cons _ ?_)) (h1 hr 1 (zerr he)))
                  | (intro r bx; conv => whnf)
                  | (refine DefVC.imp (Imp.sub (by repeat (first | exact List.Sublist.refl _ | refine List.Sublist.cons _ ?_))) (rec_pan (f := f) (g := zeroF) (a := ask0) rfl ?_); conv => whnf)
                  | (refine ressA (by repeat (first | exact List.Mem.head _ | refine List.Mem.tail _ ?_)) (tab_ok _ _ (by rfl)) (by rfl) ?_; conv => whnf)
                  | (refine resA (by repeat (first | exact List.Mem.head _ | refine List.Mem.tail _ ?_)) (tab_ok _ _ (by rfl)) (by rfl) (by rfl) ?_; conv => whnf)
                  | (refine JoinVC.go ?_; conv => whnf)
                  | (refine RetA.go ?_; conv => whnf)
                  | (refine PanA.go ?_; conv => whnf))
            · have hop2 : ((bodyAt c f.fn).ins.getD v.pc.toNat ⟨0, 0, 0, 0⟩).op = ((12 : Nat) : Int) := hop
              refine idxArrN 12 hop2 (n := 20) (e := 112) (by kernel_rfl) (tab_ok _ _ (by rfl)) (by decide) ?_
              conv => whnf
              skip
              repeat' (first
                | (refine i_12 (i := (bodyAt c f.fn).ins.getD v.pc.toNat ⟨0, 0, 0, 0⟩) (fa := fun a => (bodyAt c a).args) hm hroom hop ⟨fun v' hm' hs' he => ?_, fun v' q' hm' hq' hk' he => ?_, fun he => ?_⟩)
                | (refine ldA (by repeat (first | exact List.Mem.head _ | refine List.Mem.tail _ ?_)) (tab_ok _ _ (by rfl)) (by rfl) (by rfl) ?_; conv => whnf)
                | (refine ldsO _ (by assumption) (tab_ok _ _ (by rfl)) (by rfl) (by rfl) ?_; conv => whnf))
              · skip
                conv => whnf
                --GO
                refine rnd (X := MV × QV) (v', q0) (by have := hm'.spent; simp only [if_true, q0]; show 2001 - v'.spent.toNat < 2001 - v.spent.toNat; omega) ⟨hm', hq, .inl ⟨rfl, zgo v' hs' he⟩⟩ ⟨rfl, rfl, rfl, rfl, rfl, rfl, trivial⟩ trivial
              · conv => whnf
                refine rnd (X := MV × QV) (v', q') (by show (if q'.kind = 0 then _ else 0) < (2001 - v.spent.toNat); rw [if_neg hk']; omega) ⟨hm', hq', .inr ⟨hk', zask v' q' he⟩⟩ ⟨rfl, rfl, rfl, rfl, rfl, rfl, trivial⟩ trivial
              · conv => whnf
                repeat' (first
                  | (refine RetT.drop (K := K) M (by repeat (first | exact List.Sublist.refl _ | refine List.Sublist.cons _ ?_)) (h1 hr 1 (zerr he)))
                  | (intro r bx; conv => whnf)
                  | (refine DefVC.imp (Imp.sub (by repeat (first | exact List.Sublist.refl _ | refine List.Sublist.cons _ ?_))) (rec_pan (f := f) (g := zeroF) (a := ask0) rfl ?_); conv => whnf)
                  | (refine ressA (by repeat (first | exact List.Mem.head _ | refine List.Mem.tail _ ?_)) (tab_ok _ _ (by rfl)) (by rfl) ?_; conv => whnf)
                  | (refine resA (by repeat (first | exact List.Mem.head _ | refine List.Mem.tail _ ?_)) (tab_ok _ _ (by rfl)) (by rfl) (by rfl) ?_; conv => whnf)
                  | (refine JoinVC.go ?_; conv => whnf)
                  | (refine RetA.go ?_; conv => whnf)
                  | (refine PanA.go ?_; conv => whnf))
            · have hop2 : ((bodyAt c f.fn).ins.getD v.pc.toNat ⟨0, 0, 0, 0⟩).op = ((13 : Nat) : Int) := hop
              refine idxArrN 13 hop2 (n := 20) (e := 112) (by kernel_rfl) (tab_ok _ _ (by rfl)) (by decide) ?_
              conv => whnf
              skip
              repeat' (first
                | (refine i_13 (i := (bodyAt c f.fn).ins.getD v.pc.toNat ⟨0, 0, 0, 0⟩) (fa := fun a => (bodyAt c a).args) hm hroom (c.funs.map (·.args)) hF (fa_eq c) hop ⟨fun v' hm' hs' he => ?_, fun v' q' hm' hq' hk' he => ?_, fun he => ?_⟩)
                | (refine ldA (by repeat (first | exact List.Mem.head _ | refine List.Mem.tail _ ?_)) (tab_ok _ _ (by rfl)) (by rfl) (by rfl) ?_; conv => whnf)
                | (refine ldsO _ (by assumption) (tab_ok _ _ (by rfl)) (by rfl) (by rfl) ?_; conv => whnf))
              · skip
                conv => whnf
                --GO
                refine rnd (X := MV × QV) (v', q0) (by have := hm'.spent; simp only [if_true, q0]; show 2001 - v'.spent.toNat < 2001 - v.spent.toNat; omega) ⟨hm', hq, .inl ⟨rfl, zgo v' hs' he⟩⟩ ⟨rfl, rfl, rfl, rfl, rfl, rfl, trivial⟩ trivial
              · conv => whnf
                refine rnd (X := MV × QV) (v', q') (by show (if q'.kind = 0 then _ else 0) < (2001 - v.spent.toNat); rw [if_neg hk']; omega) ⟨hm', hq', .inr ⟨hk', zask v' q' he⟩⟩ ⟨rfl, rfl, rfl, rfl, rfl, rfl, trivial⟩ trivial
              · conv => whnf
                repeat' (first
                  | (refine RetT.drop (K := K) M (by repeat (first | exact List.Sublist.refl _ | refine List.Sublist.cons _ ?_)) (h1 hr 1 (zerr he)))
                  | (intro r bx; conv => whnf)
                  | (refine DefVC.imp (Imp.sub (by repeat (first | exact List.Sublist.refl _ | refine List.Sublist.cons _ ?_))) (rec_pan (f := f) (g := zeroF) (a := ask0) rfl ?_); conv => whnf)
                  | (refine ressA (by repeat (first | exact List.Mem.head _ | refine List.Mem.tail _ ?_)) (tab_ok _ _ (by rfl)) (by rfl) ?_; conv => whnf)
                  | (refine resA (by repeat (first | exact List.Mem.head _ | refine List.Mem.tail _ ?_)) (tab_ok _ _ (by rfl)) (by rfl) (by rfl) ?_; conv => whnf)
                  | (refine JoinVC.go ?_; conv => whnf)
                  | (refine RetA.go ?_; conv => whnf)
                  | (refine PanA.go ?_; conv => whnf))
            · have hop2 : ((bodyAt c f.fn).ins.getD v.pc.toNat ⟨0, 0, 0, 0⟩).op = ((14 : Nat) : Int) := hop
              refine idxArrN 14 hop2 (n := 20) (e := 112) (by kernel_rfl) (tab_ok _ _ (by rfl)) (by decide) ?_
              conv => whnf
              skip
              repeat' (first
                | (refine i_14 (i := (bodyAt c f.fn).ins.getD v.pc.toNat ⟨0, 0, 0, 0⟩) (fa := fun a => (bodyAt c a).args) hm hroom hop ⟨fun v' hm' hs' he => ?_, fun v' q' hm' hq' hk' he => ?_, fun he => ?_⟩)
                | (refine ldA (by repeat (first | exact List.Mem.head _ | refine List.Mem.tail _ ?_)) (tab_ok _ _ (by rfl)) (by rfl) (by rfl) ?_; conv => whnf)
                | (refine ldsO _ (by assumption) (tab_ok _ _ (by rfl)) (by rfl) (by rfl) ?_; conv => whnf))
              · skip
                conv => whnf
                --GO
                refine rnd (X := MV × QV) (v', q0) (by have := hm'.spent; simp only [if_true, q0]; show 2001 - v'.spent.toNat < 2001 - v.spent.toNat; omega) ⟨hm', hq, .inl ⟨rfl, zgo v' hs' he⟩⟩ ⟨rfl, rfl, rfl, rfl, rfl, rfl, trivial⟩ trivial
              · conv => whnf
                refine rnd (X := MV × QV) (v', q') (by show (if q'.kind = 0 then _ else 0) < (2001 - v.spent.toNat); rw [if_neg hk']; omega) ⟨hm', hq', .inr ⟨hk', zask v' q' he⟩⟩ ⟨rfl, rfl, rfl, rfl, rfl, rfl, trivial⟩ trivial
              · conv => whnf
                repeat' (first
                  | (refine RetT.drop (K := K) M (by repeat (first | exact List.Sublist.refl _ | refine List.Sublist.cons _ ?_)) (h1 hr 1 (zerr he)))
                  | (intro r bx; conv => whnf)
                  | (refine DefVC.imp (Imp.sub (by repeat (first | exact List.Sublist.refl _ | refine List.Sublist.cons _ ?_))) (rec_pan (f := f) (g := zeroF) (a := ask0) rfl ?_); conv => whnf)
                  | (refine ressA (by repeat (first | exact List.Mem.head _ | refine List.Mem.tail _ ?_)) (tab_ok _ _ (by rfl)) (by rfl) ?_; conv => whnf)
                  | (refine resA (by repeat (first | exact List.Mem.head _ | refine List.Mem.tail _ ?_)) (tab_ok _ _ (by rfl)) (by rfl) (by rfl) ?_; conv => whnf)
                  | (refine JoinVC.go ?_; conv => whnf)
                  | (refine RetA.go ?_; conv => whnf)
                  | (refine PanA.go ?_; conv => whnf))
            · have hop2 : ((bodyAt c f.fn).ins.getD v.pc.toNat ⟨0, 0, 0, 0⟩).op = ((15 : Nat) : Int) := hop
              refine idxArrN 15 hop2 (n := 20) (e := 112) (by kernel_rfl) (tab_ok _ _ (by rfl)) (by decide) ?_
              conv => whnf
              skip
              repeat' (first
                | (refine i_15 (i := (bodyAt c f.fn).ins.getD v.pc.toNat ⟨0, 0, 0, 0⟩) (fa := fun a => (bodyAt c a).args) hm hroom hop ⟨fun v' hm' hs' he => ?_, fun v' q' hm' hq' hk' he => ?_, fun he => ?_⟩)
                | (refine ldA (by repeat (first | exact List.Mem.head _ | refine List.Mem.tail _ ?_)) (tab_ok _ _ (by rfl)) (by rfl) (by rfl) ?_; conv => whnf)
                | (refine ldsO _ (by assumption) (tab_ok _ _ (by rfl)) (by rfl) (by rfl) ?_; conv => whnf))
              · skip
                conv => whnf
                --GO
                refine rnd (X := MV × QV) (v', q0) (by have := hm'.spent; simp only [if_true, q0]; show 2001 - v'.spent.toNat < 2001 - v.spent.toNat; omega) ⟨hm', hq, .inl ⟨rfl, zgo v' hs' he⟩⟩ ⟨rfl, rfl, rfl, rfl, rfl, rfl, trivial⟩ trivial
              · conv => whnf
                refine rnd (X := MV × QV) (v', q') (by show (if q'.kind = 0 then _ else 0) < (2001 - v.spent.toNat); rw [if_neg hk']; omega) ⟨hm', hq', .inr ⟨hk', zask v' q' he⟩⟩ ⟨rfl, rfl, rfl, rfl, rfl, rfl, trivial⟩ trivial
              · conv => whnf
                repeat' (first
                  | (refine RetT.drop (K := K) M (by repeat (first | exact List.Sublist.refl _ | refine List.Sublist.cons _ ?_)) (h1 hr 1 (zerr he)))
                  | (intro r bx; conv => whnf)
                  | (refine DefVC.imp (Imp.sub (by repeat (first | exact List.Sublist.refl _ | refine List.Sublist.cons _ ?_))) (rec_pan (f := f) (g := zeroF) (a := ask0) rfl ?_); conv => whnf)
                  | (refine ressA (by repeat (first | exact List.Mem.head _ | refine List.Mem.tail _ ?_)) (tab_ok _ _ (by rfl)) (by rfl) ?_; conv => whnf)
                  | (refine resA (by repeat (first | exact List.Mem.head _ | refine List.Mem.tail _ ?_)) (tab_ok _ _ (by rfl)) (by rfl) (by rfl) ?_; conv => whnf)
                  | (refine JoinVC.go ?_; conv => whnf)
                  | (refine RetA.go ?_; conv => whnf)
                  | (refine PanA.go ?_; conv => whnf))
            · have hop2 : ((bodyAt c f.fn).ins.getD v.pc.toNat ⟨0, 0, 0, 0⟩).op = ((16 : Nat) : Int) := hop
              refine idxArrN 16 hop2 (n := 20) (e := 112) (by kernel_rfl) (tab_ok _ _ (by rfl)) (by decide) ?_
              conv => whnf
              skip
              repeat' (first
                | (refine i_16 (i := (bodyAt c f.fn).ins.getD v.pc.toNat ⟨0, 0, 0, 0⟩) (fa := fun a => (bodyAt c a).args) hm hroom hop ⟨fun v' hm' hs' he => ?_, fun v' q' hm' hq' hk' he => ?_, fun he => ?_⟩)
                | (refine ldA (by repeat (first | exact List.Mem.head _ | refine List.Mem.tail _ ?_)) (tab_ok _ _ (by rfl)) (by rfl) (by rfl) ?_; conv => whnf)
                | (refine ldsO _ (by assumption) (tab_ok _ _ (by rfl)) (by rfl) (by rfl) ?_; conv => whnf))
              · skip
                conv => whnf
                --GO
                refine rnd (X := MV × QV) (v', q0) (by have := hm'.spent; simp only [if_true, q0]; show 2001 - v'.spent.toNat < 2001 - v.spent.toNat; omega) ⟨hm', hq, .inl ⟨rfl, zgo v' hs' he⟩⟩ ⟨rfl, rfl, rfl, rfl, rfl, rfl, trivial⟩ trivial
              · conv => whnf
                refine rnd (X := MV × QV) (v', q') (by show (if q'.kind = 0 then _ else 0) < (2001 - v.spent.toNat); rw [if_neg hk']; omega) ⟨hm', hq', .inr ⟨hk', zask v' q' he⟩⟩ ⟨rfl, rfl, rfl, rfl, rfl, rfl, trivial⟩ trivial
              · conv => whnf
                repeat' (first
                  | (refine RetT.drop (K := K) M (by repeat (first | exact List.Sublist.refl _ | refine List.Sublist.cons _ ?_)) (h1 hr 1 (zerr he)))
                  | (intro r bx; conv => whnf)
                  | (refine DefVC.imp (Imp.sub (by repeat (first | exact List.Sublist.refl _ | refine List.Sublist.cons _ ?_))) (rec_pan (f := f) (g := zeroF) (a := ask0) rfl ?_); conv => whnf)
                  | (refine ressA (by repeat (first | exact List.Mem.head _ | refine List.Mem.tail _ ?_)) (tab_ok _ _ (by rfl)) (by rfl) ?_; conv => whnf)
                  | (refine resA (by repeat (first | exact List.Mem.head _ | refine List.Mem.tail _ ?_)) (tab_ok _ _ (by rfl)) (by rfl) (by rfl) ?_; conv => whnf)
                  | (refine JoinVC.go ?_; conv => whnf)
                  | (refine RetA.go ?_; conv => whnf)
                  | (refine PanA.go ?_; conv => whnf))
            · have hop2 : ((bodyAt c f.fn).ins.getD v.pc.toNat ⟨0, 0, 0, 0⟩).op = ((17 : Nat) : Int) := hop
              refine idxArrN 17 hop2 (n := 20) (e := 112) (by kernel_rfl) (tab_ok _ _ (by rfl)) (by decide) ?_
              conv => whnf
              skip
              repeat' (first
                | (refine i_17 (i := (bodyAt c f.fn).ins.getD v.pc.toNat ⟨0, 0, 0, 0⟩) (fa := fun a => (bodyAt c a).args) hm hroom hop ⟨fun v' hm' hs' he => ?_, fun v' q' hm' hq' hk' he => ?_, fun he => ?_⟩)
                | (refine ldA (by repeat (first | exact List.Mem.head _ | refine List.Mem.tail _ ?_)) (tab_ok _ _ (by rfl)) (by rfl) (by rfl) ?_; conv => whnf)
                | (refine ldsO _ (by assumption) (tab_ok _ _ (by rfl)) (by rfl) (by rfl) ?_; conv => whnf))
              · skip
                conv => whnf
                --GO
                refine rnd (X := MV × QV) (v', q0) (by have := hm'.spent; simp only [if_true, q0]; show 2001 - v'.spent.toNat < 2001 - v.spent.toNat; omega) ⟨hm', hq, .inl ⟨rfl, zgo v' hs' he⟩⟩ ⟨rfl, rfl, rfl, rfl, rfl, rfl, trivial⟩ trivial
              · conv => whnf
                refine rnd (X := MV × QV) (v', q') (by show (if q'.kind = 0 then _ else 0) < (2001 - v.spent.toNat); rw [if_neg hk']; omega) ⟨hm', hq', .inr ⟨hk', zask v' q' he⟩⟩ ⟨rfl, rfl, rfl, rfl, rfl, rfl, trivial⟩ trivial
              · conv => whnf
                repeat' (first
                  | (refine RetT.drop (K := K) M (by repeat (first | exact List.Sublist.refl _ | refine List.Sublist.cons _ ?_)) (h1 hr 1 (zerr he)))
                  | (intro r bx; conv => whnf)
                  | (refine DefVC.imp (Imp.sub (by repeat (first | exact List.Sublist.refl _ | refine List.Sublist.cons _ ?_))) (rec_pan (f := f) (g := zeroF) (a := ask0) rfl ?_); conv => whnf)
                  | (refine ressA (by repeat (first | exact List.Mem.head _ | refine List.Mem.tail _ ?_)) (tab_ok _ _ (by rfl)) (by rfl) ?_; conv => whnf)
                  | (refine resA (by repeat (first | exact List.Mem.head _ | refine List.Mem.tail _ ?_)) (tab_ok _ _ (by rfl)) (by rfl) (by rfl) ?_; conv => whnf)
                  | (refine JoinVC.go ?_; conv => whnf)
                  | (refine RetA.go ?_; conv => whnf)
                  | (refine PanA.go ?_; conv => whnf))
            · have hop2 : ((bodyAt c f.fn).ins.getD v.pc.toNat ⟨0, 0, 0, 0⟩).op = ((18 : Nat) : Int) := hop
              refine idxArrN 18 hop2 (n := 20) (e := 112) (by kernel_rfl) (tab_ok _ _ (by rfl)) (by decide) ?_
              conv => whnf
              skip
              repeat' (first
                | (refine i_18 (i := (bodyAt c f.fn).ins.getD v.pc.toNat ⟨0, 0, 0, 0⟩) (fa := fun a => (bodyAt c a).args) hm hroom hop ⟨fun v' hm' hs' he => ?_, fun v' q' hm' hq' hk' he => ?_, fun he => ?_⟩)
                | (refine ldA (by repeat (first | exact List.Mem.head _ | refine List.Mem.tail _ ?_)) (tab_ok _ _ (by rfl)) (by rfl) (by rfl) ?_; conv => whnf)
                | (refine ldsO _ (by assumption) (tab_ok _ _ (by rfl)) (by rfl) (by rfl) ?_; conv => whnf))
              · skip
                conv => whnf
                --GO
                refine rnd (X := MV × QV) (v', q0) (by have := hm'.spent; simp only [if_true, q0]; show 2001 - v'.spent.toNat < 2001 - v.spent.toNat; omega) ⟨hm', hq, .inl ⟨rfl, zgo v' hs' he⟩⟩ ⟨rfl, rfl, rfl, rfl, rfl, rfl, trivial⟩ trivial
              · conv => whnf
                refine rnd (X := MV × QV) (v', q') (by show (if q'.kind = 0 then _ else 0) < (2001 - v.spent.toNat); rw [if_neg hk']; omega) ⟨hm', hq', .inr ⟨hk', zask v' q' he⟩⟩ ⟨rfl, rfl, rfl, rfl, rfl, rfl, trivial⟩ trivial
              · conv => whnf
                repeat' (first
                  | (refine RetT.drop (K := K) M (by repeat (first | exact List.Sublist.refl _ | refine List.Sublist.cons _ ?_)) (h1 hr 1 (zerr he)))
                  | (intro r bx; conv => whnf)
                  | (refine DefVC.imp (Imp.sub (by repeat (first | exact List.Sublist.refl _ | refine List.Sublist.cons _ ?_))) (rec_pan (f := f) (g := zeroF) (a := ask0) rfl ?_); conv => whnf)
                  | (refine ressA (by repeat (first | exact List.Mem.head _ | refine List.Mem.tail _ ?_)) (tab_ok _ _ (by rfl)) (by rfl) ?_; conv => whnf)
                  | (refine resA (by repeat (first | exact List.Mem.head _ | refine List.Mem.tail _ ?_)) (tab_ok _ _ (by rfl)) (by rfl) (by rfl) ?_; conv => whnf)
                  | (refine JoinVC.go ?_; conv => whnf)
                  | (refine RetA.go ?_; conv => whnf)
                  | (refine PanA.go ?_; conv => whnf))
            · have hop2 : ((bodyAt c f.fn).ins.getD v.pc.toNat ⟨0, 0, 0, 0⟩).op = ((19 : Nat) : Int) := hop
              refine idxArrN 19 hop2 (n := 20) (e := 112) (by kernel_rfl) (tab_ok _ _ (by rfl)) (by decide) ?_
              conv => whnf
              have hof : (Value.pointer (some ⟨b6, 0, none⟩), DA.cs 158 [.func (.func 112) #[] #[]]) ∈ (((.pointer (some ⟨b8, 0, none⟩), .cs 113 (stepsL b1 b2 b3 b4 b5 b6)) :: ofs b1 b2 b3 b4 b5 b6 (nextE f zeroF ask0 0 p3 p4 p5 p6 M)) : EL) := (by repeat (first | exact List.Mem.head _ | refine List.Mem.tail _ ?_))
              repeat' (first
                | (refine i_19 (i := (bodyAt c f.fn).ins.getD v.pc.toNat ⟨0, 0, 0, 0⟩) (fa := fun a => (bodyAt c a).args) hm hroom hop b6 hof ⟨fun v' hm' hs' he => ?_, fun v' q' hm' hq' hk' he => ?_, fun he => ?_⟩)
                | (refine ldA (by repeat (first | exact List.Mem.head _ | refine List.Mem.tail _ ?_)) (tab_ok _ _ (by rfl)) (by rfl) (by rfl) ?_; conv => whnf)
                | (refine ldsO _ (by assumption) (tab_ok _ _ (by rfl)) (by rfl) (by rfl) ?_; conv => whnf))
              · skip
                conv => whnf
                --GO
                refine rnd (X := MV × QV) (v', q0) (by have := hm'.spent; simp only [if_true, q0]; show 2001 - v'.spent.toNat < 2001 - v.spent.toNat; omega) ⟨hm', hq, .inl ⟨rfl, zgo v' hs' he⟩⟩ ⟨rfl, rfl, rfl, rfl, rfl, rfl, trivial⟩ trivial
              · conv => whnf
                refine rnd (X := MV × QV) (v', q') (by show (if q'.kind = 0 then _ else 0) < (2001 - v.spent.toNat); rw [if_neg hk']; omega) ⟨hm', hq', .inr ⟨hk', zask v' q' he⟩⟩ ⟨rfl, rfl, rfl, rfl, rfl, rfl, trivial⟩ trivial
              · conv => whnf
                repeat' (first
                  | (refine RetT.drop (K := K) M (by repeat (first | exact List.Sublist.refl _ | refine List.Sublist.cons _ ?_)) (h1 hr 1 (zerr he)))
                  | (intro r bx; conv => whnf)
                  | (refine DefVC.imp (Imp.sub (by repeat (first | exact List.Sublist.refl _ | refine List.Sublist.cons _ ?_))) (rec_pan (f := f) (g := zeroF) (a := ask0) rfl ?_); conv => whnf)
                  | (refine ressA (by repeat (first | exact List.Mem.head _ | refine List.Mem.tail _ ?_)) (tab_ok _ _ (by rfl)) (by rfl) ?_; conv => whnf)
                  | (refine resA (by repeat (first | exact List.Mem.head _ | refine List.Mem.tail _ ?_)) (tab_ok _ _ (by rfl)) (by rfl) (by rfl) ?_; conv => whnf)
                  | (refine JoinVC.go ?_; conv => whnf)
                  | (refine RetA.go ?_; conv => whnf)
                  | (refine PanA.go ?_; conv => whnf))
        · exact absurd hk0 hne
      · conv => whnf
        rcases hrun with ⟨hq0, _⟩ | ⟨hne, hok⟩
        · exact absurd (by rw [hq0]; rfl) hk0
        · repeat' (first
            | (refine JoinVC.go ?_; conv => whnf)
            | (refine RetA.go ?_; conv => whnf)
            | (refine ldA (by repeat (first | exact List.Mem.head _ | refine List.Mem.tail _ ?_)) (tab_ok _ _ (by rfl)) (by rfl) (by rfl) ?_; conv => whnf)
            | (refine ldsA (by repeat (first | exact List.Mem.head _ | refine List.Mem.tail _ ?_)) (tab_ok _ _ (by rfl)) (by rfl) ?_; conv => whnf)
            | (refine stA (tab_ok _ _ (by rfl)) (by repeat (first | exact AtE.here | apply AtE.there)) ?_; conv => whnf)
            | (refine rec_ret ?_; conv => whnf)
            | (refine ressA (by repeat (first | exact List.Mem.head _ | refine List.Mem.tail _ ?_)) (tab_ok _ _ (by rfl)) (by rfl) ?_; conv => whnf)
            | (refine resA (by repeat (first | exact List.Mem.head _ | refine List.Mem.tail _ ?_)) (tab_ok _ _ (by rfl)) (by rfl) (by rfl) ?_; conv => whnf)
            | (refine opMkI (by rfl) (tab_ok _ _ (by rfl)) (by rfl) ?_; conv => whnf)
            | (refine And.intro ?_ ?_ <;> conv => whnf))
          all_goals
            exact RetT.imp (K := K) (rowsN (kOf c f Ap cp Ak ck) v q M) (Imp.sub (by repeat (first | exact List.Sublist.refl _ | refine List.Sublist.cons_cons _ ?_ | refine List.Sublist.cons _ ?_))) (h2 hr Ap cp Ak ck v q hm hq hne hok)
end
end Go.Proofs.YtgaopcbjhepklaaGreat
