/- Lemmas for the proof, joined from several texts: no statement of its own; their conditions stand in them. -/
import Derived.Test.YtgaopcbjhepklaaGreatQ1
import Derived.Test.YtgaopcbjhepklaaGreatQ2
import Derived.Test.YtgaopcbjhepklaaGreatMem
import Derived.ProofKit
import Derived.OpenShut
import Derived.Deep.Slices
import Derived.Deep.Fields
import Derived.ChangeSame
import Derived.Test.YtgaopcbjhepklaaGreatYa
import Derived.Test.YtgaopcbjhepklaaGreatTab
import Derived.Below
/- A seat's turn by its phase. -/
namespace Go.Proofs.YtgaopcbjhepklaaGreat
open Go.RowKit
set_option linter.unusedSimpArgs false
set_option linter.unusedVariables false
set_option maxRecDepth 100000
section
variable {wA w0 : World} {X : Nat → Prop} {M : EL} {K : Value → Ctx → Prop} {Z : PanK}
set_option maxHeartbeats 8000000 in
theorem turn4_vc {c : CodeP} {la : LaP} {s : SeP} {Af : Option Addr} {nf cf : Nat} {me worker : Int} {u : OuP} {R : TuP → EL → Prop} {E : Int → Int → Prop} (hu : u.err = 0 ∨ s.o0 = 10 ∧ u.err = 16) (hg : u.ng ≤ u.cg) (hp : s.phase = 4)
    (hM : Meth wA 38 (turn0 c la s Af nf cf me worker u) R E)
    (h1 : ∀ t' M', R t' M' → K (.agg (tdL t'.s t'.Af t'.nf t'.cf t'.sits false 0 0).toArray) (CtxA wA w0 X (M' ++ M)))
    (h2 : ∀ e v M', E e v → K (.agg (tdL s Af nf cf me true e v).toArray) (CtxA wA w0 X (M' ++ M))) :
    CallVC Tryz.prog (CtxA wA w0 X M) 17 #[.agg c.l.toArray, .agg la.l.toArray, .agg s.l.toArray, .slice Af nf cf, .int .i64 me, .int .i64 worker, .agg u.l.toArray] K Z := by
  obtain ⟨val, is_, err, point, Agu, ngu, cgu⟩ := u
  obtain ⟨phase, at_, task, qk, qa, qb, p0, p1, p2, p3, Aq, nq, cq, o0, o1, o2, o3, Al, nl, cl, As, ns, cs, Ag, ng, cg, hold⟩ := s
  replace hp : phase = 4 := hp
  subst hp
  replace hg : ngu ≤ cgu := hg
  replace hu : err = 0 ∨ o0 = 10 ∧ err = 16 := hu
  refine it17 (by rfl) ?_
  intro w2 X2
  conv => whnf
  refine boxA (SeP.l _) rfl fun b9 => ?_
  conv => whnf
  refine boxA [.slice Af nf cf] rfl fun b10 => ?_
  conv => whnf
  refine boxA [.int .i64 me] rfl fun b11 => ?_
  conv => whnf
  refine allocA (tab_ok _ _ (by rfl)) _ rfl fun b14 => ?_
  conv => whnf
  refine opMkF (by rfl) ?_
  conv => whnf
  rcases hu with rfl | ⟨rfl, rfl⟩
  all_goals conv => whnf
  all_goals skip
  repeat' (first
    | (refine ia33 (by rfl) ?_; intro w1 X1; conv => whnf)
    | (refine opClip el31 (by rfl) (by rfl) (by rfl) (by rfl) hg ?_; conv => whnf)
    | (refine boxA (TuP.l ⟨c, la, _, Af, nf, cf, me, worker, ⟨val, is_, _, point, Agu, ngu, cgu⟩, me⟩) rfl fun bt => ?_; conv => whnf)
    | (refine opMkF (by rfl) ?_; conv => whnf)
    | (refine opMkI (by rfl) (tab_ok _ _ (by rfl)) (by rfl) ?_; conv => whnf)
    | (refine opPan (by rfl) (by rfl) ?_; conv => whnf)
    | (refine JoinVC.go ?_; conv => whnf)
    | (refine RetA.go ?_; conv => whnf)
    | (refine PanA.go ?_; conv => whnf)
    | (refine And.intro ?_ ?_ <;> conv => whnf)
    | (refine ldA (by repeat (first | exact List.Mem.head _ | refine List.Mem.tail _ ?_)) (tab_ok _ _ (by rfl)) (by rfl) (by rfl) ?_; conv => whnf)
    | (refine ldsA (by repeat (first | exact List.Mem.head _ | refine List.Mem.tail _ ?_)) (tab_ok _ _ (by rfl)) (by rfl) ?_; conv => whnf)
    | (refine stA (tab_ok _ _ (by rfl)) (by repeat (first | exact AtE.here | apply AtE.there)) ?_; conv => whnf)
    | (refine splitB.dec (fun hb => ?_) (fun hb => ?_) <;> first | (exfalso; omega) | (conv => whnf))
    | (refine splitB.ndec (fun hb => ?_) (fun hb => ?_) <;> first | (exfalso; omega) | (conv => whnf))
    | (refine splitB.eqI (fun hb => ?_) (fun hb => ?_) <;> first | (exfalso; omega) | (conv => whnf))
    | (refine splitB.neI (fun hb => ?_) (fun hb => ?_) <;> first | (exfalso; omega) | (conv => whnf))
    | (intro r bx; conv => whnf))
  · have hM := hM
    show SemVC _ (CtxA wA w2 X2 (tE (turn0 c la ⟨4, at_, task, qk, qa, qb, p0, p1, p2, p3, Aq, nq, cq, o0, o1, o2, o3, Al, nl, cl, As, ns, cs, Ag, ng, cg, hold⟩ Af nf cf me worker ⟨val, is_, 0, point, Agu, ngu, cgu⟩) bt (turnE ⟨4, at_, task, qk, qa, qb, p0, p1, p2, p3, Aq, nq, cq, o0, o1, o2, o3, Al, nl, cl, As, ns, cs, Ag, ng, cg, hold⟩ Af nf cf me tz b9 b10 b11 b14 M))) _ _
    refine buildA (n := 6) (e := 1) (by kernel_rfl) (tab_ok _ _ (by rfl)) (tab_ok _ _ (by rfl)) ?_
    conv => whnf
    refine allocA (tab_ok _ _ (by rfl)) _ rfl fun b16 => ?_
    conv => whnf
    refine stA (tab_ok _ _ (by rfl)) AtE.here ?_
    conv => whnf
    refine JoinVC.go ?_
    conv => whnf
    show SemVC _ (CtxA wA w2 X2 ((.pointer (some ⟨b16, 0, none⟩), .cs 98 (phsL bt)) :: tE (turn0 c la ⟨4, at_, task, qk, qa, qb, p0, p1, p2, p3, Aq, nq, cq, o0, o1, o2, o3, Al, nl, cl, As, ns, cs, Ag, ng, cg, hold⟩ Af nf cf me worker ⟨val, is_, 0, point, Agu, ngu, cgu⟩) bt (turnE ⟨4, at_, task, qk, qa, qb, p0, p1, p2, p3, Aq, nq, cq, o0, o1, o2, o3, Al, nl, cl, As, ns, cs, Ag, ng, cg, hold⟩ Af nf cf me tz b9 b10 b11 b14 M))) _ _
    repeat' (first
      | (refine idxArrN 4 rfl (n := 6) (e := 1) (by kernel_rfl) (tab_ok _ _ (by rfl)) (by decide) ?_; conv => whnf)
      | (refine CallVC.imp (Imp.perm (List.Perm.swap _ _ _)) (hM _ _ ((.pointer (some ⟨b16, 0, none⟩), .cs 98 (phsL bt)) :: turnE ⟨4, at_, task, qk, qa, qb, p0, p1, p2, p3, Aq, nq, cq, o0, o1, o2, o3, Al, nl, cl, As, ns, cs, Ag, ng, cg, hold⟩ Af nf cf me tz b9 b10 b11 b14 M) bt _ _ (fun t' M' hR => ?_) (fun e v t' M' hE => ?_)) <;> conv => whnf)
      | (refine opMkI (by rfl) (tab_ok _ _ (by rfl)) (by rfl) ?_; conv => whnf)
      | (refine opPan (by rfl) (by rfl) ?_; conv => whnf)
      | (refine JoinVC.go ?_; conv => whnf)
      | (refine RetA.go ?_; conv => whnf)
      | (refine PanA.go ?_; conv => whnf)
      | (refine And.intro ?_ ?_ <;> conv => whnf)
      | (refine ldA (by repeat (first | exact List.Mem.head _ | refine List.Mem.tail _ ?_)) (tab_ok _ _ (by rfl)) (by rfl) (by rfl) ?_; conv => whnf)
      | (refine ldsA (by repeat (first | exact List.Mem.head _ | refine List.Mem.tail _ ?_)) (tab_ok _ _ (by rfl)) (by rfl) ?_; conv => whnf)
      | (refine stA (tab_ok _ _ (by rfl)) (by repeat (first | exact AtE.here | apply AtE.there)) ?_; conv => whnf)
      | (refine splitB.dec (fun hb => ?_) (fun hb => ?_) <;> first | (exfalso; omega) | (conv => whnf))
      | (refine splitB.ndec (fun hb => ?_) (fun hb => ?_) <;> first | (exfalso; omega) | (conv => whnf))
      | (refine splitB.eqI (fun hb => ?_) (fun hb => ?_) <;> first | (exfalso; omega) | (conv => whnf))
      | (refine splitB.neI (fun hb => ?_) (fun hb => ?_) <;> first | (exfalso; omega) | (conv => whnf))
      | (intro r bx; conv => whnf))
    repeat' (first
      | (refine StoVC.imp (Imp.perm (permJ _ M' (turnL ⟨4, at_, task, qk, qa, qb, p0, p1, p2, p3, Aq, nq, cq, o0, o1, o2, o3, Al, nl, cl, As, ns, cs, Ag, ng, cg, hold⟩ Af nf cf me tz b9 b10 b11 b14 b16 bt) M)) ?_; refine stA (tab_ok _ _ (by rfl)) (.there (.there .here)) ?_; conv => whnf)
      | (refine DefVC.imp ((Imp.perm (permJ _ M' (turnL ⟨4, at_, task, qk, qa, qb, p0, p1, p2, p3, Aq, nq, cq, o0, o1, o2, o3, Al, nl, cl, As, ns, cs, Ag, ng, cg, hold⟩ Af nf cf me tz b9 b10 b11 b14 b16 bt) M)).trans (Imp.sub (.cons _ (.cons _ (.refl _))))) (trec_pan rfl ?_); conv => whnf)
      | (refine trec_ret ?_; conv => whnf)
      | (refine ressA (by repeat (first | exact List.Mem.head _ | refine List.Mem.tail _ ?_)) (tab_ok _ _ (by rfl)) (by rfl) ?_; conv => whnf)
      | (exact RetT.imp (K := K) (M' ++ M) (Imp.sub (by repeat (first | exact List.Sublist.refl _ | refine List.Sublist.cons _ ?_))) (h1 t' M' (by assumption)))
      | (exact RetT.imp (K := K) (M' ++ M) (Imp.sub (by repeat (first | exact List.Sublist.refl _ | refine List.Sublist.cons _ ?_))) (h2 _ _ M' (by assumption))))
  · have hM := hM
    show SemVC _ (CtxA wA w2 X2 (tE (turn0 c la ⟨4, at_, task, qk, qa, qb, p0, p1, p2, p3, Aq, nq, cq, 10, o1, o2, o3, Al, nl, cl, As, ns, cs, Ag, ng, cg, hold⟩ Af nf cf me worker ⟨val, is_, 16, point, Agu, ngu, cgu⟩) bt (turnE ⟨4, at_, task, qk, qa, qb, p0, p1, p2, p3, Aq, nq, cq, 10, o1, o2, o3, Al, nl, cl, As, ns, cs, Ag, ng, cg, hold⟩ Af nf cf me tz b9 b10 b11 b14 M))) _ _
    refine buildA (n := 6) (e := 1) (by kernel_rfl) (tab_ok _ _ (by rfl)) (tab_ok _ _ (by rfl)) ?_
    conv => whnf
    refine allocA (tab_ok _ _ (by rfl)) _ rfl fun b16 => ?_
    conv => whnf
    refine stA (tab_ok _ _ (by rfl)) AtE.here ?_
    conv => whnf
    refine JoinVC.go ?_
    conv => whnf
    show SemVC _ (CtxA wA w2 X2 ((.pointer (some ⟨b16, 0, none⟩), .cs 98 (phsL bt)) :: tE (turn0 c la ⟨4, at_, task, qk, qa, qb, p0, p1, p2, p3, Aq, nq, cq, 10, o1, o2, o3, Al, nl, cl, As, ns, cs, Ag, ng, cg, hold⟩ Af nf cf me worker ⟨val, is_, 16, point, Agu, ngu, cgu⟩) bt (turnE ⟨4, at_, task, qk, qa, qb, p0, p1, p2, p3, Aq, nq, cq, 10, o1, o2, o3, Al, nl, cl, As, ns, cs, Ag, ng, cg, hold⟩ Af nf cf me tz b9 b10 b11 b14 M))) _ _
    repeat' (first
      | (refine idxArrN 4 rfl (n := 6) (e := 1) (by kernel_rfl) (tab_ok _ _ (by rfl)) (by decide) ?_; conv => whnf)
      | (refine CallVC.imp (Imp.perm (List.Perm.swap _ _ _)) (hM _ _ ((.pointer (some ⟨b16, 0, none⟩), .cs 98 (phsL bt)) :: turnE ⟨4, at_, task, qk, qa, qb, p0, p1, p2, p3, Aq, nq, cq, 10, o1, o2, o3, Al, nl, cl, As, ns, cs, Ag, ng, cg, hold⟩ Af nf cf me tz b9 b10 b11 b14 M) bt _ _ (fun t' M' hR => ?_) (fun e v t' M' hE => ?_)) <;> conv => whnf)
      | (refine opMkI (by rfl) (tab_ok _ _ (by rfl)) (by rfl) ?_; conv => whnf)
      | (refine opPan (by rfl) (by rfl) ?_; conv => whnf)
      | (refine JoinVC.go ?_; conv => whnf)
      | (refine RetA.go ?_; conv => whnf)
      | (refine PanA.go ?_; conv => whnf)
      | (refine And.intro ?_ ?_ <;> conv => whnf)
      | (refine ldA (by repeat (first | exact List.Mem.head _ | refine List.Mem.tail _ ?_)) (tab_ok _ _ (by rfl)) (by rfl) (by rfl) ?_; conv => whnf)
      | (refine ldsA (by repeat (first | exact List.Mem.head _ | refine List.Mem.tail _ ?_)) (tab_ok _ _ (by rfl)) (by rfl) ?_; conv => whnf)
      | (refine stA (tab_ok _ _ (by rfl)) (by repeat (first | exact AtE.here | apply AtE.there)) ?_; conv => whnf)
      | (refine splitB.dec (fun hb => ?_) (fun hb => ?_) <;> first | (exfalso; omega) | (conv => whnf))
      | (refine splitB.ndec (fun hb => ?_) (fun hb => ?_) <;> first | (exfalso; omega) | (conv => whnf))
      | (refine splitB.eqI (fun hb => ?_) (fun hb => ?_) <;> first | (exfalso; omega) | (conv => whnf))
      | (refine splitB.neI (fun hb => ?_) (fun hb => ?_) <;> first | (exfalso; omega) | (conv => whnf))
      | (intro r bx; conv => whnf))
    repeat' (first
      | (refine StoVC.imp (Imp.perm (permJ _ M' (turnL ⟨4, at_, task, qk, qa, qb, p0, p1, p2, p3, Aq, nq, cq, 10, o1, o2, o3, Al, nl, cl, As, ns, cs, Ag, ng, cg, hold⟩ Af nf cf me tz b9 b10 b11 b14 b16 bt) M)) ?_; refine stA (tab_ok _ _ (by rfl)) (.there (.there .here)) ?_; conv => whnf)
      | (refine DefVC.imp ((Imp.perm (permJ _ M' (turnL ⟨4, at_, task, qk, qa, qb, p0, p1, p2, p3, Aq, nq, cq, 10, o1, o2, o3, Al, nl, cl, As, ns, cs, Ag, ng, cg, hold⟩ Af nf cf me tz b9 b10 b11 b14 b16 bt) M)).trans (Imp.sub (.cons _ (.cons _ (.refl _))))) (trec_pan rfl ?_); conv => whnf)
      | (refine trec_ret ?_; conv => whnf)
      | (refine ressA (by repeat (first | exact List.Mem.head _ | refine List.Mem.tail _ ?_)) (tab_ok _ _ (by rfl)) (by rfl) ?_; conv => whnf)
      | (exact RetT.imp (K := K) (M' ++ M) (Imp.sub (by repeat (first | exact List.Sublist.refl _ | refine List.Sublist.cons _ ?_))) (h1 t' M' (by assumption)))
      | (exact RetT.imp (K := K) (M' ++ M) (Imp.sub (by repeat (first | exact List.Sublist.refl _ | refine List.Sublist.cons _ ?_))) (h2 _ _ M' (by assumption))))
end
end Go.Proofs.YtgaopcbjhepklaaGreat
/- A seat's turn: a sync. -/
namespace Go.Proofs.YtgaopcbjhepklaaGreat
open Go.RowKit
set_option linter.unusedSimpArgs false
set_option linter.unusedVariables false
set_option maxRecDepth 100000
theorem er_nil (w : World) : er w [] = w := by
  have : w.heap.mapIdx (fun i o => if i ∈ ([] : List Nat) then goneO else o) = w.heap := by
    apply Array.ext
    · simp
    · intro i h1 h2; simp
  simp only [er, this]
section
variable {wA w0 : World} {X : Nat → Prop} {M : EL} {K : Value → Ctx → Prop} {Z : PanK}
theorem InA.inE {w : World} (hw : InA wA w0 X M w) : InE wA M w := by
  have h : InA wA w0 X ([] ++ M) w := hw
  have h2 := h.snap
  rw [show keysL ([] : EL) = [] from rfl, er_nil] at h2
  exact h2
variable {t : TuP} {bt : Nat} {fs : List FrP}
theorem splitB.isF {b : Bool} {A B : Prop} (h : b = false) (h2 : B) : splitB b A B := by subst h; exact h2
theorem splitB.isT {b : Bool} {A B : Prop} (h : b = true) (h2 : A) : splitB b A B := by subst h; exact h2
set_option maxHeartbeats 4000000 in
theorem tsync0_vc {i : Nat} (hi : i < fs.length) (hfs : FsOk wA t.Af t.nf t.cf fs) (ht : t.s.task = ((i + 1 : Nat) : Int)) (h0 : i < 1000) (hat : t.s.at_ = 0) (his : t.u.is_ = true) (hne : t.s.nq < fs[i].kids.length)
    (h1 : K (.tuple #[]) (CtxA wA w0 X (tE { t with s := beginS t.s 4 1 ⟨15, 0, (fs[i].kids[t.s.nq]'hne).task, 0⟩ } bt M))) :
    CallVC Tryz.prog (CtxA wA w0 X (tE t bt M)) 38 #[.pointer (some ⟨bt, 0, none⟩)] K Z := by
  have hfk := (hfs.each _ (List.getElem_mem hi)).kids
  have hkl := hfk.len
  have hks := hfk.sm
  have hl := hfs.len
  refine it38 (by rfl) ?_
  intro w2 X2
  conv => whnf
  repeat' (first
    | (refine tframe_vc hfs (fun j hj hjt => ?_) (fun hnj => ?_); (have hji : j = i := by omega); subst hji; conv => whnf)
    | (refine tfetch_vc (t := t) (M := M) (f := fs[j]) hfk (by omega) (fun j2 hj2 hjt2 => ?_) (fun hnj => ?_); (have hji2 : j2 = t.s.nq := by omega); subst hji2; conv => whnf)
    | ((exfalso; omega))
    | (refine splitB.isF ?_ ?_; (focus (simp only [his, Bool.not_true]; done)); conv => whnf)
    | (refine splitB.isT ?_ ?_; (focus (simp only [his]; done)); conv => whnf)
    | (refine opMkI (by rfl) (tab_ok _ _ (by rfl)) (by rfl) ?_; conv => whnf)
    | (refine opPan (by rfl) (by rfl) ?_; conv => whnf)
    | (refine JoinVC.go ?_; conv => whnf)
    | (refine RetA.go ?_; conv => whnf)
    | (refine PanA.go ?_; conv => whnf)
    | (refine And.intro ?_ ?_ <;> conv => whnf)
    | (refine ldA (by repeat (first | exact List.Mem.head _ | refine List.Mem.tail _ ?_)) (tab_ok _ _ (by rfl)) (by rfl) (by rfl) ?_; conv => whnf)
    | (refine ldsA (by repeat (first | exact List.Mem.head _ | refine List.Mem.tail _ ?_)) (tab_ok _ _ (by rfl)) (by rfl) ?_; conv => whnf)
    | (refine stA (tab_ok _ _ (by rfl)) (by repeat (first | exact AtE.here | apply AtE.there)) ?_; conv => whnf)
    | (refine splitB.dec (fun hb => ?_) (fun hb => ?_) <;> first | (exfalso; omega) | (conv => whnf))
    | (refine splitB.ndec (fun hb => ?_) (fun hb => ?_) <;> first | (exfalso; omega) | (conv => whnf))
    | (refine splitB.eqI (fun hb => ?_) (fun hb => ?_) <;> first | (exfalso; omega) | (conv => whnf))
    | (refine splitB.neI (fun hb => ?_) (fun hb => ?_) <;> first | (exfalso; omega) | (conv => whnf))
    | (intro r bx; conv => whnf))
  all_goals first | exact RetT.drop (K := K) _ (List.Sublist.refl _) (by rw [hat] at *; exact h1) | skip
set_option maxHeartbeats 8000000 in
theorem tsync1_vc {i : Nat} (hi : i < fs.length) (hc : CodeOk wA t.c) (hfs : FsOk wA t.Af t.nf t.cf fs) (hkb : fs[i].nk ≤ 999 ∧ fs[i].ns ≤ 999999) (ht : t.s.task = ((i + 1 : Nat) : Int)) (h0 : i < 1000) (hat : 0 < t.s.at_) {got : List Int} (hq : OldI wA t.s.Aq t.s.nq t.s.cq got) (hql : got.length ≤ 1000)
    (h1 : got.length + 1 = fs[i].kids.length → ∀ e A' c', AnsE t.c fs[i] t.s.qk t.s.qb (got ++ [t.u.val]) e → Z (overC e 0) (CtxA wA w0 X (tE { t with s := { t.s with Aq := A', nq := t.s.nq + 1, cq := c' } } bt M)))
    (h2 : got.length + 1 = fs[i].kids.length → ∀ g0 g q ph o0 o1 o2 o3 b n M', Told1 fs[i] t.s.qk t.s.qb (got ++ [t.u.val]) g0 → Gone1 M' fs (i + 1) t.c g0 g q b n → goOp t.s q g0.task = ⟨ph, o0, o1, o2, o3⟩ → K (.tuple #[]) (CtxA wA w0 X (tE { t with s := goS t.s q ⟨ph, o0, o1, o2, o3⟩, Af := some ⟨b, 0, none⟩, nf := n, cf := n } bt (M' ++ M))))
    (h3 : ∀ j (h : j < fs[i].kids.length), got.length + 1 = j → ∀ A' c', K (.tuple #[]) (CtxA wA w0 X (tE { t with s := beginS { t.s with Aq := A', nq := t.s.nq + 1, cq := c' } 4 (w64 (t.s.at_ + 1)) ⟨15, 0, fs[i].kids[j].task, 0⟩ } bt ((.slice A' (t.s.nq + 1) c', .row 3 1 (is (got ++ [t.u.val]))) :: M))))
    (h4 : fs[i].kids.length < got.length + 1 → ∀ A' c', Z (overC 1 0) (CtxA wA w0 X (tE { t with s := { t.s with Aq := A', nq := t.s.nq + 1, cq := c' } } bt M))) :
    CallVC Tryz.prog (CtxA wA w0 X (tE t bt M)) 38 #[.pointer (some ⟨bt, 0, none⟩)] K Z := by
  have hfr := hfs.each _ (List.getElem_mem hi)
  have hfk := hfr.kids
  have hkl := hfk.len
  have hks := hfk.sm
  have hl := hfs.len
  have hgl := hq.len
  refine it38 (by rfl) ?_
  intro w2 X2
  conv => whnf
  repeat' (first
    | (refine tframe_vc hfs (fun j hj hjt => ?_) (fun hnj => ?_); (have hji : j = i := by omega); subst hji; conv => whnf)
    | (refine cloneI_vc hq (fun Aq2 cq2 hcq hAq => ?_); conv => whnf)
    | (refine bsA el23 (by rfl) ?_; (conv => whnf); refine ⟨by rfl, fun bl => ?_⟩; conv => whnf)
    | (refine appI [t.u.val] (SrcA.own (l := [Value.int .i64 t.u.val]) el23 (by repeat (first | exact List.Mem.head _ | refine List.Mem.tail _ ?_)) (by intro u hu; rw [List.mem_singleton] at hu; subst hu; rfl) 1) rfl (by repeat (first | exact AtE.here | apply AtE.there)) (by omega) ?_; intro A'' c'' hc'' hA''; conv => whnf)
    | ((exfalso; omega))
    | (exact RetT.drop (K := K) (tE { t with s := goS t.s q ⟨ph, o0, o1, o2, o3⟩, Af := some ⟨b, 0, none⟩, nf := n, cf := n } bt (M' ++ M)) (.cons_cons _ (List.Sublist.append (.refl _) (.cons _ (.refl _)))) (h2 (by omega) g0 g q ph o0 o1 o2 o3 b n M' hT hG hO))
    | (exact PanT.drop (Z := Z) (tE { t with s := { t.s with Aq := A'', nq := t.s.nq + 1, cq := c'' } } bt M) (.cons_cons _ (.cons _ (.refl _))) (h1 (by omega) e A'' c'' he))
    | (exact RetT.drop (K := K) (tE { t with s := beginS { t.s with Aq := A'', nq := t.s.nq + 1, cq := c'' } 4 (w64 (t.s.at_ + 1)) ⟨15, 0, fs[j].kids[j2].task, 0⟩ } bt ((.slice A'' (t.s.nq + 1) c'', .row 3 1 (is (got ++ [t.u.val]))) :: M)) (List.Sublist.refl _) (h3 j2 hj2 (by omega) A'' c''))
    | (exact PanT.drop (Z := Z) (tE { t with s := { t.s with Aq := A'', nq := t.s.nq + 1, cq := c'' } } bt M) (.cons_cons _ (.cons _ (.refl _))) (h4 (by omega) A'' c''))
    | (refine CallVC.imp ((Imp.sub (by repeat (first | exact List.Sublist.refl _ | refine List.Sublist.cons_cons _ ?_ | refine List.Sublist.cons _ ?_))).trans (Imp.perm (List.Perm.swap _ _ _))) (tanswer_vc (t := { t with s := { t.s with Aq := A'', nq := t.s.nq + 1, cq := c'' } }) (M := (.slice A'' (t.s.nq + 1) c'', .row 3 1 (is (got ++ [t.u.val]))) :: M) (fs := fs) (task := j + 1) (f := fs[j]) (vs := got ++ [t.u.val]) hc hfs (fun E hE => hE.fr hfr) (fun E hE => hE.ownI (List.Mem.head _) (by omega)) ⟨by omega, by omega⟩ ht (by omega) (fun e he => ?_) (fun g0 g q ph o0 o1 o2 o3 b n M' hT hG hO => ?_)) <;> conv => whnf)
    | (refine CallVC.imp ((Imp.sub (by repeat (first | exact List.Sublist.refl _ | refine List.Sublist.cons_cons _ ?_ | refine List.Sublist.cons _ ?_))).trans (Imp.perm (List.Perm.swap _ _ _))) (tfetch_vc (t := { t with s := { t.s with Aq := A'', nq := t.s.nq + 1, cq := c'' } }) (M := (.slice A'' (t.s.nq + 1) c'', .row 3 1 (is (got ++ [t.u.val]))) :: M) (f := fs[j]) hfk (by omega) (fun j2 hj2 hjt2 => ?_) (fun hnj => ?_)) <;> conv => whnf)
    | (refine opMkI (by rfl) (tab_ok _ _ (by rfl)) (by rfl) ?_; conv => whnf)
    | (refine opPan (by rfl) (by rfl) ?_; conv => whnf)
    | (refine JoinVC.go ?_; conv => whnf)
    | (refine RetA.go ?_; conv => whnf)
    | (refine PanA.go ?_; conv => whnf)
    | (refine And.intro ?_ ?_ <;> conv => whnf)
    | (refine ldA (by repeat (first | exact List.Mem.head _ | refine List.Mem.tail _ ?_)) (tab_ok _ _ (by rfl)) (by rfl) (by rfl) ?_; conv => whnf)
    | (refine ldsA (by repeat (first | exact List.Mem.head _ | refine List.Mem.tail _ ?_)) (tab_ok _ _ (by rfl)) (by rfl) ?_; conv => whnf)
    | (refine stA (tab_ok _ _ (by rfl)) (by repeat (first | exact AtE.here | apply AtE.there)) ?_; conv => whnf)
    | (refine splitB.dec (fun hb => ?_) (fun hb => ?_) <;> first | (exfalso; omega) | (conv => whnf))
    | (refine splitB.ndec (fun hb => ?_) (fun hb => ?_) <;> first | (exfalso; omega) | (conv => whnf))
    | (refine splitB.eqI (fun hb => ?_) (fun hb => ?_) <;> first | (exfalso; omega) | (conv => whnf))
    | (refine splitB.neI (fun hb => ?_) (fun hb => ?_) <;> first | (exfalso; omega) | (conv => whnf))
    | (intro r bx; conv => whnf))
theorem meth4a {i : Nat} (hi : i < fs.length) (hfs : FsOk wA t.Af t.nf t.cf fs) (ht : t.s.task = ((i + 1 : Nat) : Int)) (h0 : i < 1000) (hat : t.s.at_ = 0) (his : t.u.is_ = true) (hne : t.s.nq < fs[i].kids.length) : Meth wA 38 t (fun t' M' => M' = [] ∧ t' = { t with s := beginS t.s 4 1 ⟨15, 0, (fs[i].kids[t.s.nq]'hne).task, 0⟩ }) (fun _ _ => False) := fun w0 X M bt K Z hK hZ =>
  tsync0_vc hi hfs ht h0 hat his hne (hK _ [] ⟨rfl, rfl⟩)
def SyncR (t : TuP) (fs : List FrP) (f : FrP) (i : Nat) (got : List Int) (t' : TuP) (M' : EL) : Prop :=
  (got.length + 1 = f.kids.length ∧ ∃ g0 g q ph o0 o1 o2 o3 b n, Told1 f t.s.qk t.s.qb (got ++ [t.u.val]) g0 ∧ Gone1 M' fs (i + 1) t.c g0 g q b n ∧ goOp t.s q g0.task = ⟨ph, o0, o1, o2, o3⟩ ∧ t' = { t with s := goS t.s q ⟨ph, o0, o1, o2, o3⟩, Af := some ⟨b, 0, none⟩, nf := n, cf := n }) ∨
  (∃ j, ∃ h : j < f.kids.length, got.length + 1 = j ∧ ∃ A' c', M' = [(.slice A' (t.s.nq + 1) c', .row 3 1 (is (got ++ [t.u.val])))] ∧ t' = { t with s := beginS { t.s with Aq := A', nq := t.s.nq + 1, cq := c' } 4 (w64 (t.s.at_ + 1)) ⟨15, 0, f.kids[j].task, 0⟩ })
theorem meth4b {i : Nat} (hi : i < fs.length) (hc : CodeOk wA t.c) (hfs : FsOk wA t.Af t.nf t.cf fs) (hkb : fs[i].nk ≤ 999 ∧ fs[i].ns ≤ 999999) (ht : t.s.task = ((i + 1 : Nat) : Int)) (h0 : i < 1000) (hat : 0 < t.s.at_) {got : List Int} (hq : OldI wA t.s.Aq t.s.nq t.s.cq got) (hql : got.length ≤ 1000) : Meth wA 38 t (SyncR t fs fs[i] i got) (fun e v => (got.length + 1 = fs[i].kids.length ∧ AnsE t.c fs[i] t.s.qk t.s.qb (got ++ [t.u.val]) e ∧ v = 0) ∨ (fs[i].kids.length < got.length + 1 ∧ e = 1 ∧ v = 0)) := fun w0 X M bt K Z hK hZ =>
  tsync1_vc hi hc hfs hkb ht h0 hat hq hql (fun h1 e A' c' he => hZ e 0 _ [] (.inl ⟨h1, he, rfl⟩)) (fun h1 g0 g q ph o0 o1 o2 o3 b n M' a1 a2 a3 => hK _ M' (.inl ⟨h1, g0, g, q, ph, o0, o1, o2, o3, b, n, a1, a2, a3, rfl⟩)) (fun j hj h1 A' c' => hK _ [_] (.inr ⟨j, hj, h1, A', c', rfl, rfl⟩)) (fun h1 A' c' => hZ 1 0 _ [] (.inr ⟨h1, rfl, rfl⟩))
end
end Go.Proofs.YtgaopcbjhepklaaGreat
/- SeatFetches: its code and frame, in plain terms. -/
namespace Go.Proofs.YtgaopcbjhepklaaGreat
set_option linter.unusedSimpArgs false
set_option linter.unusedVariables false
set_option maxRecDepth 100000
open Go.RowKit
/-- the instructions, so far -/
def insN : Nat → List InsP
  | 0 => [⟨14, 0, 0, 0⟩]
  | 1 => [⟨14, 0, 0, 0⟩, ⟨2, 0, 0, 0⟩]
  | i + 2 => insN (i + 1) ++ [⟨2, ((i + 1 : Nat) : Int), 0, 0⟩, ⟨6, 0, 0, 0⟩]
def kidsN : Nat → List KidP
  | 0 => []
  | i + 1 => kidsN i ++ [⟨((i + 2 : Nat) : Int), ((i : Nat) : Int)⟩]
def zeros13 : List Int := List.replicate 13 0
def codeF (n b22 : Nat) (Ai : Option Addr) (ci : Nat) : CodeP := ⟨some ⟨b22, 0, none⟩, 1, 1, none, 0, 0, 0, 0, 0, 0, [⟨0, 13, Ai, (insN n).length + 1, ci, insN n ++ [⟨17, 0, 0, 0⟩]⟩]⟩
theorem kidsN_len : ∀ n, (kidsN n).length = n
  | 0 => rfl
  | n + 1 => by simp [kidsN, kidsN_len n]
theorem insL_append : ∀ (a b : List InsP), insL (a ++ b) = insL a ++ insL b
  | [], b => rfl
  | x :: a, b => by simp [insL, insL_append a b]
theorem insL_len : ∀ (a : List InsP), (insL a).length = a.length * 4
  | [] => rfl
  | x :: a => by simp [insL, insL_len a]; omega
theorem insN_len : ∀ n, (insN n).length ≤ 2 * n + 1
  | 0 => by simp [insN]
  | 1 => by simp [insN]
  | n + 2 => by have := insN_len (n + 1); simp [insN]; omega
theorem kidsN_get : ∀ (n j : Nat) (h : j < (kidsN n).length), (kidsN n)[j] = ⟨((j + 2 : Nat) : Int), (j : Int)⟩
  | n + 1, j, h => by
    have hl := kidsN_len n
    simp only [kidsN, List.getElem_append]
    split
    · rename_i h2; exact kidsN_get n j h2
    · rename_i h2
      have h3 := kidsN_len (n + 1)
      have : j = n := by omega
      subst this
      simp
  | 0, j, h => by simp [kidsN] at h
/-- sums, as the frame makes them -/
def sumS : Int → List Int → Int
  | a, [] => a
  | a, v :: l => sumS (IntKind.i64.wrap (a + v) % 4294967296) l
/-- sums, as the law makes them -/
def sumL : Int → List Int → Int
  | a, [] => a
  | a, v :: l => sumL ((IntKind.i64.wrap (a + v)).tmod 4294967296) l
theorem sum_eq : ∀ (l : List Int) (a : Int), 0 ≤ a ∧ a < 4294967296 → (∀ v ∈ l, 0 ≤ v ∧ v < 4294967296) → sumL a l = sumS a l
  | [], a, _, _ => rfl
  | v :: l, a, ha, hl => by
    have hv := hl v (List.mem_cons_self)
    have e : IntKind.i64.wrap (a + v) = a + v := wrapI (by omega)
    have e2 : (a + v).tmod 4294967296 = (a + v) % 4294967296 := Int.tmod_eq_emod_of_nonneg (by omega)
    simp only [sumL, sumS, e, e2]
    exact sum_eq l _ (by omega) (fun x hx => hl x (List.mem_cons_of_mem _ hx))
theorem sum_all {v : Int} {l : List Int} (h : ∀ x ∈ v :: l, 0 ≤ x ∧ x < 4294967296) : sumL 0 (v :: l) = sumS v l := by
  have hv := h v (List.mem_cons_self)
  have e : IntKind.i64.wrap (0 + v) = v := (wrapI (by omega)).trans (by omega)
  have e2 : v.tmod 4294967296 = v := by rw [Int.tmod_eq_emod_of_nonneg hv.1]; omega
  simp only [sumL, e, e2]
  exact sum_eq l v hv (fun x hx => h x (List.mem_cons_of_mem _ hx))
theorem sumL_snoc : ∀ (l : List Int) (a v : Int), sumL a (l ++ [v]) = (IntKind.i64.wrap (sumL a l + v)).tmod 4294967296
  | [], a, v => rfl
  | x :: l, a, v => by simp only [List.cons_append, sumL]; exact sumL_snoc l _ v
/-- the frame ahead of its sync -/
structure FF (f : FrP) (n : Nat) : Prop where
  task : f.task = 1
  fn : f.fn = 0
  pc : f.pc = 0
  spent : f.spent = 0
  fail : f.fail = false
  loc : f.loc = zeros13
  stk : f.stk = []
  kids : f.kids = kidsN n
  many : f.many = 0
section
variable {n b22 : Nat} {Ai : Option Addr} {ci : Nat}
theorem fet1 (hn : 1 ≤ n ∧ n ≤ 12) {f : FrP} (hf : FF f n) (h1 : f.nk = n) (h2 : f.nl = 13) (h3 : f.ns = 0) : nextP (codeF n b22 Ai ci) f = .ok ⟨0, 0, false, zeros13, []⟩ { kind := 5 } ∧ rightB (codeF n b22 Ai ci) f = true := by
  have h : n = 1 ∨ n = 2 ∨ n = 3 ∨ n = 4 ∨ n = 5 ∨ n = 6 ∨ n = 7 ∨ n = 8 ∨ n = 9 ∨ n = 10 ∨ n = 11 ∨ n = 12 := by omega
  obtain ⟨task, Ap, np, cp, path, fn, pc, Al, nl, cl, loc, As, ns, cs, stk, Ak, nk, ck, kids, many, spent, fail⟩ := f
  obtain ⟨a1, a2, a3, a4, a5, a6, a7, a8, a9⟩ := hf
  dsimp only at a1 a2 a3 a4 a5 a6 a7 a8 a9 h1 h2 h3
  rcases h with rfl | rfl | rfl | rfl | rfl | rfl | rfl | rfl | rfl | rfl | rfl | rfl
  all_goals subst a1 a2 a3 a4 a5 a6 a7 a8 a9 h1 h2 h3
  all_goals exact ⟨rfl, rfl⟩
theorem dst_all (hn : 1 ≤ n ∧ n ≤ 12) : (kidsN n).all (fun k => dstB k.dst (13 : Nat)) = true := by
  have h : n = 1 ∨ n = 2 ∨ n = 3 ∨ n = 4 ∨ n = 5 ∨ n = 6 ∨ n = 7 ∨ n = 8 ∨ n = 9 ∨ n = 10 ∨ n = 11 ∨ n = 12 := by omega
  rcases h with rfl | rfl | rfl | rfl | rfl | rfl | rfl | rfl | rfl | rfl | rfl | rfl
  all_goals rfl
/-- the frame behind its sync -/
structure FS (g : FrP) (n : Nat) (vs : List Int) : Prop where
  task : g.task = 1
  fn : g.fn = 0
  pc : g.pc = 0
  spent : g.spent = 0
  fail : g.fail = false
  loc : g.loc = setAll zeros13 (kidsN n) vs
  stk : g.stk = []
  kids : g.kids = []
  many : g.many = 0
  nk : g.nk = 0
  nl : g.nl = 13
  ns : g.ns = 0
theorem setAll_mem : ∀ (ks : List KidP) (vs loc : List Int), ∀ x ∈ setAll loc ks vs, x ∈ loc ∨ x ∈ vs
  | [], vs, loc, x, h => by cases vs <;> exact .inl h
  | k :: ks, [], loc, x, h => .inl h
  | k :: ks, v :: vs, loc, x, h => by
    rcases setAll_mem ks vs (setOne loc k v) x h with h | h
    · unfold setOne at h
      split at h
      · rcases List.mem_or_eq_of_mem_set h with h | h
        · exact .inl h
        · exact .inr (by rw [h]; exact List.mem_cons_self)
      · exact .inl h
    · exact .inr (List.mem_cons_of_mem _ h)
theorem vals_set {ks : List KidP} {vs : List Int} (h : ∀ x ∈ vs, 0 ≤ x ∧ x < 4294967296) : valsB (setAll zeros13 ks vs) = true := by
  refine List.all_eq_true.2 fun x hx => ?_
  rcases setAll_mem ks vs zeros13 x hx with h1 | h1
  · have : x = 0 := List.eq_of_mem_replicate h1
    subst this; rfl
  · exact valB_t (h x h1)
theorem vals_all {vs : List Int} (h : ∀ x ∈ vs, 0 ≤ x ∧ x < 4294967296) : valsB vs = true := List.all_eq_true.2 fun x hx => valB_t (h x hx)
theorem fetR {g : FrP} {vs : List Int} (h : ∀ x ∈ vs, 0 ≤ x ∧ x < 4294967296) (hg : FS g n vs) : rightB (codeF n b22 Ai ci) g = true := by
  have hv := vals_set (ks := kidsN n) h
  unfold rightB
  rw [hg.task, hg.fn, hg.pc, hg.spent, hg.loc, hg.stk, hg.kids, hg.many, hg.nl, hg.ns, hv, if_neg (by show ¬ ((1 : Int) < 1 ∨ ¬ ((0 : Int) ≤ 0 ∧ (0 : Int) < ((1 : Nat) : Int))); omega), if_neg, if_neg (by show ¬ (true = false); decide)]
  · rfl
  · show ¬ (¬ ((0 : Int) ≤ 0 ∧ (0 : Int) < ((((insN n).length + 1 : Nat) : Nat) : Int) + 1) ∨ ((13 : Nat) : Int) ≠ 13 ∨ 0 > 100)
    omega
theorem fet2_1 {g : FrP} {v0 : Int} (hg : FS g 1 [v0]) : ∃ p, nextP (codeF 1 b22 Ai ci) g = .ok p { kind := 6, a := sumS v0 [] } := by
  refine ⟨⟨3, 3, false, setAll zeros13 (kidsN 1) [v0], []⟩, ?_⟩
  unfold nextP kOf
  rw [hg.fn, hg.pc, hg.spent, hg.fail, hg.loc, hg.stk, hg.nk, hg.kids]
  kernel_rfl
theorem fet2_2 {g : FrP} {v0 v1 : Int} (hg : FS g 2 [v0, v1]) : ∃ p, nextP (codeF 2 b22 Ai ci) g = .ok p { kind := 6, a := sumS v0 [v1] } := by
  refine ⟨⟨5, 5, false, setAll zeros13 (kidsN 2) [v0, v1], []⟩, ?_⟩
  unfold nextP kOf
  rw [hg.fn, hg.pc, hg.spent, hg.fail, hg.loc, hg.stk, hg.nk, hg.kids]
  kernel_rfl
theorem fet2_3 {g : FrP} {v0 v1 v2 : Int} (hg : FS g 3 [v0, v1, v2]) : ∃ p, nextP (codeF 3 b22 Ai ci) g = .ok p { kind := 6, a := sumS v0 [v1, v2] } := by
  refine ⟨⟨7, 7, false, setAll zeros13 (kidsN 3) [v0, v1, v2], []⟩, ?_⟩
  unfold nextP kOf
  rw [hg.fn, hg.pc, hg.spent, hg.fail, hg.loc, hg.stk, hg.nk, hg.kids]
  kernel_rfl
theorem fet2_4 {g : FrP} {v0 v1 v2 v3 : Int} (hg : FS g 4 [v0, v1, v2, v3]) : ∃ p, nextP (codeF 4 b22 Ai ci) g = .ok p { kind := 6, a := sumS v0 [v1, v2, v3] } := by
  refine ⟨⟨9, 9, false, setAll zeros13 (kidsN 4) [v0, v1, v2, v3], []⟩, ?_⟩
  unfold nextP kOf
  rw [hg.fn, hg.pc, hg.spent, hg.fail, hg.loc, hg.stk, hg.nk, hg.kids]
  kernel_rfl
theorem fet2_5 {g : FrP} {v0 v1 v2 v3 v4 : Int} (hg : FS g 5 [v0, v1, v2, v3, v4]) : ∃ p, nextP (codeF 5 b22 Ai ci) g = .ok p { kind := 6, a := sumS v0 [v1, v2, v3, v4] } := by
  refine ⟨⟨11, 11, false, setAll zeros13 (kidsN 5) [v0, v1, v2, v3, v4], []⟩, ?_⟩
  unfold nextP kOf
  rw [hg.fn, hg.pc, hg.spent, hg.fail, hg.loc, hg.stk, hg.nk, hg.kids]
  kernel_rfl
theorem fet2_6 {g : FrP} {v0 v1 v2 v3 v4 v5 : Int} (hg : FS g 6 [v0, v1, v2, v3, v4, v5]) : ∃ p, nextP (codeF 6 b22 Ai ci) g = .ok p { kind := 6, a := sumS v0 [v1, v2, v3, v4, v5] } := by
  refine ⟨⟨13, 13, false, setAll zeros13 (kidsN 6) [v0, v1, v2, v3, v4, v5], []⟩, ?_⟩
  unfold nextP kOf
  rw [hg.fn, hg.pc, hg.spent, hg.fail, hg.loc, hg.stk, hg.nk, hg.kids]
  kernel_rfl
theorem fet2_7 {g : FrP} {v0 v1 v2 v3 v4 v5 v6 : Int} (hg : FS g 7 [v0, v1, v2, v3, v4, v5, v6]) : ∃ p, nextP (codeF 7 b22 Ai ci) g = .ok p { kind := 6, a := sumS v0 [v1, v2, v3, v4, v5, v6] } := by
  refine ⟨⟨15, 15, false, setAll zeros13 (kidsN 7) [v0, v1, v2, v3, v4, v5, v6], []⟩, ?_⟩
  unfold nextP kOf
  rw [hg.fn, hg.pc, hg.spent, hg.fail, hg.loc, hg.stk, hg.nk, hg.kids]
  kernel_rfl
theorem fet2_8 {g : FrP} {v0 v1 v2 v3 v4 v5 v6 v7 : Int} (hg : FS g 8 [v0, v1, v2, v3, v4, v5, v6, v7]) : ∃ p, nextP (codeF 8 b22 Ai ci) g = .ok p { kind := 6, a := sumS v0 [v1, v2, v3, v4, v5, v6, v7] } := by
  refine ⟨⟨17, 17, false, setAll zeros13 (kidsN 8) [v0, v1, v2, v3, v4, v5, v6, v7], []⟩, ?_⟩
  unfold nextP kOf
  rw [hg.fn, hg.pc, hg.spent, hg.fail, hg.loc, hg.stk, hg.nk, hg.kids]
  kernel_rfl
theorem fet2_9 {g : FrP} {v0 v1 v2 v3 v4 v5 v6 v7 v8 : Int} (hg : FS g 9 [v0, v1, v2, v3, v4, v5, v6, v7, v8]) : ∃ p, nextP (codeF 9 b22 Ai ci) g = .ok p { kind := 6, a := sumS v0 [v1, v2, v3, v4, v5, v6, v7, v8] } := by
  refine ⟨⟨19, 19, false, setAll zeros13 (kidsN 9) [v0, v1, v2, v3, v4, v5, v6, v7, v8], []⟩, ?_⟩
  unfold nextP kOf
  rw [hg.fn, hg.pc, hg.spent, hg.fail, hg.loc, hg.stk, hg.nk, hg.kids]
  kernel_rfl
theorem fet2_10 {g : FrP} {v0 v1 v2 v3 v4 v5 v6 v7 v8 v9 : Int} (hg : FS g 10 [v0, v1, v2, v3, v4, v5, v6, v7, v8, v9]) : ∃ p, nextP (codeF 10 b22 Ai ci) g = .ok p { kind := 6, a := sumS v0 [v1, v2, v3, v4, v5, v6, v7, v8, v9] } := by
  refine ⟨⟨21, 21, false, setAll zeros13 (kidsN 10) [v0, v1, v2, v3, v4, v5, v6, v7, v8, v9], []⟩, ?_⟩
  unfold nextP kOf
  rw [hg.fn, hg.pc, hg.spent, hg.fail, hg.loc, hg.stk, hg.nk, hg.kids]
  kernel_rfl
theorem fet2_11 {g : FrP} {v0 v1 v2 v3 v4 v5 v6 v7 v8 v9 v10 : Int} (hg : FS g 11 [v0, v1, v2, v3, v4, v5, v6, v7, v8, v9, v10]) : ∃ p, nextP (codeF 11 b22 Ai ci) g = .ok p { kind := 6, a := sumS v0 [v1, v2, v3, v4, v5, v6, v7, v8, v9, v10] } := by
  refine ⟨⟨23, 23, false, setAll zeros13 (kidsN 11) [v0, v1, v2, v3, v4, v5, v6, v7, v8, v9, v10], []⟩, ?_⟩
  unfold nextP kOf
  rw [hg.fn, hg.pc, hg.spent, hg.fail, hg.loc, hg.stk, hg.nk, hg.kids]
  kernel_rfl
theorem fet2_12 {g : FrP} {v0 v1 v2 v3 v4 v5 v6 v7 v8 v9 v10 v11 : Int} (hg : FS g 12 [v0, v1, v2, v3, v4, v5, v6, v7, v8, v9, v10, v11]) : ∃ p, nextP (codeF 12 b22 Ai ci) g = .ok p { kind := 6, a := sumS v0 [v1, v2, v3, v4, v5, v6, v7, v8, v9, v10, v11] } := by
  refine ⟨⟨25, 25, false, setAll zeros13 (kidsN 12) [v0, v1, v2, v3, v4, v5, v6, v7, v8, v9, v10, v11], []⟩, ?_⟩
  unfold nextP kOf
  rw [hg.fn, hg.pc, hg.spent, hg.fail, hg.loc, hg.stk, hg.nk, hg.kids]
  kernel_rfl
theorem fet2 (hn : 1 ≤ n ∧ n ≤ 12) {g : FrP} {vs : List Int} (hl : vs.length = n) (hg : FS g n vs) (h : ∀ x ∈ vs, 0 ≤ x ∧ x < 4294967296) : ∃ p, nextP (codeF n b22 Ai ci) g = .ok p { kind := 6, a := sumL 0 vs } := by
  subst hl
  match vs, hn, hg, h with
  | [v0], _, hg, h => rw [sum_all h]; exact fet2_1 hg
  | [v0, v1], _, hg, h => rw [sum_all h]; exact fet2_2 hg
  | [v0, v1, v2], _, hg, h => rw [sum_all h]; exact fet2_3 hg
  | [v0, v1, v2, v3], _, hg, h => rw [sum_all h]; exact fet2_4 hg
  | [v0, v1, v2, v3, v4], _, hg, h => rw [sum_all h]; exact fet2_5 hg
  | [v0, v1, v2, v3, v4, v5], _, hg, h => rw [sum_all h]; exact fet2_6 hg
  | [v0, v1, v2, v3, v4, v5, v6], _, hg, h => rw [sum_all h]; exact fet2_7 hg
  | [v0, v1, v2, v3, v4, v5, v6, v7], _, hg, h => rw [sum_all h]; exact fet2_8 hg
  | [v0, v1, v2, v3, v4, v5, v6, v7, v8], _, hg, h => rw [sum_all h]; exact fet2_9 hg
  | [v0, v1, v2, v3, v4, v5, v6, v7, v8, v9], _, hg, h => rw [sum_all h]; exact fet2_10 hg
  | [v0, v1, v2, v3, v4, v5, v6, v7, v8, v9, v10], _, hg, h => rw [sum_all h]; exact fet2_11 hg
  | [v0, v1, v2, v3, v4, v5, v6, v7, v8, v9, v10, v11], _, hg, h => rw [sum_all h]; exact fet2_12 hg
  | [], hn, _, _ => simp at hn
  | v0 :: v1 :: v2 :: v3 :: v4 :: v5 :: v6 :: v7 :: v8 :: v9 :: v10 :: v11 :: v12 :: l, hn, _, _ => simp at hn
end
end Go.Proofs.YtgaopcbjhepklaaGreat
/- SeatFetches: a seat's turns. -/
namespace Go.Proofs.YtgaopcbjhepklaaGreat
open Go.RowKit
set_option linter.unusedSimpArgs false
set_option linter.unusedVariables false
set_option maxRecDepth 100000
section
variable {n b26 : Nat} {Ai : Option Addr} {ci : Nat}
theorem codeF_ok {wB E : World} {M : EL} (hn : n ≤ 12) (hE : InE wB M E) (h1 : (Value.slice (some ⟨b26, 0, none⟩) 1 1, DA.row 63 3 [.int .i64 0, .int .i64 13, .slice Ai ((insN n).length + 1) ci]) ∈ M) (h2 : (Value.slice Ai ((insN n).length + 1) ci, DA.row 65 4 (insL (insN n ++ [⟨17, 0, 0, 0⟩]))) ∈ M) : CodeOk E (codeF n b26 Ai ci) := by
  have r1 := hE.row _ _ _ _ _ _ h1
  have r2 := hE.row _ _ _ _ _ _ h2
  have hl := insN_len n
  refine ⟨rfl, by show (1 : Nat) ≤ 1000000; decide, by show (0 : Nat) ≤ 1000000; decide, fun i hi => ?_, fun i hi => ?_⟩
  · have hi' : i < 1 := hi
    obtain rfl : i = 0 := by omega
    refine ⟨b26, 0, rfl, fun q v hv => ?_⟩
    obtain ⟨b, off, hA, _, hc⟩ := r1.1.at_ hv
    injection hA with hA
    injection hA with e1 e2
    subst e1 e2
    simpa using hc
  · have hi' : i < 1 := hi
    obtain rfl : i = 0 := by omega
    refine ⟨r2.1, ?_, ?_⟩
    · show (insN n).length + 1 = (insN n ++ [(⟨17, 0, 0, 0⟩ : InsP)]).length
      simp
    · show (insN n).length + 1 ≤ 1000000
      omega
/-- the seat, between its turns -/
structure SF (s : SeP) (i : Nat) : Prop where
  phase : s.phase = 4
  at_ : s.at_ = ((i + 1 : Nat) : Int)
  task : s.task = 1
  qk : s.qk = 5
  o0 : s.o0 = 15
  o1 : s.o1 = 0
  o2 : s.o2 = ((i + 2 : Nat) : Int)
  o3 : s.o3 = 0
  nq : s.nq = i
section
variable {wA w0 : World} {X : Nat → Prop} {M : EL} {K : Value → Ctx → Prop} {Z : PanK}
theorem FF.ns {g : FrP} (h : FF g n) (hg : FrOk wA g) : g.nk = n ∧ g.nl = 13 ∧ g.ns = 0 := by
  have h1 := hg.kids.len
  have h2 := hg.loc.len
  have h3 := hg.stk.len
  rw [h.kids, kidsN_len] at h1
  rw [h.loc] at h2
  rw [h.stk] at h3
  exact ⟨h1, h2, h3⟩
theorem turnF1 {g : FrP} {q : QV} {b : Nat} {la : LaP} (hn : 1 ≤ n ∧ n ≤ 12) (hg : FF g n) (hgk : FrOk wA g) (hfs : FsOk wA (some ⟨b, 0, none⟩) 1 1 [g]) (hq : q.kind = 5) (hq0 : q.na = 0)
    (hk : ∀ s', SF s' 0 → s'.Aq = q.Aa ∧ s'.cq = q.ca → K (.agg (tdL s' (some ⟨b, 0, none⟩) 1 1 0 false 0 0).toArray) (CtxA wA w0 X M)) :
    CallVC Tryz.prog (CtxA wA w0 X M) 17 #[.agg (codeF n b26 Ai ci).l.toArray, .agg la.l.toArray, .agg (goS sA q ⟨4, 13, 0, 1, 0⟩).l.toArray, .slice (some ⟨b, 0, none⟩) 1 1, .int .i64 0, .int .i64 0, .agg uA.l.toArray] K Z := by
  have hkl : g.kids.length = n := by rw [hg.kids, kidsN_len]
  have hne : (turn0 (codeF n b26 Ai ci) la (goS sA q ⟨4, 13, 0, 1, 0⟩) (some ⟨b, 0, none⟩) 1 1 0 0 uA).s.nq < [g][0].kids.length := by
    show q.na < g.kids.length
    omega
  refine turn4_vc (c := codeF n b26 Ai ci) (la := la) (s := goS sA q ⟨4, 13, 0, 1, 0⟩) (u := uA) (.inl rfl) (Nat.le_refl _) rfl (meth4a (i := 0) (fs := [g]) Nat.zero_lt_one hfs rfl (by decide) rfl rfl hne) (fun t' M' hR => ?_) (fun _ _ _ h => h.elim)
  obtain ⟨rfl, rfl⟩ := hR
  have e : ∀ (j : Nat) (hj : j < g.kids.length), j = 0 → g.kids[j].task = 2 := fun j hj hj0 => by
    subst hj0
    have h2 : ∀ (ks : List KidP) (h : 0 < ks.length), ks = kidsN n → ks[0].task = 2 := fun ks h e => by
      subst e
      rw [kidsN_get n 0 h]
      rfl
    exact h2 _ hj hg.kids
  have hk2 : (g.kids[q.na]'(by omega)).task = 2 := e _ _ hq0
  refine hk _ ⟨rfl, rfl, rfl, hq, rfl, rfl, hk2, rfl, hq0⟩ ⟨rfl, rfl⟩
/-- what is known of the frames in the end -/
def EndOk (M' : EL) (b : Nat) : Prop := ∃ g : FrP, g.kids = [] ∧ ∀ wB E, InE wB M' E → FrOk E g ∧ FsOk E (some ⟨b, 0, none⟩) 1 1 [g]
theorem turnF2 {g : FrP} {s : SeP} {b i : Nat} {v : Int} {vs : List Int} {la : LaP} (hn : 1 ≤ n ∧ n ≤ 12) (hc : CodeOk wA (codeF n b26 Ai ci)) (hg : FF g n) (hgk : FrOk wA g) (hfs : FsOk wA (some ⟨b, 0, none⟩) 1 1 [g]) (hs : SF s i) (hi : i < n) (hvl : vs.length = n) (hv : ∀ x ∈ vs, 0 ≤ x ∧ x < 4294967296) (hvi : vs.take (i + 1) = vs.take i ++ [v]) (hq : OldI wA s.Aq s.nq s.cq (vs.take i))
    (h1 : i + 1 < n → ∀ s' M', SF s' (i + 1) → (∀ wB E, InE wB M' E → OldI E s'.Aq s'.nq s'.cq (vs.take (i + 1))) → K (.agg (tdL s' (some ⟨b, 0, none⟩) 1 1 0 false 0 0).toArray) (CtxA wA w0 X (M' ++ M)))
    (h2 : i + 1 = n → ∀ s' b' M', s'.o0 = 14 → s'.o1 = 0 → s'.o2 = 1 → s'.o3 = sumL 0 vs → EndOk M' b' → K (.agg (tdL s' (some ⟨b', 0, none⟩) 1 1 0 false 0 0).toArray) (CtxA wA w0 X (M' ++ M))) :
    CallVC Tryz.prog (CtxA wA w0 X M) 17 #[.agg (codeF n b26 Ai ci).l.toArray, .agg la.l.toArray, .agg s.l.toArray, .slice (some ⟨b, 0, none⟩) 1 1, .int .i64 0, .int .i64 0, .agg (OuP.l ⟨v, false, 0, 0, none, 0, 0⟩).toArray] K Z := by
  have hkl : g.kids.length = n := by rw [hg.kids, kidsN_len]
  obtain ⟨n1, n2, n3⟩ := hg.ns hgk
  have hti : (vs.take i).length = i := by simp; omega
  have key : ∀ g0 : FrP, i + 1 = n → Told1 g s.qk s.qb (vs.take i ++ [v]) g0 → FS g0 n vs := fun g0 hin hT => by
    have e := hT.eq
    have ev : vs.take i ++ [v] = vs := by rw [← hvi, hin]; exact List.take_of_length_le (by omega)
    rw [ev] at e
    have e2 : toldP g s.qk s.qb vs = some ⟨[], setAll zeros13 (kidsN n) vs, [], 0⟩ := by
      have h5 := told5 (f := g) (k := s.qk) (b := s.qb) (vs := vs) (loc := setAll g.loc g.kids vs) hs.qk ⟨⟨by omega, vals_all hv, by rw [hg.kids, n2]; exact dst_all hn⟩, rfl⟩
      rw [h5, hg.stk, hg.loc, hg.kids, hg.many]
    rw [e2] at e
    injection e with e
    injection e with e3 e4 e5 e6
    obtain ⟨l1, l2, l3, l4⟩ := hT.lens
    rw [← e4, setAll_len2] at l2
    rw [← e3] at l3
    rw [← e5] at l4
    exact ⟨hT.task.trans hg.task, hT.fn.trans hg.fn, hT.pc.trans hg.pc, hT.spent.trans hg.spent, hT.fail.trans hg.fail, e4.symm, e3.symm, e5.symm, e6.symm, l4, l2, l3⟩
  refine turn4_vc (c := codeF n b26 Ai ci) (la := la) (s := s) (u := ⟨v, false, 0, 0, none, 0, 0⟩) (.inl rfl) (Nat.le_refl _) hs.phase (meth4b (i := 0) (fs := [g]) (got := vs.take i) Nat.zero_lt_one hc hfs (by show g.nk ≤ _ ∧ g.ns ≤ _; omega) hs.task (by decide) (by show 0 < s.at_; rw [hs.at_]; omega) hq (by omega)) ?_ ?_
  · intro t' M' hR
    rcases hR with ⟨hl, g0, g', q', ph, o0, o1, o2, o3, b', n', hT, hG, ho, rfl⟩ | ⟨j, hj, hl, A', c', rfl, rfl⟩
    · have hl' : (vs.take i).length + 1 = g.kids.length := hl
      have hin : i + 1 = n := by omega
      have hfs2 := key g0 hin hT
      obtain ⟨p, hp⟩ := fet2 (b22 := b26) (Ai := Ai) (ci := ci) hn hvl hfs2 hv
      have h3 : nextP (codeF n b26 Ai ci) g0 = .ok ⟨g'.pc, g'.spent, g'.fail, g'.loc, g'.stk⟩ (qp q') := hG.nx
      rw [hp] at h3
      injection h3 with _ e2
      injection e2 with c1 c2
      have ho2 : goOp (turn0 (codeF n b26 Ai ci) la s (some ⟨b, 0, none⟩) 1 1 0 0 ⟨v, false, 0, 0, none, 0, 0⟩).s q' g0.task = ⟨5, 14, 0, 1, sumL 0 vs⟩ := by
        unfold goOp
        rw [← c1, ← c2, hfs2.task]
        rfl
      rw [ho2] at ho
      injection ho with a1 a2 a3 a4 a5
      subst a1 a2 a3 a4 a5
      have hn1 : n' = 1 := hG.n_eq
      subst hn1
      refine h2 hin _ b' M' rfl rfl rfl rfl ⟨g', hG.kids.trans hfs2.kids, fun wB E hE => ?_⟩
      obtain ⟨f1, _, f2⟩ := hG.ok wB E hE
      exact ⟨f1, f2 fun k hk hk2 => absurd (show k + 1 = 1 from by have : k < 1 := hk; omega) hk2⟩
    · have hl' : (vs.take i).length + 1 = j := hl
      have hj' : j < g.kids.length := hj
      obtain rfl : j = i + 1 := by omega
      have hk2 : g.kids[i + 1].task = ((i + 1 + 2 : Nat) : Int) := by
        have h2 : ∀ (ks : List KidP) (h : i + 1 < ks.length), ks = kidsN n → ks[i + 1].task = ((i + 1 + 2 : Nat) : Int) := fun ks h e => by
          subst e
          rw [kidsN_get n (i + 1) h]
        exact h2 _ _ hg.kids
      have hat : w64 (s.at_ + 1) = ((i + 1 + 1 : Nat) : Int) := by rw [hs.at_]; exact (w64_id (by omega)).trans (by omega)
      refine h1 (by omega) _ _ ⟨rfl, hat, hs.task, hs.qk, rfl, rfl, hk2, rfl, by show s.nq + 1 = i + 1; rw [hs.nq]⟩ fun wB E hE => ?_
      rw [hvi]
      exact hE.ownI (List.Mem.head _) (by show s.nq + 1 ≤ _; rw [hs.nq]; omega)
  · intro e v' M' hE
    exfalso
    rcases hE with ⟨hl, hA, _⟩ | ⟨hl, _⟩
    · have hl' : (vs.take i).length + 1 = g.kids.length := hl
      have hin : i + 1 = n := by omega
      rcases hA with ⟨hno, _⟩ | ⟨g0, hT, hh⟩
      · have hno' : toldP g s.qk s.qb (vs.take i ++ [v]) = none := hno
        have ev : vs.take i ++ [v] = vs := by rw [← hvi, hin]; exact List.take_of_length_le (by omega)
        rw [ev] at hno'
        have h5 := told5 (f := g) (k := s.qk) (b := s.qb) (vs := vs) (loc := setAll g.loc g.kids vs) hs.qk ⟨⟨by omega, vals_all hv, by rw [hg.kids, n2]; exact dst_all hn⟩, rfl⟩
        rw [h5] at hno'
        cases hno'
      · have hfs2 := key g0 hin hT
        obtain ⟨p, hp⟩ := fet2 (b22 := b26) (Ai := Ai) (ci := ci) hn hvl hfs2 hv
        have hr := fetR (b22 := b26) (Ai := Ai) (ci := ci) hv hfs2
        have hh' : rightB (codeF n b26 Ai ci) g0 = false ∧ e = 1 ∨ rightB (codeF n b26 Ai ci) g0 = true ∧ nextP (codeF n b26 Ai ci) g0 = .err e := hh
        rcases hh' with ⟨h3, _⟩ | ⟨_, h3⟩
        · rw [hr] at h3; cases h3
        · rw [hp] at h3; cases h3
    · have hl' : g.kids.length < (vs.take i).length + 1 := hl
      omega
end
end
end Go.Proofs.YtgaopcbjhepklaaGreat
/- SeatFetches. -/
namespace Go.Proofs.YtgaopcbjhepklaaGreat
open Go.RowKit
set_option linter.unusedSimpArgs false
set_option linter.unusedVariables false
set_option maxRecDepth 100000
def u32L (v : Int) : List Value := [.int .u32 v]
theorem u32L_len (v : Int) : (u32L v).length = 1 := rfl
theorem conv32 {x : Int} (hx : 0 ≤ x ∧ x < 4294967296) {C : Ctx} {K : Value → Ctx → Prop} (h : K (.int .i64 x) C) : SemVC Tryz.prog C (convert 68 3 (.int .u32 x)) K := by
  refine semA (fun w => ?_) h
  have h1 : (Tryz.prog.underlying 68).isSome = true := by kernel_rfl
  have h3 : Tryz.prog.intKind 3 = .i64 := by kernel_rfl
  have h4 := run_convert_int (P := Tryz.prog) w 68 3 .u32 x h1 (by kernel_rfl)
  rw [h4, h3, wrapI (by omega)]
theorem one4 (a b c d : Int) : ∀ u ∈ [Value.int .i64 a, .int .i64 b, .int .i64 c, .int .i64 d], u.oneCell' = true := by
  intro u hu
  simp only [List.mem_cons, List.not_mem_nil, or_false] at hu
  rcases hu with rfl | rfl | rfl | rfl <;> rfl
theorem one2 (a b : Int) : ∀ u ∈ [Value.int .i64 a, .int .i64 b], u.oneCell' = true := by
  intro u hu
  simp only [List.mem_cons, List.not_mem_nil, or_false] at hu
  rcases hu with rfl | rfl <;> rfl
def fF (bl : Nat) (Ak : Option Addr) (n ck : Nat) : FrP := ⟨1, none, 0, 0, [], 0, 0, some ⟨bl, 0, none⟩, 13, 13, zeros13, none, 0, 0, [], Ak, n, ck, kidsN n, 0, 0, false⟩
def rowsX (b26 bl b32 : Nat) (Ai : Option Addr) (ci n : Nat) (Ak : Option Addr) (ck : Nat) (M : EL) : EL := (.slice Ai ((insN n).length + 1) ci, .row 65 4 (insL (insN n) ++ [.int .i64 17, .int .i64 0, .int .i64 0, .int .i64 0])) :: (.slice (some ⟨b32, 0, none⟩) 1 1, .row 65 4 [.int .i64 14, .int .i64 0, .int .i64 0, .int .i64 0]) :: (.slice Ak n ck, .row 67 2 (kidL (kidsN n))) :: (.slice (some ⟨bl, 0, none⟩) 13 13, .row 3 1 (is zeros13)) :: (.slice (some ⟨b26, 0, none⟩) 1 1, .row 63 3 [.int .i64 0, .int .i64 13, .slice Ai ((insN n).length + 1) ci]) :: M
section
variable {b26 bl b32 n ck ci : Nat} {Ai Ak : Option Addr} {M : EL}
theorem rowsX_sub : List.Sublist M (rowsX b26 bl b32 Ai ci n Ak ck M) := .cons _ (.cons _ (.cons _ (.cons _ (.cons _ (.refl _)))))
theorem rowsX_code {wB E : World} {M1 : EL} (hn : n ≤ 12) (hE : InE wB M1 E) (hs : ∀ e ∈ rowsX b26 bl b32 Ai ci n Ak ck M, e ∈ M1) : CodeOk E (codeF n b26 Ai ci) :=
  codeF_ok hn hE (hs _ (.tail _ (.tail _ (.tail _ (.tail _ (.head _)))))) (hs _ (by rw [insL_append]; exact .head _))
theorem fF_ok {wB E : World} {M1 : EL} (hn : n ≤ 12) (hE : InE wB M1 E) (hs : ∀ e ∈ rowsX b26 bl b32 Ai ci n Ak ck M, e ∈ M1) : FrOk E (fF bl Ak n ck) :=
  ⟨⟨.inl rfl, rfl, Nat.le_refl _, Nat.zero_le _⟩, hE.ownI (t := 3) (hs _ (.tail _ (.tail _ (.tail _ (.head _))))) (by show 13 ≤ 1000000; omega), ⟨.inl rfl, rfl, Nat.le_refl _, Nat.zero_le _⟩, hE.ownK (t := 67) (hs _ (.tail _ (.tail _ (.head _)))) (by show n ≤ 1000000; omega)⟩
theorem fF_ff : FF (fF bl Ak n ck) n := ⟨rfl, rfl, rfl, rfl, rfl, rfl, rfl, rfl, rfl⟩
theorem fF_no (hn : 1 ≤ n ∧ n ≤ 12) {e : Int} (h : rightB (codeF n b26 Ai ci) (fF bl Ak n ck) = false ∧ e = 1 ∨ rightB (codeF n b26 Ai ci) (fF bl Ak n ck) = true ∧ nextP (codeF n b26 Ai ci) (fF bl Ak n ck) = .err e) : False := by
  obtain ⟨h1, h2⟩ := fet1 (b22 := b26) (Ai := Ai) (ci := ci) hn (fF_ff (bl := bl) (Ak := Ak) (ck := ck)) rfl rfl rfl
  rcases h with ⟨h, _⟩ | ⟨_, h⟩
  · rw [h2] at h; cases h
  · rw [h1] at h; cases h
theorem fF_go (hn : 1 ≤ n ∧ n ≤ 12) {M' : EL} {g : FrP} {q : QV} (hG : Gone0 M' (codeF n b26 Ai ci) (fF bl Ak n ck) g q) : FF g n ∧ q.kind = 5 ∧ q.got = [] ∧ ∀ ph o0 o1 o2 o3, goOp sA q (fF bl Ak n ck).task = ⟨ph, o0, o1, o2, o3⟩ → ph = 4 ∧ o0 = 13 ∧ o1 = 0 ∧ o2 = 1 ∧ o3 = 0 := by
  obtain ⟨h1, _⟩ := fet1 (b22 := b26) (Ai := Ai) (ci := ci) hn (fF_ff (bl := bl) (Ak := Ak) (ck := ck)) rfl rfl rfl
  have e := hG.nx
  rw [h1] at e
  injection e with e1 e2
  injection e1 with a1 a2 a3 a4 a5
  injection e2 with c1 c2 c3 c4 c5 c6 c7 c8
  refine ⟨⟨hG.task_, hG.fn, a1.symm, a2.symm, a3.symm, a4.symm, a5.symm, hG.kids, hG.many⟩, c1.symm, c8.symm, fun ph o0 o1 o2 o3 ho => ?_⟩
  have e3 : goOp sA q (fF bl Ak n ck).task = ⟨4, 13, 0, 1, 0⟩ := by
    unfold goOp
    rw [← c1]
    rfl
  rw [e3] at ho
  injection ho with h1 h2 h3 h4 h5
  exact ⟨h1.symm, h2.symm, h3.symm, h4.symm, h5.symm⟩
end
section
variable {wA w0 : World} {X : Nat → Prop} {M : EL} {K : Value → Ctx → Prop} {Z : PanK}
set_option maxHeartbeats 8000000 in
theorem fetches_vc {A : Option Addr} {n cg : Nat} {vs : List Int} (hr : Rd wA wA.heap.size A (vs.flatMap u32L)) (hl : n = vs.length) (hv : ∀ x ∈ vs, 0 ≤ x ∧ x < 4294967296) (hk : K (.bool true) (CtxA wA w0 X M)) :
    CallVC Tryz.prog (CtxA wA w0 X M) 5 #[.slice A n cg] K Z := by
  refine it5 (args := [.slice A n cg]) (by rfl) ?_
  intro w2 X2
  conv => whnf
  by_cases hn : 1 ≤ n ∧ n ≤ 12
  rotate_left
  · skip
    repeat' (first
      | (refine alive_vc ?_; conv => whnf)
      | (exact RetT.drop (K := K) M (List.Sublist.refl _) hk)
      | (refine opMkI (by rfl) (tab_ok _ _ (by rfl)) (by rfl) ?_; conv => whnf)
      | (refine opPan (by rfl) (by rfl) ?_; conv => whnf)
      | (refine JoinVC.go ?_; conv => whnf)
      | (refine RetA.go ?_; conv => whnf)
      | (refine PanA.go ?_; conv => whnf)
      | (refine And.intro ?_ ?_ <;> conv => whnf)
      | (refine ldA (by repeat (first | exact List.Mem.head _ | refine List.Mem.tail _ ?_)) (tab_ok _ _ (by rfl)) (by rfl) (by rfl) ?_; conv => whnf)
      | (refine ldsA (by repeat (first | exact List.Mem.head _ | refine List.Mem.tail _ ?_)) (tab_ok _ _ (by rfl)) (by rfl) ?_; conv => whnf)
      | (refine stA (tab_ok _ _ (by rfl)) (by repeat (first | exact AtE.here | apply AtE.there)) ?_; conv => whnf)
      | (refine splitB.dec (fun hb => ?_) (fun hb => ?_) <;> first | (exfalso; omega) | (conv => whnf))
      | (refine splitB.ndec (fun hb => ?_) (fun hb => ?_) <;> first | (exfalso; omega) | (conv => whnf))
      | (refine splitB.eqI (fun hb => ?_) (fun hb => ?_) <;> first | (exfalso; omega) | (conv => whnf))
      | (refine splitB.neI (fun hb => ?_) (fun hb => ?_) <;> first | (exfalso; omega) | (conv => whnf))
      | (intro r bx; conv => whnf))
  repeat' (first
    | (refine laid_n1 (fun la hla => ?_); conv => whnf)
    | (refine bsA el22 (by rfl) ?_; (conv => whnf); refine ⟨by rfl, fun b26 => ?_⟩; conv => whnf)
    | (refine mkN el23 13 rfl (by omega) (fun bl => ?_); conv => whnf)
    | (refine opMkI (by rfl) (tab_ok _ _ (by rfl)) (by rfl) ?_; conv => whnf)
    | (refine opPan (by rfl) (by rfl) ?_; conv => whnf)
    | (refine JoinVC.go ?_; conv => whnf)
    | (refine RetA.go ?_; conv => whnf)
    | (refine PanA.go ?_; conv => whnf)
    | (refine And.intro ?_ ?_ <;> conv => whnf)
    | (refine ldA (by repeat (first | exact List.Mem.head _ | refine List.Mem.tail _ ?_)) (tab_ok _ _ (by rfl)) (by rfl) (by rfl) ?_; conv => whnf)
    | (refine ldsA (by repeat (first | exact List.Mem.head _ | refine List.Mem.tail _ ?_)) (tab_ok _ _ (by rfl)) (by rfl) ?_; conv => whnf)
    | (refine stA (tab_ok _ _ (by rfl)) (by repeat (first | exact AtE.here | apply AtE.there)) ?_; conv => whnf)
    | (refine splitB.dec (fun hb => ?_) (fun hb => ?_) <;> first | (exfalso; omega) | (conv => whnf))
    | (refine splitB.ndec (fun hb => ?_) (fun hb => ?_) <;> first | (exfalso; omega) | (conv => whnf))
    | (refine splitB.eqI (fun hb => ?_) (fun hb => ?_) <;> first | (exfalso; omega) | (conv => whnf))
    | (refine splitB.neI (fun hb => ?_) (fun hb => ?_) <;> first | (exfalso; omega) | (conv => whnf))
    | (intro r bx; conv => whnf))
  refine SemVC.imp (Imp.nil _ none 67 2) (bsA el61 (by rfl) ?_)
  conv => whnf
  refine ⟨by rfl, fun b32 => ?_⟩
  conv => whnf
  refine app0 el61 (SrcA.own (l := [.int .i64 14, .int .i64 0, .int .i64 0, .int .i64 0]) el61 (by repeat (first | exact List.Mem.head _ | refine List.Mem.tail _ ?_)) (one4 _ _ _ _) 1) (by omega) (fun Ai0 ci0 hci0 hAi0 => ?_)
  conv => whnf
  refine LoopVC.on (X := Nat × (Option Addr × Nat × Nat) × (Option Addr × Nat)) (fun x => [(0, .v (.slice A n cg)), (2, .v (.bool false)), (4, .p 4 0), (5, .p 5 0), (6, .p 6 0), (7, .v (.slice x.2.1.1 x.2.1.2.1 x.2.1.2.2)), (35, .v (.int .i64 (n : Int))), (36, .v (.int .i64 (x.1 : Int)))]) (fun x => [(4, 51, la.l), (5, 25, [.slice (some ⟨b26, 0, none⟩) 1 1, .slice none 0 0, .int .i64 0, .int .i64 0, .int .i64 0, .int .i64 0]), (6, 36, [.int .i64 1, .slice none 0 0, .int .i64 0, .int .i64 1, .slice (some ⟨bl, 0, none⟩) 13 13, .slice none 0 0, .slice x.2.2.1 x.1 x.2.2.2, .int .i64 0, .int .i64 0, .bool false])]) (fun x => CtxA wA w2 X2 ((.slice x.2.1.1 x.2.1.2.1 x.2.1.2.2, .row 65 4 (insL (insN x.1))) :: (.slice (some ⟨b32, 0, none⟩) 1 1, .row 65 4 [.int .i64 14, .int .i64 0, .int .i64 0, .int .i64 0]) :: (.slice x.2.2.1 x.1 x.2.2.2, .row 67 2 (kidL (kidsN x.1))) :: (.slice (some ⟨bl, 0, none⟩) 13 13, .row 3 1 (is zeros13)) :: (.slice (some ⟨b26, 0, none⟩) 1 1, .row 63 3 [.int .i64 0, .int .i64 13, .slice none 0 0]) :: M)) (fun x => x.1 ≤ n ∧ x.2.1.2.1 = (insN x.1).length) (fun x => n - x.1) (0, (Ai0, 1, ci0), (none, 0)) ⟨Nat.zero_le _, rfl⟩ ⟨rfl, rfl, rfl, rfl, rfl, rfl, rfl, rfl, trivial⟩ ⟨rfl, rfl, rfl, trivial⟩ ?_
  rintro ⟨i, ⟨Ai, ni, ci⟩, ⟨Ak, ck⟩⟩ r ⟨hi, hni⟩
  replace hi : i ≤ n := hi
  replace hni : ni = (insN i).length := hni
  have hnl := insN_len i
  dsimp only
  conv => whnf
  refine splitB.dec (fun hb => ?_) (fun hb => ?_)
  · skip
    by_cases h0 : i = 0
    · subst h0
      conv => whnf
      repeat' (first
        | (refine bsA el34 (by rfl) ?_; (conv => whnf); refine ⟨by rfl, fun bk => ?_⟩; conv => whnf)
        | (refine appD el34 (SrcA.own (l := [.int .i64 (IntKind.i64.wrap (((0 : Nat) : Int) + 2)), .int .i64 ((0 : Nat) : Int)]) el34 (by repeat (first | exact List.Mem.head _ | refine List.Mem.tail _ ?_)) (one2 _ _) 1) (by repeat (first | exact AtE.here | apply AtE.there)) (by omega) ?_; intro Ak2 ck2 hc2 hA2; conv => whnf)
        | (refine bsA el61 (by rfl) ?_; (conv => whnf); refine ⟨by rfl, fun bi => ?_⟩; conv => whnf)
        | (refine appD el61 (SrcA.own (l := [.int .i64 2, .int .i64 ((0 : Nat) : Int), .int .i64 0, .int .i64 0]) el61 (by repeat (first | exact List.Mem.head _ | refine List.Mem.tail _ ?_)) (one4 _ _ _ _) 1) (by repeat (first | exact AtE.here | apply AtE.there)) (by omega) ?_; intro Ai2 ci2 hc2 hA2; conv => whnf)
        | (refine opMkI (by rfl) (tab_ok _ _ (by rfl)) (by rfl) ?_; conv => whnf)
        | (refine opPan (by rfl) (by rfl) ?_; conv => whnf)
        | (refine JoinVC.go ?_; conv => whnf)
        | (refine RetA.go ?_; conv => whnf)
        | (refine PanA.go ?_; conv => whnf)
        | (refine And.intro ?_ ?_ <;> conv => whnf)
        | (refine ldA (by repeat (first | exact List.Mem.head _ | refine List.Mem.tail _ ?_)) (tab_ok _ _ (by rfl)) (by rfl) (by rfl) ?_; conv => whnf)
        | (refine ldsA (by repeat (first | exact List.Mem.head _ | refine List.Mem.tail _ ?_)) (tab_ok _ _ (by rfl)) (by rfl) ?_; conv => whnf)
        | (refine stA (tab_ok _ _ (by rfl)) (by repeat (first | exact AtE.here | apply AtE.there)) ?_; conv => whnf)
        | (refine splitB.dec (fun hb => ?_) (fun hb => ?_) <;> first | (exfalso; omega) | (conv => whnf))
        | (refine splitB.ndec (fun hb => ?_) (fun hb => ?_) <;> first | (exfalso; omega) | (conv => whnf))
        | (refine splitB.eqI (fun hb => ?_) (fun hb => ?_) <;> first | (exfalso; omega) | (conv => whnf))
        | (refine splitB.neI (fun hb => ?_) (fun hb => ?_) <;> first | (exfalso; omega) | (conv => whnf))
        | (intro r bx; conv => whnf))
      all_goals exact rnd (X := Nat × (Option Addr × Nat × Nat) × (Option Addr × Nat)) (1, (Ai2, ni + 1, ci2), (Ak2, ck2)) (by show n - 1 < n - 0; omega) ⟨by show 1 ≤ n; omega, by show ni + 1 = 2; rw [hni]; rfl⟩ ⟨rfl, rfl, rfl, rfl, rfl, rfl, rfl, ixw (by omega), trivial⟩ ⟨rfl, rfl, rfl, trivial⟩
    · obtain ⟨m, rfl⟩ : ∃ m, i = m + 1 := ⟨i - 1, by omega⟩
      have e1 : kidL (kidsN (m + 1)) ++ [.int .i64 (IntKind.i64.wrap (((m + 1 : Nat) : Int) + 2)), .int .i64 ((m + 1 : Nat) : Int)] = kidL (kidsN (m + 1 + 1)) := by
        rw [show IntKind.i64.wrap (((m + 1 : Nat) : Int) + 2) = ((m + 1 + 2 : Nat) : Int) from (wrapI (by omega)).trans (by omega)]
        exact (kidL_append (kidsN (m + 1)) [⟨((m + 1 + 2 : Nat) : Int), ((m + 1 : Nat) : Int)⟩]).symm
      have e2 : insL (insN (m + 1)) ++ [.int .i64 2, .int .i64 ((m + 1 : Nat) : Int), .int .i64 0, .int .i64 0] ++ [.int .i64 6, .int .i64 0, .int .i64 0, .int .i64 0] = insL (insN (m + 1 + 1)) := by
        rw [List.append_assoc]
        exact (insL_append (insN (m + 1)) [⟨2, ((m + 1 : Nat) : Int), 0, 0⟩, ⟨6, 0, 0, 0⟩]).symm
      conv => whnf
      repeat' (first
        | (refine bsA el34 (by rfl) ?_; (conv => whnf); refine ⟨by rfl, fun bk => ?_⟩; conv => whnf)
        | (refine appD el34 (SrcA.own (l := [.int .i64 (IntKind.i64.wrap (((m + 1 : Nat) : Int) + 2)), .int .i64 ((m + 1 : Nat) : Int)]) el34 (by repeat (first | exact List.Mem.head _ | refine List.Mem.tail _ ?_)) (one2 _ _) 1) (by repeat (first | exact AtE.here | apply AtE.there)) (by omega) ?_; intro Ak2 ck2 hc2 hA2; conv => whnf)
        | (refine bsA el61 (by rfl) ?_; (conv => whnf); refine ⟨by rfl, fun bi => ?_⟩; conv => whnf)
        | (refine appD el61 (SrcA.own (l := [.int .i64 2, .int .i64 ((m + 1 : Nat) : Int), .int .i64 0, .int .i64 0]) el61 (by repeat (first | exact List.Mem.head _ | refine List.Mem.tail _ ?_)) (one4 _ _ _ _) 1) (by repeat (first | exact AtE.here | apply AtE.there)) (by omega) ?_; intro Ai2 ci2 hc2 hA2; conv => whnf)
        | (refine appD el61 (SrcA.own (l := [.int .i64 6, .int .i64 0, .int .i64 0, .int .i64 0]) el61 (by repeat (first | exact List.Mem.head _ | refine List.Mem.tail _ ?_)) (one4 _ _ _ _) 1) (by repeat (first | exact AtE.here | apply AtE.there)) (by omega) ?_; intro Ai3 ci3 hc2 hA2; conv => whnf)
        | (refine opMkI (by rfl) (tab_ok _ _ (by rfl)) (by rfl) ?_; conv => whnf)
        | (refine opPan (by rfl) (by rfl) ?_; conv => whnf)
        | (refine JoinVC.go ?_; conv => whnf)
        | (refine RetA.go ?_; conv => whnf)
        | (refine PanA.go ?_; conv => whnf)
        | (refine And.intro ?_ ?_ <;> conv => whnf)
        | (refine ldA (by repeat (first | exact List.Mem.head _ | refine List.Mem.tail _ ?_)) (tab_ok _ _ (by rfl)) (by rfl) (by rfl) ?_; conv => whnf)
        | (refine ldsA (by repeat (first | exact List.Mem.head _ | refine List.Mem.tail _ ?_)) (tab_ok _ _ (by rfl)) (by rfl) ?_; conv => whnf)
        | (refine stA (tab_ok _ _ (by rfl)) (by repeat (first | exact AtE.here | apply AtE.there)) ?_; conv => whnf)
        | (refine splitB.dec (fun hb => ?_) (fun hb => ?_) <;> first | (exfalso; omega) | (conv => whnf))
        | (refine splitB.ndec (fun hb => ?_) (fun hb => ?_) <;> first | (exfalso; omega) | (conv => whnf))
        | (refine splitB.eqI (fun hb => ?_) (fun hb => ?_) <;> first | (exfalso; omega) | (conv => whnf))
        | (refine splitB.neI (fun hb => ?_) (fun hb => ?_) <;> first | (exfalso; omega) | (conv => whnf))
        | (intro r bx; conv => whnf))
      all_goals exact rnd (X := Nat × (Option Addr × Nat × Nat) × (Option Addr × Nat)) (m + 1 + 1, (Ai3, ni + 1 + 1, ci3), (Ak2, ck2)) (by show n - (m + 1 + 1) < n - (m + 1); omega) ⟨by show m + 1 + 1 ≤ n; omega, by show ni + 1 + 1 = (insN (m + 2)).length; rw [hni]; simp [insN]⟩ ⟨rfl, rfl, rfl, rfl, rfl, rfl, rfl, ixw (by omega), trivial⟩ ⟨rfl, rfl, rfl, trivial⟩ (hC := by rw [← e1, ← e2])
  · have hin : n = i := by omega
    subst hin
    subst hni
    conv => whnf
    repeat' (first
      | (refine bsA el61 (by rfl) ?_; (conv => whnf); refine ⟨by rfl, fun b64 => ?_⟩; conv => whnf)
      | (refine appD el61 (SrcA.own (l := [.int .i64 17, .int .i64 0, .int .i64 0, .int .i64 0]) el61 (by repeat (first | exact List.Mem.head _ | refine List.Mem.tail _ ?_)) (one4 _ _ _ _) 1) (by repeat (first | exact AtE.here | apply AtE.there)) (by omega) ?_; intro Ai9 ci9 hc9 hA9; conv => whnf)
      | (refine idxBN 0 rfl (by decide) ?_; conv => whnf)
      | (refine opMkI (by rfl) (tab_ok _ _ (by rfl)) (by rfl) ?_; conv => whnf)
      | (refine opPan (by rfl) (by rfl) ?_; conv => whnf)
      | (refine JoinVC.go ?_; conv => whnf)
      | (refine RetA.go ?_; conv => whnf)
      | (refine PanA.go ?_; conv => whnf)
      | (refine And.intro ?_ ?_ <;> conv => whnf)
      | (refine ldA (by repeat (first | exact List.Mem.head _ | refine List.Mem.tail _ ?_)) (tab_ok _ _ (by rfl)) (by rfl) (by rfl) ?_; conv => whnf)
      | (refine ldsA (by repeat (first | exact List.Mem.head _ | refine List.Mem.tail _ ?_)) (tab_ok _ _ (by rfl)) (by rfl) ?_; conv => whnf)
      | (refine stA (tab_ok _ _ (by rfl)) (by repeat (first | exact AtE.here | apply AtE.there)) ?_; conv => whnf)
      | (refine splitB.dec (fun hb => ?_) (fun hb => ?_) <;> first | (exfalso; omega) | (conv => whnf))
      | (refine splitB.ndec (fun hb => ?_) (fun hb => ?_) <;> first | (exfalso; omega) | (conv => whnf))
      | (refine splitB.eqI (fun hb => ?_) (fun hb => ?_) <;> first | (exfalso; omega) | (conv => whnf))
      | (refine splitB.neI (fun hb => ?_) (fun hb => ?_) <;> first | (exfalso; omega) | (conv => whnf))
      | (intro r bx; conv => whnf))
    show StoVC _ (CtxA wA w2 X2 _) (Instr.storeAt 61 (.pointer (some ⟨b26, 2, none⟩)) (.slice Ai9 ((insN n).length + 1) ci9)) _
    refine stR (off := 2) (v := .slice Ai9 ((insN n).length + 1) ci9) (l := [.int .i64 0, .int .i64 13, .slice none 0 0]) (tab_ok _ _ (by rfl)) [.int .i64 0, .int .i64 13, .slice Ai9 ((insN n).length + 1) ci9] (by repeat (first | exact AtE.here | apply AtE.there)) (by rfl) (Nat.le_refl 3) (Nat.zero_lt_one) (by rfl) (by rfl) ?_
    conv => whnf
    refine CallVC.anchor [] (rowsX b26 bl b32 Ai9 ci9 n Ak ck M) en10 rfl (fun E w Y hE => go2_vc (c := codeF n b26 Ai9 ci9) (s := sA) (f := fF bl Ak n ck) (rowsX_code hn.2 hE (fun e he => he)) (fF_ok hn.2 hE (fun e he => he)) (fun e he => (fF_no hn he).elim) (fun g q ph o0 o1 o2 o3 M' hG ho => RetN.to (M' ++ rowsX b26 bl b32 Ai9 ci9 n Ak ck M) (by rw [List.append_nil]) ?_))
    obtain ⟨hff, hq5, hq0, hop⟩ := fF_go hn hG
    obtain ⟨rfl, rfl, rfl, rfl, rfl⟩ := hop _ _ _ _ _ ho
    conv => whnf
    repeat' (first
      | (refine bsA el39 (by rfl) ?_; (conv => whnf); refine ⟨by rfl, fun b89 => ?_⟩; conv => whnf)
      | (refine opMkI (by rfl) (tab_ok _ _ (by rfl)) (by rfl) ?_; conv => whnf)
      | (refine opPan (by rfl) (by rfl) ?_; conv => whnf)
      | (refine JoinVC.go ?_; conv => whnf)
      | (refine RetA.go ?_; conv => whnf)
      | (refine PanA.go ?_; conv => whnf)
      | (refine And.intro ?_ ?_ <;> conv => whnf)
      | (refine ldA (by repeat (first | exact List.Mem.head _ | refine List.Mem.tail _ ?_)) (tab_ok _ _ (by rfl)) (by rfl) (by rfl) ?_; conv => whnf)
      | (refine ldsA (by repeat (first | exact List.Mem.head _ | refine List.Mem.tail _ ?_)) (tab_ok _ _ (by rfl)) (by rfl) ?_; conv => whnf)
      | (refine stA (tab_ok _ _ (by rfl)) (by repeat (first | exact AtE.here | apply AtE.there)) ?_; conv => whnf)
      | (refine splitB.dec (fun hb => ?_) (fun hb => ?_) <;> first | (exfalso; omega) | (conv => whnf))
      | (refine splitB.ndec (fun hb => ?_) (fun hb => ?_) <;> first | (exfalso; omega) | (conv => whnf))
      | (refine splitB.eqI (fun hb => ?_) (fun hb => ?_) <;> first | (exfalso; omega) | (conv => whnf))
      | (refine splitB.neI (fun hb => ?_) (fun hb => ?_) <;> first | (exfalso; omega) | (conv => whnf))
      | (intro r bx; conv => whnf))
    have hgok : ∀ wB E, InE wB ((.slice (some ⟨b89, 0, none⟩) 1 1, .row 36 10 g.l) :: (M' ++ rowsX b26 bl b32 Ai9 ci9 n Ak ck M)) E → FrOk E g ∧ OldI E q.Aa q.na q.ca q.got := fun wB E hE => hG.ok wB E (hE.less fun e he => .tail _ (List.mem_append_left _ he))
    refine CallVC.anchor [] ((.slice (some ⟨b89, 0, none⟩) 1 1, .row 36 10 g.l) :: (M' ++ rowsX b26 bl b32 Ai9 ci9 n Ak ck M)) en17 rfl (fun E w Y hE => turnF1 (b26 := b26) (Ai := Ai9) (ci := ci9) (la := la) (q := q) (g := g) hn hff (hgok _ E hE).1 (fsOne hE (.head _) (hgok _ E hE).1) hq5 (by have := (hgok _ E hE).2.len; rw [hq0] at this; exact this) (fun s1 hs1 hA1 => RetN.to ((.slice (some ⟨b89, 0, none⟩) 1 1, .row 36 10 g.l) :: (M' ++ rowsX b26 bl b32 Ai9 ci9 n Ak ck M)) rfl ?_))
    conv => whnf
    refine LoopVC.on (X := Nat × SeP × Option Addr × EL) (fun x => [(0, .v (.slice A n cg)), (2, .v (.bool false)), (4, .p 4 0), (5, .p 5 0), (11, .p 11 0), (12, .v (.int .i64 (sumL 0 (vs.take x.1)))), (92, .v (.slice A n cg)), (93, .v (.int .i64 (n : Int))), (94, .v (.int .i64 (x.1 : Int)))]) (fun x => [(4, 51, la.l), (5, 25, [.slice (some ⟨b26, 0, none⟩) 1 1, .slice none 0 0, .int .i64 0, .int .i64 0, .int .i64 0, .int .i64 0]), (11, 57, tdL x.2.1 x.2.2.1 1 1 0 false 0 0)]) (fun x => CtxA wA w2 X2 (x.2.2.2 ++ ((.slice (some ⟨b89, 0, none⟩) 1 1, .row 36 10 g.l) :: (M' ++ rowsX b26 bl b32 Ai9 ci9 n Ak ck M)))) (fun x => x.1 ≤ n ∧ ((x.1 < n ∧ SF x.2.1 x.1 ∧ x.2.2.1 = some ⟨b89, 0, none⟩ ∧ ∀ wB E, InE wB (x.2.2.2 ++ ((.slice (some ⟨b89, 0, none⟩) 1 1, .row 36 10 g.l) :: (M' ++ rowsX b26 bl b32 Ai9 ci9 n Ak ck M))) E → OldI E x.2.1.Aq x.2.1.nq x.2.1.cq (vs.take x.1)) ∨ (x.1 = n ∧ x.2.1.o0 = 14 ∧ x.2.1.o1 = 0 ∧ x.2.1.o2 = 1 ∧ x.2.1.o3 = sumL 0 vs ∧ ∃ b, x.2.2.1 = some ⟨b, 0, none⟩ ∧ EndOk x.2.2.2 b))) (fun x => n - x.1) (0, s1, some ⟨b89, 0, none⟩, []) ⟨Nat.zero_le _, .inl ⟨by show 0 < n; omega, hs1, rfl, fun wB E hE => by
      have h := (hgok wB E hE).2
      have h3 : q.na = 0 := by have := h.len; rw [hq0] at this; exact this
      rw [hq0] at h
      show OldI E s1.Aq s1.nq s1.cq []
      rw [hA1.1, hA1.2, hs1.nq, ← h3]
      exact h⟩⟩ ⟨rfl, rfl, rfl, rfl, rfl, rfl, rfl, rfl, rfl, trivial⟩ ⟨rfl, rfl, rfl, trivial⟩ ?_
    rintro ⟨i, s, Af, Mi⟩ r ⟨hi, hI⟩
    replace hi : i ≤ n := hi
    dsimp only at hI
    dsimp only
    conv => whnf
    refine splitB.dec (fun hb => ?_) (fun hb => ?_)
    · rcases hI with ⟨_, hs, rfl, hold⟩ | ⟨h, _⟩
      rotate_left
      · exfalso; omega
      have hib : i < vs.length := by omega
      have hvi : vs.take (i + 1) = vs.take i ++ [vs[i]] := List.take_succ_eq_append_getElem hib
      have hvr := hv _ (List.getElem_mem hib)
      have hw2 : IntKind.i64.wrap ((i : Int) + 2) = ((i + 2 : Nat) : Int) := (wrapI (by omega)).trans (by omega)
      have hs' := hs
      obtain ⟨h1, h2, h3, h4, h5, h6, h7, h8, h9⟩ := hs'
      generalize hsum : sumL 0 (vs.take i) = sm
      obtain ⟨phase, at_, task, qk, qa, qb, p0, p1, p2, p3, Aq, nq, cq, o0, o1, o2, o3, Al, nl, cl, As, ns, cs, Ag, ng, cg', hold'⟩ := s
      dsimp only at h1 h2 h3 h4 h5 h6 h7 h8 h9
      replace h9 := h9.symm
      subst h1 h2 h3 h4 h5 h6 h7 h8 h9
      dsimp only [tdL, SeP.l, List.cons_append, List.nil_append]
      conv => whnf
      repeat' (first
        | (refine idxOG u32L 1 u32L_len (by omega) hr hl i rfl (by omega) (fun b' o' hA hcl => ?_); conv => whnf)
        | (refine ldO (hcl 0 _ rfl) (tab_ok _ _ (by rfl)) (by rfl) ?_; conv => whnf)
        | (refine conv32 hvr ?_; conv => whnf)
        | (focus (decide))
        | (refine splitB.isF ?_ ?_; (focus (simp only [eqCells, hw2, beq_self_eq_true, Bool.and_self, Bool.not_true]; done)); conv => whnf)
        | (refine opMkI (by rfl) (tab_ok _ _ (by rfl)) (by rfl) ?_; conv => whnf)
        | (refine opPan (by rfl) (by rfl) ?_; conv => whnf)
        | (refine JoinVC.go ?_; conv => whnf)
        | (refine RetA.go ?_; conv => whnf)
        | (refine PanA.go ?_; conv => whnf)
        | (refine And.intro ?_ ?_ <;> conv => whnf)
        | (refine ldA (by repeat (first | exact List.Mem.head _ | refine List.Mem.tail _ ?_)) (tab_ok _ _ (by rfl)) (by rfl) (by rfl) ?_; conv => whnf)
        | (refine ldsA (by repeat (first | exact List.Mem.head _ | refine List.Mem.tail _ ?_)) (tab_ok _ _ (by rfl)) (by rfl) ?_; conv => whnf)
        | (refine stA (tab_ok _ _ (by rfl)) (by repeat (first | exact AtE.here | apply AtE.there)) ?_; conv => whnf)
        | (refine splitB.dec (fun hb => ?_) (fun hb => ?_) <;> first | (exfalso; omega) | (conv => whnf))
        | (refine splitB.ndec (fun hb => ?_) (fun hb => ?_) <;> first | (exfalso; omega) | (conv => whnf))
        | (refine splitB.eqI (fun hb => ?_) (fun hb => ?_) <;> first | (exfalso; omega) | (conv => whnf))
        | (refine splitB.neI (fun hb => ?_) (fun hb => ?_) <;> first | (exfalso; omega) | (conv => whnf))
        | (intro r bx; conv => whnf))
      refine CallVC.anchor [] (Mi ++ ((.slice (some ⟨b89, 0, none⟩) 1 1, .row 36 10 g.l) :: (M' ++ rowsX b26 bl b32 Ai9 ci9 n Ak ck M))) en17 rfl (fun E w Y hE => turnF2 (b26 := b26) (Ai := Ai9) (ci := ci9) (s := ⟨4, ((i + 1 : Nat) : Int), 1, 5, qa, qb, p0, p1, p2, p3, Aq, i, cq, 15, 0, ((i + 2 : Nat) : Int), 0, Al, nl, cl, As, ns, cs, Ag, ng, cg', hold'⟩) (v := vs[i]) (la := la) hn (rowsX_code hn.2 hE (fun e he => List.mem_append_right _ (.tail _ (List.mem_append_right _ he)))) hff (hgok _ E (hE.less (fun e he => List.mem_append_right _ he))).1 (fsOne hE (List.mem_append_right _ (.head _)) (hgok _ E (hE.less (fun e he => List.mem_append_right _ he))).1) ⟨rfl, rfl, rfl, rfl, rfl, rfl, rfl, rfl, rfl⟩ (by omega) hl.symm hv hvi (hold _ E hE) (fun h s' M2 hs' ho' => RetN.to (M2 ++ (Mi ++ ((.slice (some ⟨b89, 0, none⟩) 1 1, .row 36 10 g.l) :: (M' ++ rowsX b26 bl b32 Ai9 ci9 n Ak ck M)))) (by rw [List.append_nil]) ?_) (fun h s' b' M2 a1 a2 a3 a4 hE' => RetN.to (M2 ++ (Mi ++ ((.slice (some ⟨b89, 0, none⟩) 1 1, .row 36 10 g.l) :: (M' ++ rowsX b26 bl b32 Ai9 ci9 n Ak ck M)))) (by rw [List.append_nil]) ?_))
      · conv => whnf
        exact rnd (X := Nat × SeP × Option Addr × EL) (i + 1, s', some ⟨b89, 0, none⟩, M2 ++ Mi) (by show n - (i + 1) < n - i; omega) ⟨by show i + 1 ≤ n; omega, .inl ⟨h, hs', rfl, fun wB E hE => ho' wB E (hE.less fun e he => List.mem_append_left _ (List.mem_append_left _ he))⟩⟩ ⟨rfl, rfl, rfl, rfl, rfl, (by show SV.v (.int .i64 ((IntKind.i64.wrap (sm + vs[i])).tmod 4294967296)) = SV.v (.int .i64 (sumL 0 (vs.take (i + 1)))); rw [hvi, sumL_snoc, hsum]), rfl, rfl, ixw (by omega), trivial⟩ ⟨rfl, rfl, rfl, trivial⟩ (hC := by rw [List.append_assoc])
      · obtain ⟨g9, k1, k2⟩ := hE'
        conv => whnf
        exact rnd (X := Nat × SeP × Option Addr × EL) (i + 1, s', some ⟨b', 0, none⟩, M2 ++ Mi) (by show n - (i + 1) < n - i; omega) ⟨by show i + 1 ≤ n; omega, .inr ⟨h, a1, a2, a3, a4, b', rfl, g9, k1, fun wB E hE => k2 wB E (hE.less fun e he => List.mem_append_left _ he)⟩⟩ ⟨rfl, rfl, rfl, rfl, rfl, (by show SV.v (.int .i64 ((IntKind.i64.wrap (sm + vs[i])).tmod 4294967296)) = SV.v (.int .i64 (sumL 0 (vs.take (i + 1)))); rw [hvi, sumL_snoc, hsum]), rfl, rfl, ixw (by omega), trivial⟩ ⟨rfl, rfl, rfl, trivial⟩ (hC := by rw [List.append_assoc])
    · rcases hI with ⟨h, _⟩ | ⟨h, a1, a2, a3, a4, b9, rfl, g9, hg9, hg9k⟩
      · exfalso; omega
      have htk : vs.take i = vs := List.take_of_length_le (by omega)
      rw [htk]
      obtain ⟨phase, at_, task, qk, qa, qb, p0, p1, p2, p3, Aq, nq, cq, o0, o1, o2, o3, Al, nl, cl, As, ns, cs, Ag, ng, cg', hold'⟩ := s
      dsimp only at a1 a2 a3 a4
      subst a1 a2 a3 a4
      dsimp only [tdL, SeP.l, List.cons_append, List.nil_append]
      conv => whnf
      refine JoinVC.go ?_
      conv => whnf
      refine CallVC.fact en9 (φ := g9.nk = 0) (fun w hw => by have h := (hg9k wA w (hw.inE.less fun e he => List.mem_append_left _ he)).1.kids.len; rw [hg9] at h; exact h) (fun hnk => alive_vc ?_)
      conv => whnf
      repeat' (first
        | (refine idxBN 0 rfl (by decide) ?_; conv => whnf)
        | (refine splitB.isT ?_ ?_; (focus (simp only [eqCells, beq_self_eq_true, Bool.and_self]; done)); conv => whnf)
        | (refine opMkI (by rfl) (tab_ok _ _ (by rfl)) (by rfl) ?_; conv => whnf)
        | (refine opPan (by rfl) (by rfl) ?_; conv => whnf)
        | (refine JoinVC.go ?_; conv => whnf)
        | (refine RetA.go ?_; conv => whnf)
        | (refine PanA.go ?_; conv => whnf)
        | (refine And.intro ?_ ?_ <;> conv => whnf)
        | (refine ldA (by repeat (first | exact List.Mem.head _ | refine List.Mem.tail _ ?_)) (tab_ok _ _ (by rfl)) (by rfl) (by rfl) ?_; conv => whnf)
        | (refine ldsA (by repeat (first | exact List.Mem.head _ | refine List.Mem.tail _ ?_)) (tab_ok _ _ (by rfl)) (by rfl) ?_; conv => whnf)
        | (refine stA (tab_ok _ _ (by rfl)) (by repeat (first | exact AtE.here | apply AtE.there)) ?_; conv => whnf)
        | (refine splitB.dec (fun hb => ?_) (fun hb => ?_) <;> first | (exfalso; omega) | (conv => whnf))
        | (refine splitB.ndec (fun hb => ?_) (fun hb => ?_) <;> first | (exfalso; omega) | (conv => whnf))
        | (refine splitB.eqI (fun hb => ?_) (fun hb => ?_) <;> first | (exfalso; omega) | (conv => whnf))
        | (refine splitB.neI (fun hb => ?_) (fun hb => ?_) <;> first | (exfalso; omega) | (conv => whnf))
        | (intro r bx; conv => whnf))
      show SemVC _ (CtxA wA w2 X2 _) (Instr.loadAt 34 (.pointer (some ⟨b9, 6, none⟩))) _
      refine loadC (tab_ok _ _ (by rfl)) (by rfl) (.slice g9.Ak 0 g9.ck) (fun w hw => ?_) ?_
      · have h1 := (hg9k wA w ((InA.inE hw).less fun e he => List.mem_append_left _ he)).2.rd
        have h2 : ([g9].flatMap FrP.l)[6]? = some (.slice g9.Ak g9.nk g9.ck) := rfl
        obtain ⟨b, off, e, _, hc⟩ := h1.at_ h2
        injection e with e
        injection e with e1 e2
        subst e1 e2
        rw [hnk] at hc
        simpa using hc
      conv => whnf
      exact RetT.imp (K := K) M (Imp.sub (by repeat (first | exact List.Sublist.refl _ | exact rowsX_sub | refine List.Sublist.cons _ ?_ | refine (List.Sublist.trans ?_ (List.sublist_append_right _ _))))) hk
end
end Go.Proofs.YtgaopcbjhepklaaGreat
/- arguments that are slices of structs of numbers: opened to one list of numbers -/
namespace Go.Proofs.YtgaopcbjhepklaaGreat
open Go.ChangeShapes Go.WideShapes Go.RowKit Go.Deep
set_option linter.unusedSimpArgs false
set_option linter.unusedVariables false

/-- each cell is a number that fits -/
def Nums (cs : List Value) : Prop := ∀ c ∈ cs, ∃ z, c = .int .i64 z ∧ (Lit.int .i64 z).wf = true
/-- whatever is read at a type is numbers -/
def Flat (P : Program) (t : TypeId) : Prop :=
  ∀ ⦃H : Type⦄ ⦃enc : TypeId × Value → H⦄ ⦃w : World⦄ ⦃base : Nat⦄ ⦃spare : Nat → Bool⦄ ⦃held : Bool⦄ ⦃fuel : Nat⦄ ⦃cs : List Value⦄ ⦃x : DataW H × List MemPlace⦄, DataW.trod enc P w base spare held fuel t cs = some x → Nums cs
theorem flat_int {P : Program} {t : TypeId} (ht : P.underlying t = some (.int .i64)) : Flat P t := by
  intro H enc w base spare held fuel cs x h
  obtain ⟨n, rfl, _, hw⟩ := DataW.trod_int ht h
  intro c hc
  rw [List.mem_singleton.1 hc]
  exact ⟨n, rfl, hw⟩
/-- the fields lie over all cells -/
def covers (P : Program) (fs : Array Field) (n : Nat) : Bool := (List.range n).all fun i => fs.toList.any fun f => decide (f.offset ≤ i) && decide (i < f.offset + P.cellsOf f.type)
theorem flat_struct {P : Program} {t : TypeId} {fs : Array Field} (ht : P.underlying t = some (.struct fs)) (hc : covers P fs (P.cellsOf t) = true) (hf : ∀ f ∈ fs.toList, Flat P f.type) : Flat P t := by
  intro H enc w base spare held fuel cs x h
  obtain ⟨ys, n, _, _, hlen, hyl, hg⟩ := DataW.trod_struct ht h
  intro c hcm
  obtain ⟨i, hi, rfl⟩ := List.getElem_of_mem hcm
  have h1 := List.all_eq_true.1 hc i (List.mem_range.2 (by omega))
  obtain ⟨f, hfm, h2⟩ := List.any_eq_true.1 h1
  simp only [Bool.and_eq_true, decide_eq_true_eq] at h2
  obtain ⟨j, hj, hfj⟩ := List.getElem_of_mem hfm
  have hj' : j < fs.size := by simpa using hj
  have hfj' : fs[j]? = some f := by rw [Array.getElem?_eq_getElem hj']; simpa using hfj
  have h3 := hg j f hfj'
  obtain ⟨y, hy⟩ : ∃ y, ys[j]? = some y := ⟨_, List.getElem?_eq_getElem (by omega)⟩
  rw [hy] at h3
  refine hf f hfm h3 _ ?_
  refine List.mem_of_getElem? (i := i - f.offset) ?_
  rw [List.getElem?_take_of_lt (by omega), List.getElem?_drop, Nat.add_sub_cancel' h2.1, List.getElem?_eq_getElem]

theorem nums_is {cs : List Value} (h : Nums cs) : ∃ zs : List Int, cs = is zs ∧ ∀ z ∈ zs, (Lit.int .i64 z).wf = true := by
  induction cs with
  | nil => exact ⟨[], rfl, fun _ h => by simp at h⟩
  | cons c cs ih =>
    obtain ⟨zs, rfl, hz⟩ := ih (fun x hx => h x (by simp [hx]))
    obtain ⟨z, rfl, hw⟩ := h c (by simp)
    exact ⟨z :: zs, rfl, fun x hx => by rcases List.mem_cons.1 hx with rfl | hx; exact hw; exact hz x hx⟩
theorem wf_i64 {z : Int} (h : (Lit.int .i64 z).wf = true) : -9223372036854775808 ≤ z ∧ z ≤ 9223372036854775807 := by
  simp [Lit.wf, IntKind.min, IntKind.max, IntKind.bits, IntKind.signed] at h
  omega
theorem wf_u8 {z : Int} (h : (Lit.int .u8 z).wf = true) : 0 ≤ z ∧ z ≤ 255 := by
  simp [Lit.wf, IntKind.min, IntKind.max, IntKind.bits, IntKind.signed] at h
  omega

/-- what a slice of structs of k numbers each is read as -/
def IsFlat (k : Nat) (w : World) (A : Option Addr) (len cap : Nat) (zs : List Int) : Prop :=
  zs.length = len * k ∧ Rd w w.heap.size A (is zs) ∧ (∀ z ∈ zs, -9223372036854775808 ≤ z ∧ z ≤ 9223372036854775807) ∧ len ≤ cap ∧ cap ≤ 9223372036854775807

section
variable {H : Type} {enc : TypeId × Value → H} {P : Program} {w : World} {base : Nat} {spare : Nat → Bool} {held : Bool}
theorem nums_upto {a : Addr} {k : Nat} : ∀ (len : Nat), (∀ i, i < len → ∃ cs, (w.cells? base (a.add (i * k)) k = some cs) ∧ Nums cs) →
    ∃ zs : List Int, zs.length = len * k ∧ (∀ z ∈ zs, (Lit.int .i64 z).wf = true) ∧ ∀ j u, (is zs)[j]? = some u → w.cell? (a.add j) = some u := by
  intro len
  induction len with
  | zero => intro _; exact ⟨[], by simp, fun _ h => by simp at h, fun j u h => by simp [is] at h⟩
  | succ len ih =>
    intro h
    obtain ⟨zs, hl, hw, hc⟩ := ih (fun i hi => h i (by omega))
    obtain ⟨cs, hcs, hn⟩ := h len (by omega)
    obtain ⟨_, hcl, hat⟩ := World.cells?_some hcs
    obtain ⟨ys, rfl, hy⟩ := nums_is hn
    refine ⟨zs ++ ys, ?_, ?_, ?_⟩
    · rw [List.length_append, hl, Nat.add_mul, Nat.one_mul]; congr 1; simpa using hcl
    · intro z hz; rcases List.mem_append.1 hz with hz | hz; exact hw z hz; exact hy z hz
    · intro j u hu
      rw [is_append] at hu
      by_cases hj : j < (is zs).length
      · rw [List.getElem?_append_left hj] at hu; exact hc j u hu
      · rw [List.getElem?_append_right (by omega)] at hu
        have hjk : j - (is zs).length < k := by
          have := (List.getElem?_eq_some_iff.1 hu).1
          rw [hcl] at this; exact this
        have := hat _ hjk
        rw [Go.Deep.add_add] at this
        rw [is_length, hl] at this hu hj
        rw [show len * k + (j - len * k) = j by omega] at this
        rw [this, hu]
theorem open_flat {t e : TypeId} {k : Nat} {fuel : Nat} {A : Option Addr} {len cap : Nat} {x : DataW H × List MemPlace} (ht : P.underlying t = some (.slice e)) (hF : Flat P e) (hC : P.cellsOf e = k) (hk : 0 < k)
    (h : DataW.trod enc P w base (fun _ => true) held fuel t (Value.slice A len cap).cells.toList = some x) : ∃ zs, IsFlat k w A len cap zs := by
  rcases open_slice ht h with ⟨hcs, _⟩ | ⟨a, l, c, m, n, D, Pl, hcs, hb, hl, hm, hmm, hx, hi⟩
  · simp [Value.cells] at hcs
    obtain ⟨rfl, rfl, rfl⟩ := hcs
    exact ⟨[], by simp, .inl rfl, fun _ h => by simp at h, Nat.le_refl _, by omega⟩
  · simp [Value.cells] at hcs
    obtain ⟨rfl, rfl, rfl⟩ := hcs
    simp only [if_true] at hmm
    subst hmm
    rw [hC] at hi
    obtain ⟨zs, hzl, hzw, hzc⟩ := nums_upto (w := w) (base := base) (a := a) (k := k) len (fun i hil => by
      obtain ⟨cs', h1, h2⟩ := hi i (by omega)
      exact ⟨cs', h1, hF h2⟩)
    refine ⟨zs, hzl, ?_, fun z hz => wf_i64 (hzw z hz), hl, hm⟩
    refine Rd.top (B := a.block + 1) ?_
    rcases Nat.eq_zero_or_pos len with h0 | hp
    · left
      subst h0
      have : zs = [] := List.eq_nil_of_length_eq_zero (by simpa using hzl)
      rw [this]; rfl
    · have hpos : 0 < zs.length := by rw [hzl]; exact Nat.mul_pos hp hk
      have hsp : a.spot = none := by
        have := World.cell?_spot (hzc 0 _ (is_at zs 0 hpos))
        simpa [Addr.add] using this
      obtain ⟨b, off, sp⟩ := a
      simp only at hsp
      subst hsp
      refine .inr ⟨b, off, rfl, by simp, fun j u hu => ?_⟩
      have := hzc j u hu
      rw [Addr.add_lit] at this
      exact this
end
end Go.Proofs.YtgaopcbjhepklaaGreat
/- From a walk to a law; arguments that are rows of pairs. -/
namespace Go.Proofs.YtgaopcbjhepklaaGreat
open Go.ChangeShapes Go.WideShapes Go.RowKit Go.Deep
set_option linter.unusedSimpArgs false
set_option linter.unusedVariables false
abbrev C0 (w : World) : Ctx := CtxA w w (fun _ => False) []
theorem calls_law {P : Program} {f : FuncId} {args : Array Value} {w : World} (h : ∀ (K : Value → Ctx → Prop) (Z : PanK), K (.bool true) (C0 w) → CallVC P (C0 w) f args K Z) : Calls P f args w fun e w' => e = .returned (.bool true) ∧ Below w.heap.size w w' := by
  have h1 := h (fun v C => v = .bool true ∧ C = C0 w) (fun _ _ => False) ⟨rfl, rfl⟩
  have h0 : InA w w (fun _ => False) [] w := ⟨rfl, rfl, rfl, Nat.le_refl _, fun _ _ _ => rfl, Nat.le_refl _, fun _ _ => rfl, fun e he => (by cases he), fun e he => (by cases he), List.nodup_nil⟩
  refine (h1.out.2 w h0).mono fun e w' hh => ?_
  rcases hh with ⟨v, C', rfl, _, h3, rfl, rfl⟩ | ⟨_, _, _, _, _, hz⟩
  · have h4 : InA w w (fun _ => False) [] w' := h3
    exact ⟨rfl, h4.os, h4.tape, h4.output, h4.size, fun k hk => h4.old k hk (fun h => h)⟩
  · exact hz.elim
theorem flat_array {P : Program} {t e : TypeId} {n : Nat} (ht : P.underlying t = some (.array n e)) (hct : P.cellsOf t = n) (hce : P.cellsOf e = 1) (hF : Flat P e) : Flat P t := by
  intro H enc w base spare held fuel cs x h c hc
  obtain ⟨ys, m, _, _, hlen, hl, hel⟩ := DataW.trod_array ht h
  obtain ⟨i, hi, rfl⟩ := List.getElem_of_mem hc
  have h3 := hel i (by omega)
  obtain ⟨y, hy⟩ : ∃ y, ys[i]? = some y := ⟨_, List.getElem?_eq_getElem (by omega)⟩
  rw [hy, hce, Nat.mul_one] at h3
  refine hF h3 _ ?_
  refine List.mem_of_getElem? (i := 0) ?_
  rw [List.getElem?_take_of_lt (by omega), List.getElem?_drop, Nat.add_zero, List.getElem?_eq_getElem hi]
def pairs : List Int → List (Int × Int)
  | a :: b :: l => (a, b) :: pairs l
  | _ => []
theorem pairs_is : ∀ (n : Nat) (zs : List Int), zs.length = n * 2 → ∃ gs : List (Int × Int), gs.length = n ∧ is zs = gs.flatMap fun p => [.int .i64 p.1, .int .i64 p.2]
  | 0, zs, h => by
    have : zs = [] := List.eq_nil_of_length_eq_zero (by omega)
    subst this; exact ⟨[], rfl, rfl⟩
  | n + 1, zs, h => by
    match zs, h with
    | a :: b :: l, h =>
      obtain ⟨gs, h1, h2⟩ := pairs_is n l (by simp at h; omega)
      refine ⟨(a, b) :: gs, by simp [h1], ?_⟩
      simp only [List.flatMap_cons]
      rw [← h2]
      rfl
    | [a], h => simp at h; omega
    | [], h => simp at h
theorem flat_pair : Flat Tryz.prog 88 := flat_array Tryz.underlying88 (by kernel_rfl) (by kernel_rfl) (flat_int Tryz.underlying3)
end Go.Proofs.YtgaopcbjhepklaaGreat
/- SeatFetches, from its argument. -/
namespace Go.Proofs.YtgaopcbjhepklaaGreat
open Go.RowKit
set_option linter.unusedVariables false
theorem wf_u32 {z : Int} (h : (Lit.int .u32 z).wf = true) : 0 ≤ z ∧ z < 4294967296 := by
  simp [Lit.wf, IntKind.min, IntKind.max, IntKind.bits, IntKind.signed] at h
  omega
theorem u32_map : ∀ (l : List Int), l.flatMap u32L = l.map (Value.int .u32)
  | [] => rfl
  | x :: l => by rw [List.flatMap_cons, u32_map l]; rfl
theorem fetches_any {a : Option Addr} {len cap : Nat} {zs : List Int} {w : World} (h : (a = none ∧ len = 0 ∧ cap = 0 ∧ zs = []) ∨ ∃ x, a = some x ∧ len ≤ cap ∧ cap ≤ maxLen ∧ zs.length = cap ∧ (∀ i, i < zs.length → w.cell? (x.add i) = some (.int .u32 (zs.getD i 0))) ∧ ∀ n ∈ zs, (Lit.int .u32 n).wf = true) :
    Calls Tryz.prog 5 #[.slice a len cap] w fun e w' => e = .returned (.bool true) ∧ Below w.heap.size w w' := by
  have key : Rd w w.heap.size a ((zs.take len).flatMap u32L) ∧ len = (zs.take len).length ∧ ∀ x ∈ zs.take len, 0 ≤ x ∧ x < 4294967296 := by
    rcases h with ⟨rfl, rfl, rfl, rfl⟩ | ⟨x, rfl, h1, h2, h3, h4, h5⟩
    · exact ⟨.inl rfl, rfl, fun x hx => by simp at hx⟩
    · have hlen : len = (zs.take len).length := by simp; omega
      refine ⟨?_, hlen, fun y hy => wf_u32 (h5 y (List.mem_of_mem_take hy))⟩
      by_cases h0 : len = 0
      · subst h0; exact .inl (by simp)
      · have hsp : x.spot = none := by
          have := World.cell?_spot (h4 0 (by omega))
          simpa [Addr.add] using this
        obtain ⟨b, off, sp⟩ := x
        simp only at hsp
        subst hsp
        have hc : ∀ j u, ((zs.take len).flatMap u32L)[j]? = some u → w.cell? ⟨b, off + j, none⟩ = some u := fun j u hu => by
          rw [u32_map, List.getElem?_map] at hu
          cases e : (zs.take len)[j]? with
          | none => rw [e] at hu; simp at hu
          | some v =>
            rw [e] at hu
            simp at hu
            subst hu
            have hj := (List.getElem?_eq_some_iff.1 e).1
            rw [List.length_take] at hj
            have h6 := h4 j (by omega)
            rw [Addr.add_lit] at h6
            have h7 : zs.getD j 0 = v := by
              rw [List.getElem?_take_of_lt (by omega)] at e
              simp [List.getD, e]
            rw [h7] at h6
            exact h6
        have h8 : ∃ u, ((zs.take len).flatMap u32L)[0]? = some u := ⟨_, List.getElem?_eq_getElem (by rw [u32_map, List.length_map, ← hlen]; omega)⟩
        obtain ⟨u, h8⟩ := h8
        exact .inr ⟨b, off, rfl, World.block_lt_of_cell? w _ (hc 0 u h8), hc⟩
  exact calls_law fun K Z hk => fetches_vc key.1 key.2.1 key.2.2 hk
end Go.Proofs.YtgaopcbjhepklaaGreat
