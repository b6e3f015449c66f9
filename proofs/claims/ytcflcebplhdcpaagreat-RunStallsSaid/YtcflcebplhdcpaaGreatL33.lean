/- Lemmas, part 33; each states its own conditions. -/
import Derived.Test.YtcflcebplhdcpaaGreatL32
namespace Go.Proofs.YtcflcebplhdcpaaGreat
open Go.RowKit
set_option linter.unusedSimpArgs false
set_option linter.unusedVariables false
set_option maxRecDepth 100000
set_option maxHeartbeats 16000000
variable{H w0:World}{X:Nat->Prop}{M:aw}{K:Value->an->Prop}{Z:bF}
theorem Gv {P:Prop} (h:P:=by
 repeat'((first
  |(show ff _ _ _ _ _;first|(refine kZ W ?_))
  |(show bk _ _ _ _;first|(refine fv (by repeat(first|exact vQ|exact db _ (.tail _ (db _ vQ))|exact .tail _ (db _ vQ)|exact List.Mem.head _|refine dr _ ?_|exact db _ vQ|exact db _ (.tail _ vQ)|exact db _ (db _ (.tail _ vQ))|exact db _ (db _ vQ))) aD W W ?_)|(refine hT aD _ rfl (fun df=>?_)))
  |(show ay _ _ _ _ _ _;first|(refine apJ (M:=L++M) aW (db _ hr) (db _ hc) (db _ jU) (fun o s' gR e ak ad=>?_) (fun gR s' e ak ad=>?_) (fun a s' gR e ak=>?_))|(refine aoL aW hr hc jU (fun o s' e ak ad=>?_) (fun s' bH e ak ad=>?_) (fun a s' bH e ak=>?_))|(refine Mr h.la (fun v ah=>?_);subst ah)|(refine WW h.la (fun v ah=>?_);subst ah)|(refine eQ.abx (gs:=gs) (g:=g) (fun p bx a0=>?_))|(refine ay.imp (aJ.sink [_,_,_] _) (apK (fun cU bO pH bm=>?_)))|(refine ay.imp (aJ.sink [_,_,_] _) (aoM (fun cU hH bO=>?_)))|(refine eQ.aoO (gs:=gs) (.inl (h.ea rfl)) h.fh kp h.pP (fun aR aN aj b0=>?_))|(refine eQ.Jf (R:=(gQ k (qb k (qg k.la op.o1) op.aQ) 0 (aq.start gs))) (kl:=[ae _]) (σ:=Int) (rf:=fun m=>(ae bm,aY.cs 3 [J m])::((ae pH,aY.cs 3 [J op.aQ])::(ae bO,aY.cs 3 [J (qg k.la op.o1)])::(ae cU,aY.cs 309 [ae p])::(ae df,aY.cs 311 [Value.func (.func 323) #[] #[ae cU,ae bO,ae pH,ae bm]])::M)) (x0:=(0:Int)) h (fun w0 X L K Z aU a8=>?_) (fun o gv aR aN x e aj b0=>?_) (fun a x e=>?_))|(refine eQ.Jf (R:=(gQ k (mL k (rv k.la op.o1) (qg k.la op.o1)) () (aq.start gs))) (kl:=[ae _]) (σ:=Unit) (rf:=fun _=>((ae bO,aY.cs 3 [J (qg k.la op.o1)])::(ae hH,aY.cs 3 [J (rv k.la op.o1)])::(ae cU,aY.cs 309 [ae p])::(ae df,aY.cs 311 [Value.func (.func 334) #[] #[ae cU,ae hH,ae bO]])::M)) (x0:=()) h (fun w0 X L K Z aU a8=>?_) (fun o gv aR aN x e aj b0=>?_) (fun a x e=>?_))|(exact alN h b7 b7 b7 b7 aU a8)|(exact alM (M:=L++_) h (db _ b7) (db _ b7) (db _ b7) (db _ b7) (fun o s' bH e ak=>aU o s' bH () e ak) (fun a s' bH e ak=>a8 a s' bH () e ak)))
  |(rw[show pk k gs op=m9 gs by(unfold pk;repeat(first|rfl|refine(if_pos S).trans ?_|refine(if_neg S).trans ?_))] at U;have fz:=U aR aN (by rw[<-fj];exact aj) b0;rw[<-fj] at fz;exact c1 fz cn)
  |(rw[show pk k gs op=e9.of (gQ k (qb k (qg k.la op.o1) op.aQ) 0 (aq.start gs)) by(unfold pk;repeat(first|rfl|refine(if_pos S).trans ?_|refine(if_neg S).trans ?_)),e] at U;exact c1 (U aR aN aj b0) cn)
  |(rw[show pk k gs op=e9.of (gQ k (mL k (rv k.la op.o1) (qg k.la op.o1)) () (aq.start gs)) by(unfold pk;repeat(first|rfl|refine(if_pos S).trans ?_|refine(if_neg S).trans ?_)),e] at U;exact c1 (U aR aN aj b0) cn)
  |(rw[show pk k gs op=e9.of (gQ k (qb k (qg k.la op.o1) op.aQ) 0 (aq.start gs)) by(unfold pk;repeat(first|rfl|refine(if_pos S).trans ?_|refine(if_neg S).trans ?_)),e] at U;exact c1 U cn)
  |(rw[show pk k gs op=e9.of (gQ k (mL k (rv k.la op.o1) (qg k.la op.o1)) () (aq.start gs)) by(unfold pk;repeat(first|rfl|refine(if_pos S).trans ?_|refine(if_neg S).trans ?_)),e] at U;exact c1 U cn)
  |(exact hD (cl a s' bH (by rw[<-dF];simp only[ax.cx,ax.dq,gy, *]) ak))
  |(exact cA (aC o s' _ (by rw[<-dF];simp only[ax.cx,ax.dq,gy, *]) ak))
  |(exact cC (X:=aq×cg) (s',bH) (by have:=ak.made;show k.log.length-s'.made<k.log.length-x.made;omega) ⟨ak,by rw[<-dF];simp only[ax.cx,ax.dq,gy, *]⟩ ⟨rfl,rfl,trivial⟩ ⟨rfl,trivial⟩)
  |(exact ia.imp _ (aJ.DI (_::_::_::eY _ _) (fU:=[_]) (cX:=L)) (cl a s' _ gR (by rw[<-dF];simp only[ax.cx,ax.dq,gy, *]) ak))
  |(exact cd.imp _ (aJ.DI (_::_::_::eY _ _) (fU:=[_]) (cX:=L)) (aC o s' _ gR (by rw[<-dF];simp only[ax.cx,ax.dq,gy, *]) ak))
  |(exact cC (X:=Int×aq) (gR,s') (by have:=ak.made;show k.log.length-s'.made<k.log.length-x.made;omega) ⟨ak,by rw[<-dF];simp only[ax.cx,ax.dq,gy, *]⟩ ⟨rfl,rfl,trivial⟩ ⟨rfl,trivial⟩)
  |(exact cd.imp _ (aJ.swap (fU:=[_,_,_]) (cX:=_::_::_::eY g s)) (U _ _ _))
  |(exact cd.imp _ (aJ.swap (fU:=[_,_,_,_]) (cX:=_::_::_::eY g s)) (U _ _ _ _))
  |refine eg ?_
  |(refine eh ?_ ?_<;>(try with_reducible intro ab)<;>(try(exfalso;omega)))
  |with_reducible intro r)<;>(try conv=>whnf))):P:=h
theorem aJ.swap{fU cX M:aw}:aJ (fU++(cX++M)) (cX++(fU++M)):=aJ.perm (by
 rw[<-ob,<-ob]
 exact GN M yj)
theorem aJ.DI{fU cX M:aw}(Kt:aw):aJ (Kt++(fU++(cX++M))) (Kt++(cX++(fU++M))):=aJ.perm (by
 refine List.Perm.append_left Kt ?_
 rw[<-ob,<-ob]
 exact GN M yj)
def pk(k:aI)(gs:List cz)(op:dp):e9:=
 if rv k.la op.o1<0 then m9 gs else
 if op.o0=6 then e9.of (gQ k (qb k (qg k.la op.o1) op.aQ) 0 (aq.start gs)) else
 if op.o0=7 then e9.of (gQ k (mL k (rv k.la op.o1) (qg k.la op.o1)) () (aq.start gs)) else m9 gs
section
theorem apK{k:aI}{s:aq}{g:cg}{p bx a0:Nat}{tail v:Int}(U:∀cU bO pH bm,K (Value.func (.func 323) #[] #[ae cU,ae bO,ae pH,ae bm]) (Y H w0 X (eQ.ca k s g p bx a0 ([(ae bm,aY.cs 3 [J 0]),(ae pH,aY.cs 3 [J v]),(ae bO,aY.cs 3 [J tail]),(ae cU,aY.cs 309 [ae p])]++M)))):a4 H w0 X (eQ.ca k s g p bx a0 M) 275 #[ae p,J tail,J v] K Z:=by
 refine a7 aiD ?_
 intro az aF
 conv=>whnf
 exact Gv
theorem aoM{k:aI}{s:aq}{g:cg}{p bx a0:Nat}{head tail:Int}(U:∀cU hH bO,K (Value.func (.func 334) #[] #[ae cU,ae hH,ae bO]) (Y H w0 X (eQ.ca k s g p bx a0 ([(ae bO,aY.cs 3 [J tail]),(ae hH,aY.cs 3 [J head]),(ae cU,aY.cs 309 [ae p])]++M)))):a4 H w0 X (eQ.ca k s g p bx a0 M) 276 #[ae p,J head,J tail] K Z:=by
 refine a7 aiE ?_
 intro az aF
 conv=>whnf
 exact Gv
theorem alN {k:aI} {s:aq} {A:Option Addr} {n c:Nat} {p bx a0 df cU bO pH bm:Nat} {tail v gl:Int} {L M:aw} (h:bc H k s ⟨false,A,n,c⟩) (hr:(ae cU,aY.cs 309 [ae p])∈M) (hc:(ae bO,aY.cs 3 [J tail])∈M) (jU:(ae pH,aY.cs 3 [J v])∈M) (vQ:(ae df,aY.cs 311 [Value.func (.func 323) #[] #[ae cU,ae bO,ae pH,ae bm]])∈M)
  (aC:∀o s' bH m,gQ k (qb k tail v) gl s= .ok o s'->bc H k s' bH->K (.agg (cI.l o).toArray) (Y H w0 X (eQ.ca k s' bH p bx a0 (L++((ae bm,aY.cs 3 [J m])::M)))))
  (cl:∀a s' bH m,gQ k (qb k tail v) gl s= .ask a->bc H k s' bH->Z (eQ.g4 a) (Y H w0 X (eQ.ca k s' bH p bx a0 (L++((ae bm,aY.cs 3 [J m])::M))))):
  a4 H w0 X (eQ.ca k s ⟨false,A,n,c⟩ p bx a0 (L++((ae bm,aY.cs 3 [J gl])::M))) 278 #[ae df] K Z:=by
 generalize c3:gQ k (qb k tail v) gl s=R at aC cl
 refine ay.imp (aJ.DI (_::_::_::eY _ _) (fU:=L) (cX:=[_])) ?_
 refine a7 Tu ?_
 intro az aF
 conv=>whnf
 refine c9.on (X:=Int×aq) (fun x=> [(0,.v (ae df)),(1,.p 1 0)]) (fun _=> [(1,145,[J 0,.bool false,J 0,J 0,.slice none 0 0])]) (fun x=>Y H az aF (eQ.ca k x.2 ⟨false,A,n,c⟩ p bx a0 ((ae bm,aY.cs 3 [J x.1])::(L++M)))) (fun x=>bc H k x.2 ⟨false,A,n,c⟩/\gQ k (qb k tail v) x.1 x.2=R) (fun x=>k.log.length-x.2.made) (gl,s) ⟨h,c3⟩ ⟨rfl,rfl,trivial⟩ ⟨rfl,trivial⟩ ?_
 rintro⟨m,x⟩ iC ⟨aW,dF⟩
 dsimp only at aW dF
 rw[vZ RX aW.made] at dF
 dsimp only
 conv=>whnf
 exact Gv
theorem alM {k:aI} {s:aq} {g:cg} {p bx a0 df cU hH bO:Nat} {head tail:Int} {M:aw} (h:bc H k s g) (hr:(ae cU,aY.cs 309 [ae p])∈M) (hc:(ae hH,aY.cs 3 [J head])∈M) (jU:(ae bO,aY.cs 3 [J tail])∈M) (vQ:(ae df,aY.cs 311 [Value.func (.func 334) #[] #[ae cU,ae hH,ae bO]])∈M)
  (aC:∀o s' bH,gQ k (mL k head tail) () s= .ok o s'->bc H k s' bH->K (.agg (cI.l o).toArray) (Y H w0 X (eQ.ca k s' bH p bx a0 M)))
  (cl:∀a s' bH,gQ k (mL k head tail) () s= .ask a->bc H k s' bH->Z (eQ.g4 a) (Y H w0 X (eQ.ca k s' bH p bx a0 M))):
  a4 H w0 X (eQ.ca k s g p bx a0 M) 278 #[ae df] K Z:=by
 generalize c3:gQ k (mL k head tail) () s=R at aC cl
 refine a7 Tu ?_
 intro az aF
 conv=>whnf
 refine c9.on (X:=aq×cg) (fun x=> [(0,.v (ae df)),(1,.p 1 0)]) (fun _=> [(1,145,[J 0,.bool false,J 0,J 0,.slice none 0 0])]) (fun x=>Y H az aF (eQ.ca k x.1 x.2 p bx a0 M)) (fun x=>bc H k x.1 x.2/\gQ k (mL k head tail) () x.1=R) (fun x=>k.log.length-x.1.made) (s,g) ⟨h,c3⟩ ⟨rfl,rfl,trivial⟩ ⟨rfl,trivial⟩ ?_
 rintro⟨x,avG⟩ iC ⟨aW,dF⟩
 dsimp only at aW dF
 rw[vZ RW aW.made] at dF
 dsimp only
 conv=>whnf
 exact Gv
theorem apD{k:aI}{gs:List cz}{g:cg}{op:dp}(h:bc H k (aq.start gs) ⟨false,g.A,g.n,g.c⟩)(U:jn H w0 X M K (pk k gs op)):a4 H w0 X M 205 #[.agg k.la.l.toArray,J k.a1,.slice g.A g.n g.c,.agg op.l.toArray,.slice k.bK k.aM k.bD] K Z:=by
 have kp:g.n<=1000000000:=by
  have O:g.n=gs.length:=h.fh
  have V:gs.length<=1000000+0:=h.pO
  omega
 have fj:g.n=gs.length:=h.fh
 refine a7 ah9 ?_
 intro az aF
 conv=>whnf
 exact Gv
end
theorem Xy {P:Prop} (h:P:=by
 repeat'((first
  |(show ay _ _ _ _ _ _;first|(refine uW (r:=⟨n,false,0⟩) ?_)|(refine uW (r:=⟨n,true,0⟩) ?_))
  |(show gN _ _ _;first|(refine gN.mk (ie.imp (aJ.swap (fU:=_::_::_::eY _ _) (cX:=[_]))) ?_))
  |(show ih _ _ _ _;first|(refine gE nh aD W W ?_))
  |(show eB _ _ _ _;first|(refine eB.imp (aJ.swap (fU:=_::_::_::eY _ _) (cX:=[_])) (st ?_)))
  |(show bk _ _ _ _;first|(refine fv nh aD W W ?_)|(refine ke nh aD W ?_))
  |(exact cA U)
  |refine eg ?_
  |(refine eh ?_ ?_)
  |with_reducible intro r)<;>(try conv=>whnf))):P:=h
abbrev jv(p dK:Nat)(head:Int)(f:hQ):Value×aY:=(ae dK,aY.cs 350 [ae p,.bool f.there,J f.prev,J f.cur,J f.next,J f.c0,J head])
theorem awK{n:Int}(h:n/65536%2=1):(fq n).mark=true:=by simp[fq,h]
theorem awJ{n:Int}(h:¬n/65536%2=1):(fq n).mark=false:=by simp[fq,h]
theorem ie.imp{H w0:World}{X:Nat->Prop}{M aE:aw}(h:aJ aE M):ie (Y H w0 X aE) (Y H w0 X M):=fun w au=>h.on _ _ _ _ au
section
theorem U9{n:Int}(U:K (J (xJ n)) (Y H w0 X M)):a4 H w0 X M 373 #[J n] K Z:=by
 refine a7 ajM ?_
 intro az aF
 conv=>whnf
 exact Xy
theorem Ua{n:Int}(U:K (J (T9 n)) (Y H w0 X M)):a4 H w0 X M 376 #[J n] K Z:=by
 refine a7 ajP ?_
 intro az aF
 conv=>whnf
 exact Xy
theorem alI{k:aI}{head o:Int}{R:ax hQ}{s s':aq}{x:Option nH}{a b c:Int}{f:hQ}(e:mY k head o x s= .ok (qL a b c f) s')(h:(mY k head o x s).and (gy (gQ k (mY k head o)))=R):gy (gQ k (mY k head o)) (qL a b c f) s'=R:=by rw[e,ax.cx] at h;exact h
theorem Cy {k:aI} {s:aq} {g:cg} {p bx a0 dK:Nat} {head o:Int} {f:hQ} (h:bc H k s g)
  (aC:∀c6 s' bH,uD k head o s= .ok c6 s'->bc H k s' bH->s.made<s'.made->K (.tuple #[]) (Y H w0 X (dV.ca k s' bH p bx a0 (jv p dK head c6::M))))
  (cl:∀a s' bH c6,uD k head o s= .ask a->bc H k s' bH->Z (dV.g4 a) (Y H w0 X (dV.ca k s' bH p bx a0 (jv p dK head c6::M)))):a4 H w0 X (dV.ca k s g p bx a0 (jv p dK head f::M)) 366 #[ae dK,J o] K Z:=by
 have Sk:= @CF k head o s
 unfold uD at aC cl Sk
 generalize c3:gQ k (mY k head o) none s=R at aC cl Sk
 refine ahs e8 i6 apm bP (args:=[ae dK,J o]) W ?_
 intro az aF
 refine c9.on (X:=hQ×aq×cg) (fun _=> [(0,.v (ae dK)),(1,.v (J o))]) (fun _=> []) (fun x=>Y H az aF (dV.ca k x.2.1 x.2.2 p bx a0 (jv p dK head x.1::M))) (fun x=>(bc H k x.2.1 x.2.2/\s.made<=x.2.1.made)/\gQ k (mY k head o) none x.2.1=R) (fun x=>k.log.length-x.2.1.made) (f,s,g) ⟨⟨h,Nat.le_refl _⟩,c3⟩ ⟨rfl,rfl,trivial⟩ trivial ?_
 rintro⟨f0,x0,fb⟩ iC ⟨⟨uO,uL⟩,dF⟩
 dsimp only at uO uL dF
 rw[Rv uO.made] at dF
 dsimp only
 conv=>whnf
 repeat'((first
  |(show ay _ _ _ _ _ _;first|(refine dV.E1 (.inl rfl) uO (fun w s1 e1 O mJ rz=>?_) (fun a s' e ak=>?_))|(refine tJ ?_))
  |(show ff _ _ _ _ _;first|(refine qO 3 0 W rfl bP aD W W ?_))
  |(show gN _ _ _;first|(refine gN.mk (ie.imp (aJ.swap (fU:=_::_::_::eY _ _) (cX:=[_]))) ?_))
  |(show ih _ _ _ _;first|(refine gE nh aD W W ?_))
  |(show eB _ _ _ _;first|(refine eB.imp (aJ.swap (fU:=_::_::_::eY _ _) (cX:=[_])) (st ?_)))
  |(show bk _ _ _ _;first|(refine fv nh aD W W ?_)|(refine ke nh aD W ?_))
  |(exact hD (cl _ _ _ _ (by rw[<-dF];simp only[mY,LP,ax.cx,ax.dq, *]) ak))
  |refine KF ?_
  |(refine lF ?_ ?_)
  |with_reducible intro r)<;>(try conv=>whnf))
 have V:gy (gQ k (mY k head o)) (qL 0 1 2 ⟨false,head,(fq w.1).idx,0,w.2⟩) s1=R:=alI (x:=none) (by simp only[mY,LP,ax.cx, *]) dF
 refine c9.on (X:=nH×aq×cg) (fun x=> [(0,.v (ae dK)),(1,.v (J o)),(4,.v (J x.1.a)),(5,.v (J x.1.b)),(6,.v (J x.1.c))]) (fun _=> []) (fun x=>Y H az aF (jv p dK head x.1.f::dV.ca k x.2.1 x.2.2 p bx a0 M)) (fun x=>(bc H k x.2.1 x.2.2/\x0.made<x.2.1.made)/\((x.1.a=0\/x.1.a=1\/x.1.a=2)/\(x.1.b=0\/x.1.b=1\/x.1.b=2)/\(x.1.c=0\/x.1.c=1\/x.1.c=2))/\gy (gQ k (mY k head o)) (qL x.1.a x.1.b x.1.c x.1.f) x.2.1=R) (fun x=>k.log.length-x.2.1.made) (⟨0,1,2,⟨false,head,(fq w.1).idx,0,w.2⟩⟩,s1,fb) ⟨⟨O,mJ⟩,⟨.inl rfl,.inr (.inl rfl),.inr (.inr rfl)⟩,V⟩ ⟨rfl,rfl,rfl,rfl,rfl,trivial⟩ trivial ?_
 rintro⟨⟨iA,gZ,F1,f1⟩,x1,gX⟩ iC ⟨⟨pW,afY⟩,⟨MN,Fk,MO⟩,bd⟩
 dsimp only at pW afY MN Fk MO bd
 dsimp only
 conv=>whnf
 repeat'((first
  |(show gN _ _ _;first|(refine gN.mk (ie.imp (aJ.swap (fU:=_::_::_::eY _ _) (cX:=[_]))) ?_))
  |(show ih _ _ _ _;first|(refine gE nh aD W W ?_))
  |(show eB _ _ _ _;first|(refine eB.imp (aJ.swap (fU:=_::_::_::eY _ _) (cX:=[_])) (st ?_)))
  |(show bk _ _ _ _;first|(refine fv nh aD W W ?_)|(refine ke nh aD W ?_))
  |refine KF ?_
  |(refine lF ?_ ?_)
  |with_reducible intro r)<;>(try conv=>whnf))
 refine ba.sM (fun mi=>?_) (fun mi=>?_)
 rotate_left
 ·conv=>whnf
  exact cd.imp _ (aJ.swap (fU:=[_]) (cX:=_::_::_::eY _ _)) (aC f1 x1 gX (by rw[<-bd,qL,if_pos mi];rfl) pW (by have:=pW.made;omega))
 rw[qL,if_neg mi] at bd
 change gQ k (mY k head o) (some ⟨iA,gZ,F1,f1⟩) x1=R at bd
 rw[Rv pW.made] at bd
 have C2:mY k head o (some ⟨iA,gZ,F1,f1⟩) x1=vK k o ⟨iA,gZ,F1,f1⟩ x1:=rfl
 rw[C2] at bd
 conv=>whnf
 repeat'((first
  |(show ay _ _ _ _ _ _;first|(refine dV.E1 Fk pW (fun az aV e2 V nW kF=>?_) (fun a s' e ak=>?_))|(refine ay.imp (aJ.swap (fU:=[_]) (cX:=_::_::_::eY _ _)) (dV.E1 Fk pW (fun az aV e2 V nW kF=>?_) (fun a s' e ak=>?_)))|(refine dV.mK (c:=f1.prev) av (fun seen bu cR aa ME Mv=>?_) (fun a s' e ak=>?_))|(refine ay.imp (aJ.swap (fU:=[_]) (cX:=_::_::_::eY _ _)) (dV.mK (c:=f1.prev) av (fun seen bu cR aa ME Mv=>?_) (fun a s' e ak=>?_)))|(refine dV.mK (c:=eL k.la f1.cur 1) av (fun amw cw dR ag CY Fb=>?_) (fun a s' e ak=>?_))|(refine ay.imp (aJ.swap (fU:=[_]) (cX:=_::_::_::eY _ _)) (dV.mK (c:=eL k.la f1.cur 1) av (fun amw cw dR ag CY Fb=>?_) (fun a s' e ak=>?_)))|(refine dV.qu av (fun dD nE EO hC Fg Fc=>?_) (fun a s' e ak=>?_))|(refine ay.imp (aJ.swap (fU:=[_]) (cX:=_::_::_::eY _ _)) (dV.qu av (fun dD nE EO hC Fg Fc=>?_) (fun a s' e ak=>?_)))|(refine dV.F4 av (fun wk HA EP xg MF=>?_) (fun a s' bH e ak=>?_))|(refine ay.imp (aJ.swap (fU:=[_]) (cX:=_::_::_::eY _ _)) (dV.F4 av (fun wk HA EP xg MF=>?_) (fun a s' bH e ak=>?_)))|(refine dV.rM av (fun v ah=>?_))|(refine ay.imp (aJ.swap (fU:=[_]) (cX:=_::_::_::eY _ _)) (dV.rM av (fun v ah=>?_)))|(refine dV.tA av (fun v ah=>?_))|(refine ay.imp (aJ.swap (fU:=[_]) (cX:=_::_::_::eY _ _)) (dV.tA av (fun v ah=>?_)))|(refine tJ ?_)|(refine U9 ?_)|(refine Ua ?_))
  |(show ff _ _ _ _ _;first|(refine qO 3 0 W rfl bP aD W W ?_))
  |(show gN _ _ _;first|(refine gN.mk (ie.imp (aJ.swap (fU:=_::_::_::eY _ _) (cX:=[_]))) ?_))
  |(show ih _ _ _ _;first|(refine gE nh aD W W ?_))
  |(show eB _ _ _ _;first|(refine eB.imp (aJ.swap (fU:=_::_::_::eY _ _) (cX:=[_])) (st ?_)))
  |(show bk _ _ _ _;first|(refine fv nh aD W W ?_)|(refine ke nh aD W ?_))
  |(subst ah)
  |(exact hD (cl _ _ _ _ (by rw[<-bd];simp only[vK,ti,w9,ax.cx,ax.dq,gy,dm,cZ,dH,nl, *]) av))
  |(exact hD (cl _ _ _ {f1 with c0:=(nE.made:Int)-1} (by rw[<-bd];simp only[vK,ti,w9,ax.cx,ax.dq,gy,dm,cZ,dH,nl, *]) av))
  |(exact cd.imp _ (aJ.swap (fU:=[_]) (cX:=_::_::_::eY _ _)) (aC {f1 with there:=true,next:=az.1,c0:=az.2} _ _ (by rw[<-bd];simp only[vK,ti,w9,ax.cx,ax.dq,gy,dm,cZ,dH,nl, *]) av S))
  |(exact cd.imp _ (aJ.swap (fU:=[_]) (cX:=_::_::_::eY _ _)) (aC {f1 with c0:=(bu.made:Int)-1} _ _ (by rw[<-bd];simp only[vK,ti,w9,ax.cx,ax.dq,gy,dm,cZ,dH,nl, *]) av S))
  |(exact cC (X:=hQ×aq×cg) (f1,bu,gX) (by have:=bc.made (s:=bu) av;show k.log.length-bu.made<k.log.length-x0.made;omega) ⟨⟨by assumption,by show s.made<=bu.made;omega⟩,by show gQ k (mY k head o) none bu=R;rw[<-bd];simp only[vK,ti,w9,ax.cx,ax.dq,gy,dm,cZ,dH,nl, *]⟩ ⟨rfl,rfl,trivial⟩ trivial)
  |(exact cC (X:=hQ×aq×cg) (f1,nE,gX) (by have:=bc.made (s:=nE) av;show k.log.length-nE.made<k.log.length-x0.made;omega) ⟨⟨by assumption,by show s.made<=nE.made;omega⟩,by show gQ k (mY k head o) none nE=R;rw[<-bd];simp only[vK,ti,w9,ax.cx,ax.dq,gy,dm,cZ,dH,nl, *]⟩ ⟨rfl,rfl,trivial⟩ trivial)
  |(exact cC (X:=nH×aq×cg) (⟨gZ,iA,F1,{f1 with cur:=(fq az.1).idx,c0:=(nE.made:Int)-1}⟩,wk,HA) (by have:=bc.made (s:=wk) av;show k.log.length-wk.made<k.log.length-x1.made;omega) ⟨⟨by assumption,by show x0.made<wk.made;omega⟩,⟨Fk,MN,MO⟩,by show gy (gQ k (mY k head o)) (qL _ _ _ _) wk=R;rw[<-bd];simp only[vK,ti,w9,ax.cx,ax.dq,gy,dm,cZ,dH,nl, *]⟩ ⟨rfl,rfl,rfl,rfl,rfl,trivial⟩ trivial)
  |(exact cC (X:=nH×aq×cg) (⟨gZ,F1,iA,{f1 with prev:=eL k.la f1.cur 0,cur:=(fq az.1).idx,c0:=az.2}⟩,cw,gX) (by have:=bc.made (s:=cw) av;show k.log.length-cw.made<k.log.length-x1.made;omega) ⟨⟨by assumption,by show x0.made<cw.made;omega⟩,⟨Fk,MO,MN⟩,by show gy (gQ k (mY k head o)) (qL _ _ _ _) cw=R;rw[<-bd];simp only[vK,ti,w9,ax.cx,ax.dq,gy,dm,cZ,dH,nl, *]⟩ ⟨rfl,rfl,rfl,rfl,rfl,trivial⟩ trivial)
  |(refine ba.sk (fun ab=>?_) (fun ab=>?_)<;>(try have wF:=awK ab)<;>(try have wF:=awJ ab))
  |refine KF ?_
  |(refine iK ?_ ?_<;>(try with_reducible intro ab)<;>(try(exfalso;omega)))
  |with_reducible intro r)<;>(try conv=>whnf))
end
theorem PM {P:Prop} (h:P:=by
 repeat'((first
  |(show ay _ _ _ _ _ _;first|(refine Cy av (fun f1 s1 gX e1 O mJ=>?_) (fun a s' bH c6 e ak=>?_))|(refine ay.imp (aJ.swap (fU:=[_]) (cX:=_::_::_::eY _ _)) (Cy av (fun f1 s1 gX e1 O mJ=>?_) (fun a s' bH c6 e ak=>?_)))|(refine dV.mK av (fun FA s' e ak ad aZ=>?_) (fun a s' e ak=>?_))|(refine ay.imp (aJ.swap (fU:=[_]) (cX:=_::_::_::eY _ _)) (dV.mK av (fun FA s' e ak ad aZ=>?_) (fun a s' e ak=>?_)))|(refine dV.yF av (fun s' e ak ad aZ=>?_) (fun a s' e ak=>?_))|(refine ay.imp (aJ.swap (fU:=[_]) (cX:=_::_::_::eY _ _)) (dV.yF av (fun s' e ak ad aZ=>?_) (fun a s' e ak=>?_)))|(refine dV.rM av (fun v ah=>?_))|(refine ay.imp (aJ.swap (fU:=[_]) (cX:=_::_::_::eY _ _)) (dV.rM av (fun v ah=>?_)))|(refine dV.tA av (fun v ah=>?_))|(refine ay.imp (aJ.swap (fU:=[_]) (cX:=_::_::_::eY _ _)) (dV.tA av (fun v ah=>?_)))|(refine dV.HB av (fun u apq adm aeP af0 afu=>?_) (fun a s' e ak=>?_))|(refine ay.imp (aJ.swap (fU:=[_]) (cX:=_::_::_::eY _ _)) (dV.HB av (fun u apq adm aeP af0 afu=>?_) (fun a s' e ak=>?_)))|(refine dV.Pq av (fun t apr adn aeZ af3 afx=>?_) (fun a s' e ak=>?_))|(refine ay.imp (aJ.swap (fU:=[_]) (cX:=_::_::_::eY _ _)) (dV.Pq av (fun t apr adn aeZ af3 afx=>?_) (fun a s' e ak=>?_)))|(refine dV.u3 av (fun u Jr Hn aeY af2 afw=>?_) (fun a s' e ak=>?_))|(refine ay.imp (aJ.swap (fU:=[_]) (cX:=_::_::_::eY _ _)) (dV.u3 av (fun u Jr Hn aeY af2 afw=>?_) (fun a s' e ak=>?_)))|(refine dV.qu av (fun dD nE EO Ma Fg Fc=>?_) (fun a s' e ak=>?_))|(refine ay.imp (aJ.swap (fU:=[_]) (cX:=_::_::_::eY _ _)) (dV.qu av (fun dD nE EO Ma Fg Fc=>?_) (fun a s' e ak=>?_)))|(refine dV.yF av (fun O2 Lr aeR af1 afv=>?_) (fun a s' e ak=>?_))|(refine ay.imp (aJ.swap (fU:=[_]) (cX:=_::_::_::eY _ _)) (dV.yF av (fun O2 Lr aeR af1 afv=>?_) (fun a s' e ak=>?_)))|(refine U9 ?_)|(refine Ua ?_)|(refine Cy uO (fun f1 s1 gX e1 O mJ=>?_) (fun a s' bH c6 e ak=>?_))|(refine ay.imp (aJ.swap (fU:=[_]) (cX:=_::_::_::eY _ _)) (Cy uO (fun f1 s1 gX e1 O mJ=>?_) (fun a s' bH c6 e ak=>?_)))|(refine Cy av (fun gk aV gr e2 V nW=>?_) (fun a s' bH c6 e ak=>?_))|(refine ay.imp (aJ.swap (fU:=[_]) (cX:=_::_::_::eY _ _)) (Cy av (fun gk aV gr e2 V nW=>?_) (fun a s' bH c6 e ak=>?_)))|(refine dV.qu (c:=eL k.la f1.cur 0) av (fun dD nE EO Ma Fg Fc=>?_) (fun a s' e ak=>?_))|(refine ay.imp (aJ.swap (fU:=[_]) (cX:=_::_::_::eY _ _)) (dV.qu (c:=eL k.la f1.cur 0) av (fun dD nE EO Ma Fg Fc=>?_) (fun a s' e ak=>?_)))|(refine dV.qu (c:=f1.prev) av (fun bA apo adl aeM afZ aft=>?_) (fun a s' e ak=>?_))|(refine ay.imp (aJ.swap (fU:=[_]) (cX:=_::_::_::eY _ _)) (dV.qu (c:=f1.prev) av (fun bA apo adl aeM afZ aft=>?_) (fun a s' e ak=>?_)))|(refine dV.F4 av (fun wk HA EP xg MF=>?_) (fun a s' bH e ak=>?_))|(refine ay.imp (aJ.swap (fU:=[_]) (cX:=_::_::_::eY _ _)) (dV.F4 av (fun wk HA EP xg MF=>?_) (fun a s' bH e ak=>?_)))|(refine tJ ?_))
  |(show gN _ _ _;first|(refine gN.mk (ie.imp (aJ.swap (fU:=_::_::_::eY _ _) (cX:=[_]))) ?_))
  |(show ih _ _ _ _;first|(refine gE nh aD W W ?_))
  |(show eB _ _ _ _;first|(refine eB.imp (aJ.swap (fU:=_::_::_::eY _ _) (cX:=[_])) (st ?_)))
  |(show bk _ _ _ _;first|(refine fv nh aD W W ?_)|(refine ke nh aD W ?_))
  |(show ff _ _ _ _ _;first|(refine qO 3 0 W rfl bP aD W W ?_))
  |(subst ah)
  |(exact hD (cl _ _ _ _ (by rw[<-dF];simp only[pN,uX,tO,uB,ax.cx,ax.dq,gy,dm,cZ,dH,Int.reduceEq, *]) av))
  |(exact cA (aC ⟨_,_,_,_⟩ _ _ _ (by rw[<-dF];simp only[pN,uX,tO,uB,ax.cx,ax.dq,gy,dm,cZ,dH,Int.reduceEq, *]) av))
  |(exact cC (X:=hQ×aq×cg) (f1,nE,gX) (by have:=bc.made (s:=nE) av;show k.log.length-nE.made<k.log.length-x0.made;omega) ⟨by assumption,by show gQ k (uB k head o) () nE=R;rw[<-dF];simp only[pN,uX,tO,uB,ax.cx,ax.dq,gy,dm,cZ,dH,Int.reduceEq, *]⟩ ⟨rfl,rfl,rfl,trivial⟩ ⟨rfl,trivial⟩)
  |(exact cC (X:=Int×hQ×aq×cg) (_,f1,nE,gX) (by have:=bc.made (s:=nE) av;show k.log.length-nE.made<k.log.length-x0.made;omega) ⟨by assumption,by show gQ k (uX k head o v) _ nE=R;rw[<-dF];simp only[pN,uX,tO,uB,ax.cx,ax.dq,gy,dm,cZ,dH,Int.reduceEq, *]⟩ ⟨rfl,rfl,rfl,rfl,rfl,trivial⟩ ⟨rfl,trivial⟩)
  |(exact hD (cl _ _ _ _ (by simp only[pN,uX,tO,uB,ax.cx,ax.dq,gy,dm,cZ,dH,Int.reduceEq, *]) av))
  |(exact cA (aC ⟨_,_,_,_⟩ _ _ _ (by simp only[pN,uX,tO,uB,ax.cx,ax.dq,gy,dm,cZ,dH,Int.reduceEq, *]) av))
  |refine eg ?_
  |(refine eh ?_ ?_<;>(try with_reducible intro ab)<;>(try(exfalso;omega)))
  |with_reducible intro r)<;>(try conv=>whnf))):P:=h
section
theorem aee {k:aI} {s:aq} {g:cg} {p bx a0 dK:Nat} {head o:Int} {f:hQ} (h:bc H k s g)
  (aC:∀r s' bH c6,pN k head o s= .ok r s'->bc H k s' bH->K (.agg (cI.l r).toArray) (Y H w0 X (dV.ca k s' bH p bx a0 (jv p dK head c6::M))))
  (cl:∀a s' bH c6,pN k head o s= .ask a->bc H k s' bH->Z (dV.g4 a) (Y H w0 X (dV.ca k s' bH p bx a0 (jv p dK head c6::M)))):a4 H w0 X (dV.ca k s g p bx a0 (jv p dK head f::M)) 348 #[ae dK,J o] K Z:=by
 refine a7 ajs ?_
 intro az aF
 conv=>whnf
 exact PM
theorem anQ {k:aI} {s:aq} {g:cg} {p bx a0 dK:Nat} {head o v:Int} {f:hQ} (h:bc H k s g)
  (aC:∀r s' bH c6,sQ k head o v s= .ok r s'->bc H k s' bH->K (.agg (cI.l r).toArray) (Y H w0 X (dV.ca k s' bH p bx a0 (jv p dK head c6::M))))
  (cl:∀a s' bH c6,sQ k head o v s= .ask a->bc H k s' bH->Z (dV.g4 a) (Y H w0 X (dV.ca k s' bH p bx a0 (jv p dK head c6::M)))):a4 H w0 X (dV.ca k s g p bx a0 (jv p dK head f::M)) 350 #[ae dK,J o,J v] K Z:=by
 refine a7 aju ?_
 intro az aF
 conv=>whnf
 unfold sQ at aC cl
 generalize c3:gQ k (uX k head o v) 0 s=R at aC cl
 refine c9.on (X:=Int×hQ×aq×cg) (fun x=> [(0,.v (ae dK)),(1,.v (J o)),(2,.v (J v)),(6,.p 6 0),(7,.v (J x.1))]) (fun _=> [(6,145,[J 0,.bool false,J 0,J 0,.slice none 0 0])]) (fun x=>Y H az aF (dV.ca k x.2.2.1 x.2.2.2 p bx a0 (jv p dK head x.2.1::M))) (fun x=>bc H k x.2.2.1 x.2.2.2/\gQ k (uX k head o v) x.1 x.2.2.1=R) (fun x=>k.log.length-x.2.2.1.made) (0,f,s,g) ⟨h,c3⟩ ⟨rfl,rfl,rfl,rfl,rfl,trivial⟩ ⟨rfl,trivial⟩ ?_
 rintro⟨n,f0,x0,fb⟩ iC ⟨uO,dF⟩
 dsimp only at uO dF
 rw[vZ RV uO.made] at dF
 dsimp only
 conv=>whnf
 exact PM
theorem ac0 {k:aI} {s:aq} {g:cg} {p bx a0 dK:Nat} {head o:Int} {f:hQ} (h:bc H k s g)
  (aC:∀r s' bH c6,uC k head o s= .ok r s'->bc H k s' bH->K (.agg (cI.l r).toArray) (Y H w0 X (dV.ca k s' bH p bx a0 (jv p dK head c6::M))))
  (cl:∀a s' bH c6,uC k head o s= .ask a->bc H k s' bH->Z (dV.g4 a) (Y H w0 X (dV.ca k s' bH p bx a0 (jv p dK head c6::M)))):a4 H w0 X (dV.ca k s g p bx a0 (jv p dK head f::M)) 352 #[ae dK,J o] K Z:=by
 refine a7 ajw ?_
 intro az aF
 conv=>whnf
 unfold uC at aC cl
 generalize c3:gQ k (uB k head o) () s=R at aC cl
 refine c9.on (X:=hQ×aq×cg) (fun x=> [(0,.v (ae dK)),(1,.v (J o)),(4,.p 4 0)]) (fun _=> [(4,145,[J 0,.bool false,J 0,J 0,.slice none 0 0])]) (fun x=>Y H az aF (dV.ca k x.2.1 x.2.2 p bx a0 (jv p dK head x.1::M))) (fun x=>bc H k x.2.1 x.2.2/\gQ k (uB k head o) () x.2.1=R) (fun x=>k.log.length-x.2.1.made) (f,s,g) ⟨h,c3⟩ ⟨rfl,rfl,rfl,trivial⟩ ⟨rfl,trivial⟩ ?_
 rintro⟨f0,x0,fb⟩ iC ⟨uO,dF⟩
 dsimp only at uO dF
 rw[vZ RR uO.made] at dF
 dsimp only
 conv=>whnf
 exact PM
end
theorem asZ {P:Prop} (h:P:=by
 repeat'((first
  |(show ay _ _ _ _ _ _;first|(refine aee (M:=L++M) h (fun r s' bH c6 e ak=>?_) (fun a s' bH c6 e ak=>?_))|(refine anQ (M:=L++M) h (fun r s' bH c6 e ak=>?_) (fun a s' bH c6 e ak=>?_))|(refine ac0 (M:=L++M) h (fun r s' bH c6 e ak=>?_) (fun a s' bH c6 e ak=>?_)))
  |(show bk _ _ _ _;first|(refine fv (by repeat(first|exact List.Mem.head _|refine dr _ ?_|exact db _ (.tail _ (db _ (db _ hr)))|exact db _ (.tail _ (db _ (db _ hc)))|exact db _ (.tail _ (db _ hr))|exact db _ (.tail _ (db _ hc)))) aD W W ?_)|(refine fv nh aD W W ?_)|(refine ke nh aD W ?_))
  |(show ih _ _ _ _;first|(refine gE (by repeat(first|exact List.Mem.head _|refine dr _ ?_|exact db _ (.tail _ (db _ (db _ hr)))|exact db _ (.tail _ (db _ (db _ hc)))|exact db _ (.tail _ (db _ hr))|exact db _ (.tail _ (db _ hc)))) aD W W ?_)|(refine gE nh aD W W ?_))
  |(show gN _ _ _;first|(refine gN.mk (ie.imp (aJ.swap (fU:=_::_::_::eY _ _) (cX:=[_]))) ?_))
  |(show eB _ _ _ _;first|(refine eB.imp (aJ.swap (fU:=_::_::_::eY _ _) (cX:=[_])) (st ?_)))
  |(exact ia.imp _ (aJ.DI (_::_::_::eY _ _) (fU:=[_]) (cX:=L)) (cl _ _ _ _ av av))
  |(exact cd.imp _ (aJ.DI (_::_::_::eY _ _) (fU:=[_]) (cX:=L)) (aC ⟨_,_,_,_⟩ _ _ _ av av))
  |refine eg ?_
  |(refine eh ?_ ?_)
  |with_reducible intro r)<;>(try conv=>whnf))):P:=h
inductive yc(x:Value×aY):aw->aw->Prop where
 |here {M:aw}:yc x (x::M) M
 |there {y:Value×aY} {M aE:aw} (h:yc x M aE):yc x (y::M) (y::aE)
theorem yc.perm{x:Value×aY}{M aE:aw}(h:yc x M aE):List.Perm M (x::aE):=by
 induction h with
 |here=>exact List.Perm.refl _
 |there _ cy=>exact(List.Perm.cons _ cy).trans (kO _ _ _)
theorem amP{x:Value×aY}{M aE L:aw}(h:yc x M aE)(V:List.Perm aE L):List.Perm M (x::L):=h.perm.trans (List.Perm.cons _ V)
theorem aJ.auto{M L:aw}(h:List.Perm M L:=by repeat(first|exact List.Perm.refl _|(apply amP;·repeat(first|exact yc.here|apply yc.there)))):aJ M L:=aJ.perm h
def jy(k:aI)(gs:List cz)(op:dp):e9:=
 if op.o1<0\/k.la.size<=op.o1 then m9 gs else
 if op.o0=1 then e9.of (pN k op.o1 op.aQ (aq.start gs)) else
 if op.o0=2 then e9.of (sQ k op.o1 op.aQ op.bl (aq.start gs)) else
 if op.o0=3 then e9.of (uC k op.o1 op.aQ (aq.start gs)) else m9 gs
section
theorem Om {P:Prop} (h:P:=by
 refine ay.imp (aJ.DI (_::_::_::eY _ _) (fU:=L) (cX:=[_])) ?_
 refine a7 (by first|exact ajr|exact ajt|exact ajv) ?_
 intro az aF
 conv=>whnf
 exact asZ
):P:=h
theorem alJ{k:aI}{s:aq}{g:cg}{p bx a0 dK df cj:Nat}{op:dp}{f:hQ}{L M:aw}(h:bc H k s g)(hr:(ae df,aY.cs 344 [ae dK])∈M)(hc:(ae cj,aY.cs 72 op.l)∈M)(aC:∀r s' bH c6,pN k op.o1 op.aQ s= .ok r s'->bc H k s' bH->K (.agg (cI.l r).toArray) (Y H w0 X (dV.ca k s' bH p bx a0 (L++(jv p dK op.o1 c6::M)))))(cl:∀a s' bH c6,pN k op.o1 op.aQ s= .ask a->bc H k s' bH->Z (dV.g4 a) (Y H w0 X (dV.ca k s' bH p bx a0 (L++(jv p dK op.o1 c6::M))))):a4 H w0 X (dV.ca k s g p bx a0 (L++(jv p dK op.o1 f::M))) 347 #[ae df,ae cj] K Z:=by
 exact Om
theorem alK{k:aI}{s:aq}{g:cg}{p bx a0 dK df cj:Nat}{op:dp}{f:hQ}{L M:aw}(h:bc H k s g)(hr:(ae df,aY.cs 344 [ae dK])∈M)(hc:(ae cj,aY.cs 72 op.l)∈M)(aC:∀r s' bH c6,sQ k op.o1 op.aQ op.bl s= .ok r s'->bc H k s' bH->K (.agg (cI.l r).toArray) (Y H w0 X (dV.ca k s' bH p bx a0 (L++(jv p dK op.o1 c6::M)))))(cl:∀a s' bH c6,sQ k op.o1 op.aQ op.bl s= .ask a->bc H k s' bH->Z (dV.g4 a) (Y H w0 X (dV.ca k s' bH p bx a0 (L++(jv p dK op.o1 c6::M))))):a4 H w0 X (dV.ca k s g p bx a0 (L++(jv p dK op.o1 f::M))) 349 #[ae df,ae cj] K Z:=by
 exact Om
theorem alL{k:aI}{s:aq}{g:cg}{p bx a0 dK df cj:Nat}{op:dp}{f:hQ}{L M:aw}(h:bc H k s g)(hr:(ae df,aY.cs 344 [ae dK])∈M)(hc:(ae cj,aY.cs 72 op.l)∈M)(aC:∀r s' bH c6,uC k op.o1 op.aQ s= .ok r s'->bc H k s' bH->K (.agg (cI.l r).toArray) (Y H w0 X (dV.ca k s' bH p bx a0 (L++(jv p dK op.o1 c6::M)))))(cl:∀a s' bH c6,uC k op.o1 op.aQ s= .ask a->bc H k s' bH->Z (dV.g4 a) (Y H w0 X (dV.ca k s' bH p bx a0 (L++(jv p dK op.o1 c6::M))))):a4 H w0 X (dV.ca k s g p bx a0 (L++(jv p dK op.o1 f::M))) 351 #[ae df,ae cj] K Z:=by
 exact Om
theorem akM{k:aI}{gs:List cz}{g:cg}{op:dp}(h:bc H k (aq.start gs) ⟨false,g.A,g.n,g.c⟩)(U:jn H w0 X M K (jy k gs op)):a4 H w0 X M 304 #[.agg k.la.l.toArray,J k.a1,.slice g.A g.n g.c,.agg op.l.toArray,.slice k.bK k.aM k.bD] K Z:=by
 have kp:g.n<=1000000000:=by
  have O:g.n=gs.length:=h.fh
  have V:gs.length<=1000000+0:=h.pO
  omega
 have fj:g.n=gs.length:=h.fh
 refine a7 Tw ?_
 intro az aF
 conv=>whnf
 repeat'((first
  |(show bk _ _ _ _;first|(refine h2 (t:=72) _ rfl (fun cj=>?_))|(refine h2 (t:=350) _ rfl (fun dK=>?_))|(refine hT aD _ rfl (fun df=>?_))|(refine fv nh aD W W ?_)|(refine ke nh aD W ?_))
  |(show gN _ _ _;first|(refine gN.mk (ie.imp (aJ.swap (fU:=_::_::_::eY _ _) (cX:=[_]))) ?_))
  |(show ay _ _ _ _ _ _;first|(refine dV.abx (gs:=gs) (g:=g) (fun p bx a0=>?_))|(refine dV.aoO (gs:=gs) (.inl (h.ea rfl)) h.fh kp h.pP (fun aR aN aj b0=>?_))|(refine ay.imp (aE:=dV.ca k (aq.start gs) ⟨false,g.A,g.n,g.c⟩ p bx a0 ((fun f=>jv p dK op.o1 f::((ae df,aY.cs 344 [ae dK])::(ae cj,aY.cs 72 op.l)::M)) ⟨false,0,0,0,0⟩)) aJ.auto (dV.Jf (R:=(pN k op.o1 op.aQ (aq.start gs))) (kl:=[ae df,ae cj]) (nS:=347) (σ:=hQ) (fun f=>jv p dK op.o1 f::((ae df,aY.cs 344 [ae dK])::(ae cj,aY.cs 72 op.l)::M)) ⟨false,0,0,0,0⟩ h (fun w0 X L K Z aU a8=>?_) (fun o gv aR aN x e aj b0=>?_) (fun a x e=>?_)))|(refine ay.imp (aE:=dV.ca k (aq.start gs) ⟨false,g.A,g.n,g.c⟩ p bx a0 ((fun f=>jv p dK op.o1 f::((ae df,aY.cs 344 [ae dK])::(ae cj,aY.cs 72 op.l)::M)) ⟨false,0,0,0,0⟩)) aJ.auto (dV.Jf (R:=(sQ k op.o1 op.aQ op.bl (aq.start gs))) (kl:=[ae df,ae cj]) (nS:=349) (σ:=hQ) (fun f=>jv p dK op.o1 f::((ae df,aY.cs 344 [ae dK])::(ae cj,aY.cs 72 op.l)::M)) ⟨false,0,0,0,0⟩ h (fun w0 X L K Z aU a8=>?_) (fun o gv aR aN x e aj b0=>?_) (fun a x e=>?_)))|(refine ay.imp (aE:=dV.ca k (aq.start gs) ⟨false,g.A,g.n,g.c⟩ p bx a0 ((fun f=>jv p dK op.o1 f::((ae df,aY.cs 344 [ae dK])::(ae cj,aY.cs 72 op.l)::M)) ⟨false,0,0,0,0⟩)) aJ.auto (dV.Jf (R:=(uC k op.o1 op.aQ (aq.start gs))) (kl:=[ae df,ae cj]) (nS:=351) (σ:=hQ) (fun f=>jv p dK op.o1 f::((ae df,aY.cs 344 [ae dK])::(ae cj,aY.cs 72 op.l)::M)) ⟨false,0,0,0,0⟩ h (fun w0 X L K Z aU a8=>?_) (fun o gv aR aN x e aj b0=>?_) (fun a x e=>?_)))|(exact alJ h b7 b7 aU a8)|(exact alK h b7 b7 aU a8)|(exact alL h b7 b7 aU a8))
  |(show ff _ _ _ _ _;first|(refine kZ W ?_))
  |(show ih _ _ _ _;first|(refine gE nh aD W W ?_))
  |(show eB _ _ _ _;first|(refine eB.imp (aJ.swap (fU:=_::_::_::eY _ _) (cX:=[_])) (st ?_)))
  |(rw[show jy k gs op=m9 gs by(unfold jy;repeat(first|rfl|refine(if_pos S).trans ?_|refine(if_neg S).trans ?_))] at U;have fz:=U aR aN (by rw[<-fj];exact aj) b0;rw[<-fj] at fz;exact c1 fz cn)
  |(rw[show jy k gs op=e9.of (pN k op.o1 op.aQ (aq.start gs)) by(unfold jy;repeat(first|rfl|refine(if_pos S).trans ?_|refine(if_neg S).trans ?_)),e] at U;exact c1 (U aR aN aj b0) cn)
  |(rw[show jy k gs op=e9.of (sQ k op.o1 op.aQ op.bl (aq.start gs)) by(unfold jy;repeat(first|rfl|refine(if_pos S).trans ?_|refine(if_neg S).trans ?_)),e] at U;exact c1 (U aR aN aj b0) cn)
  |(rw[show jy k gs op=e9.of (uC k op.o1 op.aQ (aq.start gs)) by(unfold jy;repeat(first|rfl|refine(if_pos S).trans ?_|refine(if_neg S).trans ?_)),e] at U;exact c1 (U aR aN aj b0) cn)
  |(rw[show jy k gs op=e9.of (pN k op.o1 op.aQ (aq.start gs)) by(unfold jy;repeat(first|rfl|refine(if_pos S).trans ?_|refine(if_neg S).trans ?_)),e] at U;exact c1 U cn)
  |(rw[show jy k gs op=e9.of (sQ k op.o1 op.aQ op.bl (aq.start gs)) by(unfold jy;repeat(first|rfl|refine(if_pos S).trans ?_|refine(if_neg S).trans ?_)),e] at U;exact c1 U cn)
  |(rw[show jy k gs op=e9.of (uC k op.o1 op.aQ (aq.start gs)) by(unfold jy;repeat(first|rfl|refine(if_pos S).trans ?_|refine(if_neg S).trans ?_)),e] at U;exact c1 U cn)
  |refine KF ?_
  |(refine iK ?_ ?_<;>(try with_reducible intro ab)<;>(try(exfalso;omega)))
  |with_reducible intro r)<;>(try conv=>whnf))
end
theorem PN {P:Prop} (h:P:=by
 repeat'((first
  |(show bk _ _ _ _;first|(refine Wm S S ?_))
  |(show ay _ _ _ _ _ _;first|(refine OV a8 (fun v ah=>?_))|(refine QJ S (fun zN Il=>?_);have hr:0<=zN/\zN<=1000:=Il▸G2 _)|(refine PV S S S (fun BF Im=>?_))|(refine ao2 a8 (fun v ah=>?_);subst ah)|(refine Pc (fun v ah=>?_);subst ah))
  |(show ff _ _ _ _ _;first|(refine kZ W ?_))
  |(exact c1 (aB S) cn)
  |(exact cd.imp _ aJ.auto (ar S _ _))
  |(exact c1 (U _ (by rw[ls,if_pos S])))
  |(exact c1 (U _ (by rw[ls,if_neg S,Im];simp only[*])))
  |(exact c1 (U _ (aaZ aT)))
  |refine eg ?_
  |(refine eh ?_ ?_<;>(try with_reducible intro ab)<;>(try(exfalso;omega)))
  |with_reducible intro r)<;>(try conv=>whnf))):P:=h
theorem O5{P:Program}{C:an}{m:Sem Value}{K:Value->an->Prop}(v:Value)(aP:∀w,m.run P w= .ok v w)(h:K v C):bk P C m K:=⟨fun w au=>⟨v,w,C,aP w,iJ.refl _ _,au,h⟩⟩
theorem Wm{P:Program}{C:an}{r:Int}{K:Value->an->Prop}(aT:0<=r)(O:r<=15)(h:K (J (4*2^r.toNat)) C):bk P C (Op.shift .shl .i64 4 .i64 r) K:=by
 refine O5 _ (fun w=>?_) h
 have:min r.toNat 64=r.toNat:=z4 S
 have bh:(2:Int)^r.toNat<=2^15:=by exact_mod_cast Nat.pow_le_pow_right (by decide:2>0) (by omega:r.toNat<=15)
 have bd:(0:Int)<=2^r.toNat:=by exact_mod_cast cY _
 simp only[Op.shift,show ¬r<0 by omega,cZ,IntKind.bits,this]
 show Sem.run P (pure _) w=_
 rw[cK S]
 rfl
theorem apI{P:Program}{C:an}{a:Int}{s d:TypeId}{ds:TypeDesc}{K:Value->an->Prop}(ar:P.underlying s=some ds)(aL:P.underlying d=some (.int .u64))(aT:0<=a)(O:a<=1000000)(h:K (.int .u64 a) C):bk P C (convert s d (J a)) K:=by
 refine O5 _ (fun w=>?_) h
 simp only[convert,Sem.run_bind,run_underlying ar,run_underlying aL,Result.andThen_ok]
 have e:IntKind.u64.wrap a=a:=by
  show(if(false&&decide (a%18446744073709551616>=9223372036854775808))=true then a%18446744073709551616-18446744073709551616 else a%18446744073709551616)=a
  rw[Bool.false_and,if_neg bC]
  omega
 show Sem.run P (pure (Value.int .u64 (IntKind.u64.wrap a))) w=_
 rw[e]
 rfl
theorem aaZ{r:Int}(h:0<=r/\r<=5):IntKind.i64.wrap (4*2^r.toNat-4)=vx r:=by
 obtain⟨aT,O⟩:=h
 have:r=0\/r=1\/r=2\/r=3\/r=4\/r=5:=by omega
 rcases this with rfl|rfl|rfl|rfl|rfl|rfl<;>rfl
theorem VU(a:c8):1<=pj a/\pj a<=5:=by unfold pj;split<;>(try split)<;>(try split)<;>(try split)<;>omega
theorem G2(r:Int):0<=vx r/\vx r<=1000:=by unfold vx;split<;>(try split)<;>(try split)<;>(try split)<;>(try split)<;>omega
def jD(r:Int):Int:=if r<0\/15<r then 0 else [4,8,16,32,64,128,256,512,1024,2048,4096,8192,16384,32768,65536,131072].getD r.toNat 0
theorem Pb(r:Int):0<=jD r/\jD r<=131072:=by
 unfold jD
 split
 ·omega
 ·have:r=0\/r=1\/r=2\/r=3\/r=4\/r=5\/r=6\/r=7\/r=8\/r=9\/r=10\/r=11\/r=12\/r=13\/r=14\/r=15:=by omega
  rcases this with rfl|rfl|rfl|rfl|rfl|rfl|rfl|rfl|rfl|rfl|rfl|rfl|rfl|rfl|rfl|rfl<;>decide
theorem apY{r:Int}(aT:0<=r)(O:r<=15):4*2^r.toNat=jD r:=by
 have:r=0\/r=1\/r=2\/r=3\/r=4\/r=5\/r=6\/r=7\/r=8\/r=9\/r=10\/r=11\/r=12\/r=13\/r=14\/r=15:=by omega
 rcases this with rfl|rfl|rfl|rfl|rfl|rfl|rfl|rfl|rfl|rfl|rfl|rfl|rfl|rfl|rfl|rfl<;>rfl
theorem apH{P:Program}{C:an}{r:Int}{K:Value->an->Prop}(aT:0<=r)(O:r<=15)(h:K (J (jD r)) C):bk P C (Op.shift .shl .i64 4 .i64 r) K:=Wm aT O (by rw[apY aT O];exact h)
def Bk(a:c8)(s r i:Int):Int:=if(ls a s r<0\/jD r=0)\/i<0 then-1 else cB (ls a s r+i.tmod (jD r))
section
theorem QJ{r:Int}(aT:0<=r/\r<=5)(U:∀v,v=vx r->K (J v) (Y H w0 X M)):a4 H w0 X M 80 #[J r] K Z:=by
 refine a7 aj3 ?_
 intro az aF
 conv=>whnf
 exact PN
theorem OV{a:c8}(a8:ig a)(U:∀v,v=pj a->K (J v) (Y H w0 X M)):a4 H w0 X M 81 #[.agg a.l.toArray] K Z:=by
 have bs:=a8.en
 refine a7 aj4 ?_
 intro az aF
 conv=>whnf
 refine IZ ?_
 conv=>whnf
 rw[if_neg S]
 refine apI (ds:= .int .i64) bP bP S S ?_
 conv=>whnf
 refine c9.vd ?_
 conv=>whnf
 refine ba.dec (fun aT=>?_) (fun aT=>?_)
 rotate_left
 ·conv=>whnf
  have h:¬(4:Int)<a.en:=aT
  exact c1 (U _ (by unfold pj;repeat(first|rfl|refine Eq.trans ?_ (if_pos S).symm|refine Eq.trans ?_ (if_neg S).symm)))
 have fb:(4:Int)<a.en:=aT
 conv=>whnf
 refine c9.vd ?_
 conv=>whnf
 refine ba.dec (fun O=>?_) (fun O=>?_)
 rotate_left
 ·conv=>whnf
  have h:¬(8:Int)<a.en:=O
  exact c1 (U _ (by unfold pj;repeat(first|rfl|refine Eq.trans ?_ (if_pos S).symm|refine Eq.trans ?_ (if_neg S).symm)))
 have gX:(8:Int)<a.en:=O
 conv=>whnf
 refine c9.vd ?_
 conv=>whnf
 refine ba.dec (fun V=>?_) (fun V=>?_)
 rotate_left
 ·conv=>whnf
  have h:¬(16:Int)<a.en:=V
  exact c1 (U _ (by unfold pj;repeat(first|rfl|refine Eq.trans ?_ (if_pos S).symm|refine Eq.trans ?_ (if_neg S).symm)))
 have gr:(16:Int)<a.en:=V
 conv=>whnf
 refine c9.vd ?_
 conv=>whnf
 refine ba.dec (fun aa=>?_) (fun aa=>?_)
 rotate_left
 ·conv=>whnf
  have h:¬(32:Int)<a.en:=aa
  exact c1 (U _ (by unfold pj;repeat(first|rfl|refine Eq.trans ?_ (if_pos S).symm|refine Eq.trans ?_ (if_neg S).symm)))
 have kT:(32:Int)<a.en:=aa
 conv=>whnf
 refine c9.vd ?_
 conv=>whnf
 refine ba.dec (fun ag=>?_) (fun ag=>?_)
 rotate_left
 ·conv=>whnf
  have h:¬(64:Int)<a.en:=ag
  exact c1 (U _ (by unfold pj;repeat(first|rfl|refine Eq.trans ?_ (if_pos S).symm|refine Eq.trans ?_ (if_neg S).symm)))
 have lI:(64:Int)<a.en:=ag
 omega
theorem ao2{a:c8}(a8:ig a){s r:Int}(U:∀v,v=ls a s r->K (J v) (Y H w0 X M)):a4 H w0 X M 359 #[.agg a.l.toArray,J s,J r] K Z:=by
 have aT:=a8.at_ a.ring (by simp)
 have O:=a8.bt
 have V:=VU a
 have aa:=G2
 refine a7 ajD ?_
 intro az aF
 conv=>whnf
 exact PN
theorem Pc{r:Int}(U:∀v,v=jD r->K (J v) (Y H w0 X M)):a4 H w0 X M 281 #[J r] K Z:=by
 refine a7 aiI ?_
 intro az aF
 conv=>whnf
 repeat'((first
  |(show bk _ _ _ _;first|(refine apH S S ?_))
  |(exact c1 (U _ rfl))
  |(exact c1 (U _ (by rw[jD,if_pos S])))
  |refine jK ?_
  |(refine iK ?_ ?_<;>(try with_reducible intro ab)<;>(try(exfalso;omega)))
  |with_reducible intro r)<;>(try conv=>whnf))
theorem OA{a:c8}(a8:ig a){s r:Int}(aB:(ls a s r<0\/jD r=0)->K (.tuple #[.nilFunc,.bool false]) (Y H w0 X M))(ar:¬(ls a s r<0\/jD r=0)->∀b1 b2,K (.tuple #[Value.func (.func 360) #[] #[ae b1,ae b2],.bool true]) (Y H w0 X ((ae b1,aY.cs 3 [J (ls a s r)])::(ae b2,aY.cs 3 [J (jD r)])::M))):a4 H w0 X M 339 #[.agg a.l.toArray,J s,J r] K Z:=by
 refine a7 ajl ?_
 intro az aF
 conv=>whnf
 exact PN
end
end Go.Proofs.YtcflcebplhdcpaaGreat
