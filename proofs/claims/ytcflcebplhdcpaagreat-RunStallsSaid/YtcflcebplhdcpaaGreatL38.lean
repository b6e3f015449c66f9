/- Lemmas, part 38; each states its own conditions. -/
import Derived.Test.YtcflcebplhdcpaaGreatL37
namespace Go.Proofs.YtcflcebplhdcpaaGreat
open Go.RowKit
set_option linter.unusedSimpArgs false
set_option linter.unusedVariables false
set_option maxRecDepth 100000
set_option maxHeartbeats 16000000
variable{H w0:World}{X:Nat->Prop}{M:aw}{K:Value->an->Prop}{Z:bF}
theorem zQ {P:Prop} (h:P:=by
 repeat'((first
  |(show eB _ _ _ _;first|(refine Gg (J ((s.made+m:Nat):Int)) ?_ ?_;focus(rw[cK (x:=((m+1:Nat):Int)-1) S,cK S];exact congrArg _ S)))
  |(show ih _ _ _ _;first|(refine gE (by repeat(first|exact List.Mem.head _|refine dr _ ?_|refine db _ ?_)) aD W W ?_)|(refine p0 (by repeat(first|exact List.Mem.head _|refine dr _ ?_|refine db _ ?_)) aD W ?_))
  |(show bk _ _ _ _;first|(refine fv (by repeat(first|exact List.Mem.head _|refine dr _ ?_|refine db _ ?_)) aD W W ?_)|(refine ke (by repeat(first|exact List.Mem.head _|refine dr _ ?_|refine db _ ?_)) aD W ?_))
  |(exact cd.imp (fB k cv {s with made:=s.made+m,gone:=gs} ⟨true,br,gs.length,bz⟩ p M) (ap8 (e:=(F5 br gs bz)) cn) (aC _ _ _ br gs.length bz jw ((h.own gs (A:=br) (n:=gs.length) (c:=bz) rfl dS S ep).up (s':={s with made:=s.made+m,gone:=gs}) (by show s.made<=s.made+m;omega) (by show s.made+m<=_;omega) rfl)))
  |(exact cC (X:=Nat×Option (Option Addr×Nat×List cz)) (j+1,some (da,c7,RY)) (by show 0<k.aM-s.made+1-j;omega) ⟨(fun e=>by cases e),fun _=>by show j+1=m+1;omega⟩ ⟨rfl,rfl,rfl,rfl,rfl,rfl,rfl,eD S,trivial⟩ ⟨rfl,rfl,rfl,rfl,trivial⟩)
  |(exact cC (X:=Nat×Option (Option Addr×Nat×List cz)) (j+1,none) (by show k.aM-s.made+1-(j+1)<k.aM-s.made+1-j;omega) ⟨fun _=>⟨by show j+1<=_;omega,aK⟩,fun e=>by cases e⟩ ⟨rfl,rfl,rfl,rfl,rfl,rfl,rfl,eD S,trivial⟩ ⟨rfl,rfl,rfl,rfl,trivial⟩)
  |(exact cd.imp _ (Jy cn) (aC (o,⟨0,0,0,0⟩) s g br gs.length bz jw h))
  |(exact ia.imp _ (Jy cn) (cl _ jw))
  |refine eg ?_
  |(refine eh ?_ ?_<;>(try with_reducible intro ab)<;>(try(exfalso;omega)))
  |with_reducible intro r)<;>(try conv=>whnf))):P:=h
theorem Jy{k:aI}{cv:Int}{s:aq}{g:cg}{p:Nat}{M aE:aw}(h:List.Sublist M aE):aJ (fB k cv s g p aE) (fB k cv s g p M):=aJ.sub (.cons_cons _ ((List.Sublist.refl (eY g s)).append h))
theorem ap8{s:aq}{g:cg}{x e:Value×aY}{M aE:aw}(h:List.Sublist (e::M) aE):aJ (x::(eY g s++aE)) (x::([e]++M)):=aJ.sub (.cons_cons _ (h.trans (od (eY g s) _)))
theorem LR(f:Nat->Bool):∀n j,j<=sn f n j/\sn f n j<=j+n
 |0,j=>⟨Nat.le_refl _,Nat.le_refl _⟩
 |n+1,j=>by
  unfold sn
  split
  ·omega
  ·have:=LR f n (j+1);omega
theorem Rx{f:Nat->Bool}{n j:Nat}(h:f j=true):sn f n j=j:=by
 cases n with
 |zero=>rfl
 |succ n=>simp[sn,h]
theorem Rw{f:Nat->Bool}{n j:Nat}(h:f j=false):sn f (n+1) j=sn f n (j+1):=by simp[sn,h]
theorem aqQ{k:aI}{s:aq}{j:Nat}(h:s.made+j<=k.log.length):(qf k s j).log.length=j:=by
 simp only[qf,r9,yh];omega
theorem T0{k:aI}{s:aq}{op:dp}{j:Nat}{o:cI}{gs:List cz}(h:s.made+j<=k.log.length)(jT:m5 k s op j= .done o gs):o.c0<j/\(op.o0=2->o.err=0->o.eG=false->o.c0+2<j)/\gs.length<=s.gone.length+j:=by
 have:=akN jT
 rw[aqQ h] at this
 exact this
abbrev F5(A:Option Addr)(gs:List cz)(c:Nat):Value×aY:=(.slice A gs.length c,.row 187 2 (gs.flatMap ft))
abbrev Hm(k:aI)(s:aq)(p:Nat)(e4:Int)(o:List Value)(cU cj a0 hH:Nat)(L:aw):aw:=(ae a0,.cs 75 [.slice (JJ k s) (k.aM-s.made) (k.bD-s.made)])::(ae cj,.cs 72 o)::(ae hH,.cs 3 [J (eL k.la e4 0)])::(ae cU,.cs 293 [ae p])::L
abbrev VV(x:Option (Option Addr×Nat×List cz))(R:aw):aw:=match x with
 |none=>R
 |some r=>F5 r.1 r.2.2 r.2.1::R
section
theorem z6.more{k:aI}{s:aq}{op:dp}{head:Int}{p cU cj a0 hH:Nat}(h:z6 k s op head p cU cj a0 hH M)(x:Value×aY):z6 k s op head p cU cj a0 hH (x::M):=⟨.tail _ h.q,.tail _ h.o,.tail _ h.l,.tail _ h.h⟩
theorem abf{x y:Int}{f:FuncId}{zN BF Xk Xl:Value}{C:an}(e:x=y)(h:ay Tryz.prog C f #[J y,zN,BF,Xk,Xl] K Z):ay Tryz.prog C f #[J x,zN,BF,Xk,Xl] K Z:=e▸h
theorem U0 {P:Prop} (h:P:=by
 have qC:=h.kJ
 have sC:=h.lc
 have y8:=h.lm
 have Su:=h.made
 have za:k.aM-s.made=k.log.length-s.made:=by omega
 have AG:∀cU cj a0 hH (L:aw),z6 k s ⟨kind,(mc k e4),order,v⟩ (eL k.la e4 0) p cU cj a0 hH (Hm k s p e4 [J kind,J (mc k e4),J order,J v] cU cj a0 hH L):=fun cU cj a0 hH L=>⟨b7,b7,b7,b7⟩
 refine a7 aok ?_
 intro az aF
 conv=>whnf
 repeat'((first
  |(show bk _ _ _ _;first|((refine hT aD _ rfl ?_;intro _))|((refine h2 _ rfl ?_;intro _))|(refine uS ?_)|(refine IM ?_)|(refine uS ?_)|(refine IM ?_))
  |(show ih _ _ _ _;first|(refine IS ?_)|(refine NM ?_)|(refine IS ?_)|(refine NM ?_))
  |(show ay _ _ _ _ _ _;first|(refine FI h.la (fun v ah=>?_);subst ah))
  |(show ff _ _ _ _ _;first|(refine kZ W ?_))
  |(show kN _ _ _ _ _ _ _;first|(refine Le s.made rfl (k.aM-s.made) S ?_)|(refine Le s.made (k.aM-s.made) rfl S ?_))
  |(show eS _ _;first|(refine eS.go ?_))
  |(show gN _ _ _;first|(refine gN.mk (ie.refl _) ?_)|(refine gN.mk (ie.imp (aJ.sub cn)) ?_))
  |(show _/\_;first|(refine And.intro ?_ ?_))
  |(show eB _ _ _ _;first|(refine st ?_))
  |(refine hy.go ?_)
  |(refine pE.go ?_)
  |(refine ba.dec (fun ab=>?_) (fun ab=>?_)<;>try(exfalso;omega))
  |(refine ba.v7 (fun ab=>?_) (fun ab=>?_)<;>try(exfalso;omega))
  |(refine ba.sk (fun ab=>?_) (fun ab=>?_)<;>try(exfalso;omega))
  |(refine ba.sM (fun ab=>?_) (fun ab=>?_)<;>try(exfalso;omega))
  |(refine ba.Uy (fun ab=>?_) (fun ab=>?_))
  |(refine ba.intro (fun ab=>?_) (fun ab=>?_)))<;>(try conv=>whnf))
 rename_i cU hH cj a0
 refine ay.imp (aE:=fB k cv s g p (Hm k s p e4 [J kind,J (mc k e4),J order,J v] cU cj a0 hH M)) (aJ.JK (_::eY g s) M) (I2 (j:=k.aM-s.made) (op:=⟨kind,(mc k e4),order,v⟩) h (AG cU cj a0 hH M) S S ?_)
 cases xe:m5 k s ⟨kind,(mc k e4),order,v⟩ (k.aM-s.made) with
 |ask a=>
  have jw:m4 k kind e4 order v s= .ask (yw (eL k.la e4 0) (mc k e4) a):=by
   rw[m4,E5 eb,<-za,xe]
  conv=>whnf
  exact zQ
 |done o gs=>
  obtain⟨ll,sE,AU⟩:=T0 S xe
  intro br bz dS ep
  by_cases Ih:o.c0<0
  ·have jw:m4 k kind e4 order v s= .ok (o,⟨0,0,0,0⟩) s:=by
    rw[m4,E5 eb,<-za,xe]
    exact if_pos Ih
   conv=>whnf
   exact zQ
  ·obtain⟨wc,zd⟩:=uc (show 0<=o.c0 by omega)
   generalize ad:sn (fun j=>(m5 k s ⟨kind,(mc k e4),order,v⟩ j).isDone) (k.aM-s.made-(wc+1)) (wc+1)=m
   have af5:=LR (fun j=>(m5 k s ⟨kind,(mc k e4),order,v⟩ j).isDone) (k.aM-s.made-(wc+1)) (wc+1)
   rw[ad] at af5
   conv=>whnf
   repeat'((first
    |(show ih _ _ _ _;first|(refine IS ?_)|(refine NM ?_)|(refine IS ?_)|(refine NM ?_))
    |(show bk _ _ _ _;first|(refine uS ?_)|(refine IM ?_)|(refine uS ?_)|(refine IM ?_))
    |(show eS _ _;first|(refine eS.go ?_))
    |(show gN _ _ _;first|(refine gN.mk (ie.refl _) ?_)|(refine gN.mk (ie.imp (aJ.sub cn)) ?_))
    |(show _/\_;first|(refine And.intro ?_ ?_))
    |(show eB _ _ _ _;first|(refine st ?_))
    |(refine hy.go ?_)
    |(refine pE.go ?_)
    |(refine ba.dec (fun ab=>?_) (fun ab=>?_)<;>try(exfalso;omega))
    |(refine ba.v7 (fun ab=>?_) (fun ab=>?_)<;>try(exfalso;omega))
    |(refine ba.sk (fun ab=>?_) (fun ab=>?_)<;>try(exfalso;omega))
    |(refine ba.sM (fun ab=>?_) (fun ab=>?_)<;>try(exfalso;omega))
    |(refine ba.Uy (fun ab=>?_) (fun ab=>?_))
    |(refine ba.intro (fun ab=>?_) (fun ab=>?_)))<;>(try conv=>whnf))
   refine abf zd (I2 (j:=wc) (op:=⟨kind,(mc k e4),order,v⟩) h ((AG cU cj a0 hH M).more _) S S ?_)
   cases R6:m5 k s ⟨kind,(mc k e4),order,v⟩ wc with
   |ask ri=>
    have jw:m4 k kind e4 order v s= .ok ({o with c0:=cB (o.c0+s.made)},yw (eL k.la e4 0) (mc k e4) ri) {s with made:=s.made+m,gone:=gs}:=by
     rw[m4,E5 eb,<-za,xe]
     simp only[zd,r8,R6,ad]
     exact if_neg S
    conv=>whnf
    repeat'((first
     |(show ih _ _ _ _;first|(refine IS ?_)|(refine NM ?_)|(refine IS ?_)|(refine NM ?_))
     |(show bk _ _ _ _;first|(refine uS ?_)|(refine IM ?_)|(refine uS ?_)|(refine IM ?_))
     |(show eS _ _;first|(refine eS.go ?_))
     |(show gN _ _ _;first|(refine gN.mk (ie.refl _) ?_)|(refine gN.mk (ie.imp (aJ.sub cn)) ?_))
     |(show _/\_;first|(refine And.intro ?_ ?_))
     |(show eB _ _ _ _;first|(refine st ?_))
     |(refine hy.go ?_)
     |(refine pE.go ?_)
     |(refine ba.dec (fun ab=>?_) (fun ab=>?_)<;>try(exfalso;omega))
     |(refine ba.v7 (fun ab=>?_) (fun ab=>?_)<;>try(exfalso;omega))
     |(refine ba.sk (fun ab=>?_) (fun ab=>?_)<;>try(exfalso;omega))
     |(refine ba.sM (fun ab=>?_) (fun ab=>?_)<;>try(exfalso;omega))
     |(refine ba.Uy (fun ab=>?_) (fun ab=>?_))
     |(refine ba.intro (fun ab=>?_) (fun ab=>?_)))<;>(try conv=>whnf))
    have aeQ:(m5 k s ⟨kind,(mc k e4),order,v⟩ (k.aM-s.made)).isDone=true:=by rw[xe];rfl
    refine c9.on (X:=Nat×Option (Option Addr×Nat×List cz)) (fun x=> [(5,.v (ae cU)),(10,.p 10 0),(11,.p 11 0),(15,.v (.func (.func 303) #[] #[ae cU,ae cj,ae a0,ae hH])),(17,.p 17 0),(18,.v (.bool x.2.isSome)),(19,.p 19 0),(22,.v (J (x.1:Int)))]) (fun _=> [(10,145,[J 0,.bool false,J 0,J 0,.slice none 0 0]),(11,136,[J 0,J 0,J 0,J 0]),(17,145,lp o br gs.length bz),(19,136,(c4.l (yw (eL k.la e4 0) (mc k e4) ri)))]) (fun x=>Y H az aF (fB k cv s g p (VV x.2 ((F5 br gs bz)::Hm k s p e4 [J kind,J (mc k e4),J order,J v] cU cj a0 hH M)))) (fun x=>(x.2=none->x.1<=k.aM-s.made/\sn (fun j=>(m5 k s ⟨kind,(mc k e4),order,v⟩ j).isDone) (k.aM-s.made-x.1) x.1=m)/\(x.2.isSome=true->x.1=m+1)) (fun x=>if x.2.isSome=true then 0 else k.aM-s.made+1-x.1) (wc+1,none) ⟨fun _=>⟨by show wc+1<=_;omega,ad⟩,fun e=>by cases e⟩ ⟨rfl,rfl,rfl,rfl,rfl,rfl,rfl,(by show cD.v (J (IntKind.i64.wrap (o.c0+1)))=_;rw[zd];exact eD S),trivial⟩ ⟨rfl,rfl,rfl,rfl,trivial⟩ ?_
    rintro⟨j,d⟩ iC ⟨Md,Me⟩
    cases d with
    |none=>
     obtain⟨a9,aK⟩:=Md rfl
     dsimp only at a9 aK
     conv=>whnf
     refine I2 (j:=j) (op:=⟨kind,(mc k e4),order,v⟩) h ((AG cU cj a0 hH M).more _) S S ?_
     cases xf:m5 k s ⟨kind,(mc k e4),order,v⟩ j with
     |ask sd=>
      have sy:j<k.aM-s.made:=by
       rcases pB j (k.aM-s.made) with O|O
       ·exact O
       ·have:j=k.aM-s.made:=by omega
        rw[this,xe] at xf;cases xf
      rw[show k.aM-s.made-j=(k.aM-s.made-(j+1))+1 by omega,Rw (by rw[xf];rfl)] at aK
      conv=>whnf
      exact zQ
     |done bl RY=>
      rw[Rx (by rw[xf];rfl)] at aK
      intro da c7 qz xb
      conv=>whnf
      exact zQ
    |some r=>
     have CV:j=m+1:=Me rfl
     subst CV
     dsimp only
     conv=>whnf
     exact zQ
   |done aQ aev=>
    have jw:m4 k kind e4 order v s= .ok ({o with c0:=cB (o.c0+s.made)},⟨0,0,0,0⟩) {s with made:=s.made+m,gone:=gs}:=by
     rw[m4,E5 eb,<-za,xe]
     simp only[zd,r8,R6,ad]
     exact if_neg S
    intro bf bA ka iz
    conv=>whnf
    repeat'((first
     |(show ih _ _ _ _;first|(refine IS ?_)|(refine NM ?_)|(refine IS ?_)|(refine NM ?_))
     |(show bk _ _ _ _;first|(refine uS ?_)|(refine IM ?_)|(refine uS ?_)|(refine IM ?_))
     |(show eS _ _;first|(refine eS.go ?_))
     |(show gN _ _ _;first|(refine gN.mk (ie.refl _) ?_)|(refine gN.mk (ie.imp (aJ.sub cn)) ?_))
     |(show _/\_;first|(refine And.intro ?_ ?_))
     |(show eB _ _ _ _;first|(refine st ?_))
     |(refine hy.go ?_)
     |(refine pE.go ?_)
     |(refine ba.dec (fun ab=>?_) (fun ab=>?_)<;>try(exfalso;omega))
     |(refine ba.v7 (fun ab=>?_) (fun ab=>?_)<;>try(exfalso;omega))
     |(refine ba.sk (fun ab=>?_) (fun ab=>?_)<;>try(exfalso;omega))
     |(refine ba.sM (fun ab=>?_) (fun ab=>?_)<;>try(exfalso;omega))
     |(refine ba.Uy (fun ab=>?_) (fun ab=>?_))
     |(refine ba.intro (fun ab=>?_) (fun ab=>?_)))<;>(try conv=>whnf))
    have aeQ:(m5 k s ⟨kind,(mc k e4),order,v⟩ (k.aM-s.made)).isDone=true:=by rw[xe];rfl
    refine c9.on (X:=Nat×Option (Option Addr×Nat×List cz)) (fun x=> [(5,.v (ae cU)),(10,.p 10 0),(11,.p 11 0),(15,.v (.func (.func 303) #[] #[ae cU,ae cj,ae a0,ae hH])),(17,.p 17 0),(18,.v (.bool x.2.isSome)),(19,.p 19 0),(22,.v (J (x.1:Int)))]) (fun _=> [(10,145,[J 0,.bool false,J 0,J 0,.slice none 0 0]),(11,136,[J 0,J 0,J 0,J 0]),(17,145,lp o br gs.length bz),(19,136,[J 0,J 0,J 0,J 0])]) (fun x=>Y H az aF (fB k cv s g p (VV x.2 ((F5 bf aev bA)::((F5 br gs bz)::Hm k s p e4 [J kind,J (mc k e4),J order,J v] cU cj a0 hH M))))) (fun x=>(x.2=none->x.1<=k.aM-s.made/\sn (fun j=>(m5 k s ⟨kind,(mc k e4),order,v⟩ j).isDone) (k.aM-s.made-x.1) x.1=m)/\(x.2.isSome=true->x.1=m+1)) (fun x=>if x.2.isSome=true then 0 else k.aM-s.made+1-x.1) (wc+1,none) ⟨fun _=>⟨by show wc+1<=_;omega,ad⟩,fun e=>by cases e⟩ ⟨rfl,rfl,rfl,rfl,rfl,rfl,rfl,(by show cD.v (J (IntKind.i64.wrap (o.c0+1)))=_;rw[zd];exact eD S),trivial⟩ ⟨rfl,rfl,rfl,rfl,trivial⟩ ?_
    rintro⟨j,d⟩ iC ⟨Md,Me⟩
    cases d with
    |none=>
     obtain⟨a9,aK⟩:=Md rfl
     dsimp only at a9 aK
     conv=>whnf
     refine I2 (j:=j) (op:=⟨kind,(mc k e4),order,v⟩) h (((AG cU cj a0 hH M).more _).more _) S S ?_
     cases xf:m5 k s ⟨kind,(mc k e4),order,v⟩ j with
     |ask sd=>
      have sy:j<k.aM-s.made:=by
       rcases pB j (k.aM-s.made) with O|O
       ·exact O
       ·have:j=k.aM-s.made:=by omega
        rw[this,xe] at xf;cases xf
      rw[show k.aM-s.made-j=(k.aM-s.made-(j+1))+1 by omega,Rw (by rw[xf];rfl)] at aK
      conv=>whnf
      exact zQ
     |done bl RY=>
      rw[Rx (by rw[xf];rfl)] at aK
      intro da c7 qz xb
      conv=>whnf
      exact zQ
    |some r=>
     have CV:j=m+1:=Me rfl
     subst CV
     dsimp only
     conv=>whnf
     exact zQ
):P:=h
namespace Qh
abbrev mc(k:aI)(_:Int):Int:=k.la.done
theorem E5{c:Prop}{_:Decidable c}{ck:Type}{a b:ck}(h:c):(if c then a else b)=a:=if_pos h
theorem NJ {k:aI} {cv:Int} {s:aq} {g:cg} {p:Nat} {kind e4 order v:Int} (eb:eL k.la e4 0<0) (h:bc H k s g) (ab:s.gone.length+k.log.length<=1000000)
  (aC:∀x s' bH A n c,m4 k kind e4 order v s= .ok x s'->bc H k s' bH->K (.tuple #[.agg (lp x.1 A n c).toArray,.agg x.2.l.toArray]) (Y H w0 X (fB k cv s' bH p M)))
  (cl:∀a,m4 k kind e4 order v s= .ask a->Z (rk a) (Y H w0 X (fB k cv s g p M))):a4 H w0 X (fB k cv s g p M) 263 #[ae p,J kind,J e4,J order,J v] K Z:=by
 exact U0
end Qh
namespace Qi
abbrev mc(k:aI)(d:Int):Int:=eL k.la d 0
theorem E5{c:Prop}{_:Decidable c}{ck:Type}{a b:ck}(h:¬c):(if c then a else b)=b:=if_neg h
theorem NJ {k:aI} {cv:Int} {s:aq} {g:cg} {p:Nat} {kind e4 order v:Int} (eb:¬eL k.la e4 0<0) (h:bc H k s g) (ab:s.gone.length+k.log.length<=1000000)
  (aC:∀x s' bH A n c,m4 k kind e4 order v s= .ok x s'->bc H k s' bH->K (.tuple #[.agg (lp x.1 A n c).toArray,.agg x.2.l.toArray]) (Y H w0 X (fB k cv s' bH p M)))
  (cl:∀a,m4 k kind e4 order v s= .ask a->Z (rk a) (Y H w0 X (fB k cv s g p M))):a4 H w0 X (fB k cv s g p M) 263 #[ae p,J kind,J e4,J order,J v] K Z:=by
 exact U0
end Qi
theorem TW {k:aI} {cv:Int} {s:aq} {g:cg} {p:Nat} {kind e4 order v:Int} (h:bc H k s g) (ab:s.gone.length+k.log.length<=1000000)
  (aC:∀x s' bH A n c,m4 k kind e4 order v s= .ok x s'->bc H k s' bH->K (.tuple #[.agg (lp x.1 A n c).toArray,.agg x.2.l.toArray]) (Y H w0 X (fB k cv s' bH p M)))
  (cl:∀a,m4 k kind e4 order v s= .ask a->Z (rk a) (Y H w0 X (fB k cv s g p M))):a4 H w0 X (fB k cv s g p M) 263 #[ae p,J kind,J e4,J order,J v] K Z:=by
 by_cases eb:eL k.la e4 0<0
 ·exact Qh.NJ eb h ab aC cl
 ·exact Qi.NJ eb h ab aC cl
end
theorem as2 {P:Prop} (h:P:=by
 repeat'((first
  |(show ih _ _ _ _;first|(refine gE (by repeat(first|exact List.Mem.head _|refine dr _ ?_|exact db _ O)) aD W W ?_)|(refine gE (by repeat(first|exact List.Mem.head _|refine dr _ ?_|exact db _ V)) aD W W ?_)|(refine p0 (by repeat(first|exact List.Mem.head _|refine dr _ ?_|exact db _ O)) aD W ?_)|(refine p0 (by repeat(first|exact List.Mem.head _|refine dr _ ?_|exact db _ V)) aD W ?_))
  |(show ay _ _ _ _ _ _;first|(refine QX h.la (fun v ah=>?_);subst ah)|(refine Cp (a:=⟨1,Cj k.la cv b,0,0⟩) h (fun w s1 e1 ll mJ rz=>?_) (fun e=>?_);(have Fl:=ll.made;have CX:=congrArg List.length rz))|(refine tJ ?_)|(refine amK aT AD (fun v ah=>?_);subst ah)|(refine adi ?_)|(refine TW (kind:=2) sE fj (fun x bu kT da jg c7 cR AU=>?_) (fun a e=>?_);(have o9:=IQ ai iR.2.2 cR))|(refine arz (o:=x.1) (acc:=x.2) AU (fun hi=>o9.2.2.2 rfl av hi) (fun v ah=>?_);subst ah)|(refine uW (r:=⟨zJ k x,false,0⟩) ?_)|(refine Cp (a:=⟨3,Cj k.la cv b,0,jB ⟨zJ k x,false,0⟩⟩) AU (fun y cw dR ML CY Fb=>?_) (fun e=>?_)))
  |(show bk _ _ _ _;first|(refine fv (by repeat(first|exact List.Mem.head _|refine dr _ ?_|exact db _ O)) aD W W ?_)|(refine fv (by repeat(first|exact List.Mem.head _|refine dr _ ?_|exact db _ V)) aD W W ?_)|(refine ke (by repeat(first|exact List.Mem.head _|refine dr _ ?_|exact db _ O)) aD W ?_)|(refine ke (by repeat(first|exact List.Mem.head _|refine dr _ ?_|exact db _ V)) aD W ?_))
  |(show ff _ _ _ _ _;first|(refine qO 3 0 W rfl bP aD W W ?_))
  |(refine ba.sk (a:=b) (b:=0) (fun nU=>?_) (fun nU=>?_)<;>(try subst nU))
  |(refine cy (nC b) s1 _ _ _ _ _ (uK nU).1 (uK nU).2.1 (uK nU).2.2 ll (y5 nU s1 CX).1 (fun a aV gr bf cN bA e2 sE=>?_) (fun a s' bH e ak=>?_);(have iR:=Lb ai f (nC b) s1 a aV (uK nU).1 (uK nU).2.1 Fl e2;have fj:=(y5 nU s1 CX).2 aV iR.1))
  |(refine hD (cl _ _ _ ?_ av);(clear cy aC cl uK y5;simp only[mf,ax.cx,ax.dq,ne_eq,dm,cZ,not_true_eq_false,not_false_eq_true,reduceCtorEq,wN,eq_self, *];done))
  |(refine cA (aC ((fq w.1).idx,⟨0,false,0,0⟩) _ _ _ _ _ ?_ av);(clear cy aC cl uK y5;simp only[mf,ax.cx,ax.dq,ne_eq,dm,cZ,not_true_eq_false,not_false_eq_true,reduceCtorEq,wN,eq_self, *];done))
  |(refine cA (aC (0,⟨0,false,1, -1⟩) _ _ _ _ _ ?_ av);(clear cy aC cl uK y5;simp only[mf,ax.cx,ax.dq,ne_eq,dm,cZ,not_true_eq_false,not_false_eq_true,reduceCtorEq,wN,eq_self, *];done))
  |(refine cA (aC (0,a.2) _ _ _ _ _ ?_ av);(clear cy aC cl uK y5;simp only[mf,ax.cx,ax.dq,ne_eq,dm,cZ,not_true_eq_false,not_false_eq_true,reduceCtorEq,wN,eq_self, *];done))
  |(refine cA (aC (0,x.1) _ _ _ _ _ ?_ av);(clear cy aC cl uK y5;simp only[mf,ax.cx,ax.dq,ne_eq,dm,cZ,not_true_eq_false,not_false_eq_true,reduceCtorEq,wN,eq_self, *];done))
  |(refine cA (aC (zJ k x,⟨0,false,0,0⟩) _ _ _ _ _ ?_ av);(clear cy aC cl uK y5;simp only[mf,ax.cx,ax.dq,ne_eq,dm,cZ,not_true_eq_false,not_false_eq_true,reduceCtorEq,wN,eq_self, *];done))
  |refine eg ?_
  |(refine eh ?_ ?_<;>(try with_reducible intro ab)<;>(try(exfalso;omega)))
  |with_reducible intro r)<;>(try conv=>whnf))):P:=h
theorem aeC{k:aI}{slot cell:Int}{s s':aq}{w:Int×Int}(h:qy k slot cell s= .ok w s'):0<=w.2:=by
 have O:=L2 h
 have V:=(m1 Az) _ _ h
 refine zn (I:=fun _ _=>True) (Q:=fun w s'=>0<=w.2) (fun x s _ r s' h=>?_) _ _ _ trivial _ _ h
 obtain⟨v,s1,e1,h⟩:=ax.and_eq h
 obtain⟨e,aV,e2,h⟩:=ax.and_eq h
 have hk:=xC e1
 split at h
 ·injection h with O V
  subst O V
  simp only[Sum.elim_inl]
  omega
 ·obtain⟨u,bu,cR,h⟩:=ax.and_eq h
  injection h with O V
  subst O V
  exact trivial
theorem ad0{k:aI}{head o:Int}{s s':aq}{f:hQ}(h:uD k head o s= .ok f s'):f.there=true->0<=f.c0:=by
 have ej:∀(a b c:Int) (f:hQ) (s:aq),f.there=false->Sum.elim (fun f:hQ=>f.there=true->0<=f.c0) (fun x:Option nH=> ∀q,x=some q->q.f.there=false) (qL a b c f):=fun a b c f s aK=>by
  unfold qL
  split
  ·exact fun e=>by rw[aK] at e;cases e
  ·intro q e;injection e with e;subst e;exact aK
 refine zn (I:=fun(x:Option nH) _=> ∀q,x=some q->q.f.there=false) (Q:=fun f _=>f.there=true->0<=f.c0) (fun x s cM r s' h=>?_) _ none _ (fun q e=>by cases e) _ _ h
 cases x with
 |none=>
  obtain⟨w,s1,e1,h⟩:=ax.and_eq h
  injection h with O V
  subst O V
  exact ej _ _ _ _ s rfl
 |some q=>
  have uM:=cM q rfl
  obtain⟨w,s1,e1,h⟩:=ax.and_eq h
  obtain⟨seen,aV,e2,h⟩:=ax.and_eq h
  split at h
  ·obtain⟨order,bu,cR,h⟩:=ax.and_eq h
   unfold ti at h
   split at h
   ·obtain⟨c,cw,dR,h⟩:=ax.and_eq h
    split at h
    ·obtain⟨u,fF,gj,h⟩:=ax.and_eq h
     injection h with O V
     subst O V
     exact ej _ _ _ _ s uM
    ·injection h with O V
     subst O V
     intro q e;cases e
   ·split at h
    ·injection h with O V
     subst O V
     exact ej _ _ _ _ s uM
    ·split at h
     ·injection h with O V
      subst O V
      exact fun _=>aeC e1
     ·injection h with O V
      subst O V
      exact fun e=>by have e:q.f.there=true:=e;rw[uM] at e;cases e
  ·injection h with O V
   subst O V
   intro q e;cases e
theorem anV{k:aI}{head o v:Int}{s s':aq}{r:cI}(h:sQ k head o v s= .ok r s'):r.err=0->r.eG=false->0<=r.c0:=by
 have aA:∀(f:hQ) (n:Int) (s s':aq) (r:cI ⊕ Int),tO k f n s= .ok r s'->Sum.elim (fun r:cI=>r.err=0->r.eG=false->0<=r.c0) (fun _=>True) r:=fun f n s s' r h=>by
  obtain⟨u,s1,e1,h⟩:=ax.and_eq h
  obtain⟨c,aV,e2,h⟩:=ax.and_eq h
  split at h
  ·obtain⟨u,bu,cR,h⟩:=ax.and_eq h
   injection h with O V
   subst O V
   exact fun _ e=>by cases e
  ·injection h with O V
   subst O V
   exact trivial
 refine zn (I:=fun _ _=>True) (Q:=fun r _=>r.err=0->r.eG=false->0<=r.c0) (fun x s _ r s' h=>?_) _ _ _ trivial _ _ h
 obtain⟨f,s1,e1,h⟩:=ax.and_eq h
 split at h
 ·rename_i uM
  have IX:=ad0 e1 uM
  split at h
  ·obtain⟨u,aV,e2,h⟩:=ax.and_eq h
   injection h with O V
   subst O V
   exact fun _ _=>IX
  ·obtain⟨u,aV,e2,h⟩:=ax.and_eq h
   obtain⟨Gq,bu,cR,h⟩:=ax.and_eq h
   injection h with O V
   subst O V
   exact fun _ _=>IX
 ·split at h
  ·obtain⟨t,aV,e2,h⟩:=ax.and_eq h
   split at h
   ·obtain⟨u,bu,cR,h⟩:=ax.and_eq h
    obtain⟨Gq,cw,dR,h⟩:=ax.and_eq h
    exact aA _ _ _ _ _ h
   ·obtain⟨u,bu,cR,h⟩:=ax.and_eq h
    injection h with O V
    subst O V
    exact fun e=>by cases e
  ·exact aA _ _ _ _ _ h
theorem akO{k:aI}{gs gv:List cz}{op:dp}{o:cI}(h:jy k gs op= .done o gv)(V:op.o0=2)(af:o.err=0)(hi:o.eG=false):0<=o.c0:=by
 have ref:e9.done o gv=m9 gs->0<=o.c0:=fun e=>by
  injection e with e1 e2
  subst e1
  cases af
 unfold jy at h
 split at h
 ·exact ref h.symm
 ·rw[if_neg (show ¬op.o0=1 by omega)] at h
  cases e:sQ k op.o1 op.aQ op.bl (aq.start gs) with
  |ask a=>rw[e] at h;cases h
  |ok r s'=>
   rw[e] at h
   injection h with e1 e2
   subst e1
   exact anV e af hi
theorem IQ{k:aI}{kind e4 order v:Int}{s s':aq}{x:cI×c4}(ai:k.log.length<=10000)(Su:s.made<=k.log.length)(h:m4 k kind e4 order v s= .ok x s'):s'.gone.length<=s.gone.length+k.log.length/\s.made<=s'.made/\s'.made<=k.log.length/\(kind=2->x.1.err=0->x.1.eG=false->0<=x.1.c0/\x.1.c0+2<k.log.length):=by
 unfold m4 at h
 split at h
 ·cases h
 ·rename_i o gs jT
  obtain⟨hl,j1,p3⟩:=T0 S jT
  split at h
  ·rename_i ts
   injection h with O V
   subst O V
   exact⟨by omega,Nat.le_refl _,Su,fun U af hi=>by have:=akO jT U af hi;omega⟩
  ·injection h with O V
   subst O V
   have:=LR (fun j=>(m5 k s ⟨kind,(if eL k.la e4 0<0 then k.la.done else eL k.la e4 0),order,v⟩ j).isDone) (k.log.length-s.made-(o.c0.toNat+1)) (o.c0.toNat+1)
   refine⟨by show gs.length<=_;omega,by show s.made<=s.made+_;omega,by show s.made+_<=_;omega,fun U af hi=>?_⟩
   have lq:=j1 U af hi
   show 0<=IntKind.i64.wrap (o.c0+s.made)/\IntKind.i64.wrap (o.c0+s.made)+2<k.log.length
   rw[cK S]
   omega
def mf(k:aI)(cv:Int):Nat->Int->aq->ax (Int×cI)
 |0,_,_=> .ask ⟨0,0,0,0⟩
 |f+1,b,s=>(hp k ⟨1,Cj k.la cv b,0,0⟩ s).and fun w s1=>if(fq w.1).idx≠0 then .ok ((fq w.1).idx,⟨0,false,0,0⟩) s1 else if b=0 then .ok (0,⟨0,false,1, -1⟩) s1 else
  (mf k cv f (nC b) s1).and fun a aV=>if a.2.err≠0 then .ok (0,a.2) aV else(m4 k 2 a.1 (Rk b) 0 aV).and fun x bu=>if x.1.err≠0 then .ok (0,x.1) bu else
  (hp k ⟨3,Cj k.la cv b,0,jB ⟨zJ k x,false,0⟩⟩ bu).and fun _ cw=> .ok (zJ k x,⟨0,false,0,0⟩) cw
theorem Lb{k:aI}{cv:Int}(ai:k.log.length<=10000):∀(f:Nat) (b:Int) (s:aq) (x:Int×cI) (s':aq),0<=b->b<64->s.made<=k.log.length->mf k cv f b s= .ok x s'->s'.gone.length<=s.gone.length+10000*b.toNat/\s.made<=s'.made/\s'.made<=k.log.length
 |0,_,_,_,_,_,_,_,h=>by cases h
 |f+1,b,s,x,s',aT,O,ad,h=>by
  unfold mf at h
  obtain⟨w,s1,e1,h⟩:=ax.and_eq h
  have hk:=sj e1
  split at h
  ·injection h with _ h;subst h;rw[hk.2.1];omega
  ·split at h
   ·injection h with _ h;subst h;rw[hk.2.1];omega
   ·obtain⟨a,aV,e2,h⟩:=ax.and_eq h
    have bh:=Jb (b:=b) S O
    have iR:=Lb ai f (nC b) s1 a aV bh.1 S hk.2.2 e2
    rw[hk.2.1] at iR
    split at h
    ·injection h with _ h;subst h;omega
    ·obtain⟨y,bu,cR,h⟩:=ax.and_eq h
     have o9:=IQ ai iR.2.2 cR
     split at h
     ·injection h with _ h;subst h;omega
     ·obtain⟨z,cw,dR,h⟩:=ax.and_eq h
      have pa:=sj dR
      injection h with _ h;subst h;rw[pa.2.1];omega
section
theorem acA{k:aI}{cv:Int}{p cU KR:Nat}(ai:k.log.length<=10000)(O:(ae cU,aY.cs 293 [ae p])∈M)(V:(ae KR,aY.cs 302 [.func (.func 299) #[] #[ae cU,ae KR]])∈M):∀(f:Nat) (b:Int) (s:aq) (g:cg) (w0:World) (X:Nat->Prop) (K:Value->an->Prop) (Z:bF),0<=b->b<64->b<f->bc H k s g->s.gone.length+10000*(b.toNat+1)<=1000000->
  (∀x s' bH A n c,mf k cv f b s= .ok x s'->bc H k s' bH->K (.tuple #[J x.1,.agg (lp x.2 A n c).toArray]) (Y H w0 X (fB k cv s' bH p M)))->
  (∀a s' bH,mf k cv f b s= .ask a->bc H k s' bH->Z (rk a) (Y H w0 X (fB k cv s' bH p M)))->
  a4 H w0 X (fB k cv s g p M) 299 #[J b,ae cU,ae KR] K Z:=by
 intro f
 induction f with
 |zero=>intro b s g w0 X K Z aT AD ru;omega
 |succ f cy=>
  intro b s g w0 X K Z aT AD ru h ab aC cl
  have uK:b≠0->0<=nC b/\nC b<64/\nC b<f:=fun aB=>by
   have:=Jb (b:=b) S AD
   omega
  have y5:b≠0->∀s1:aq,s1.gone.length=s.gone.length->s1.gone.length+10000*((nC b).toNat+1)<=1000000/\∀aV:aq,aV.gone.length<=s1.gone.length+10000*(nC b).toNat->aV.gone.length+k.log.length<=1000000:=fun aB s1 e1=>by
   have:=Jb (b:=b) S AD
   refine⟨by omega,fun aV e2=>by omega⟩
  clear ab ru
  refine a7 aoo ?_
  intro az aF
  conv=>whnf
  exact as2
end
theorem PQ {P:Prop} (h:P:=by
 repeat'((first
  |(show ay _ _ _ _ _ _;first|(refine uy h aB ad b3 (fun br bz dS ep=>?_)))
  |(show ff _ _ _ _ _;first|(refine FN W W aD W ?_))
  |(refine p9 b7 aD W ?_)
  |(refine sR b7 aD W W ?_)
  |(exact c1 (cl a (by rw[e];rfl)) (.cons _ (.cons _ (.cons _ (.cons _ (.refl _))))))
  |(exact hy.drop _ (List.Sublist.refl _) U)
  |(exact cA (U _ _ dS ep))
  |refine eg ?_
  |(refine eh ?_ ?_)
  |with_reducible intro r)<;>(try conv=>whnf))):P:=h
theorem aql{H:World}{k:aI}{cv:Int}{s:aq}{g:cg}{p:Nat}{M:aw}(h:bc H k s g):s4 H (fB k cv s g p M) g.A g.n g.c s.gone:=by
 cases aU:g.own with
 |false=>exact .inl (h.ea aU)
 |true=>exact .inr (by simp[fB,eY,aU])
section
theorem VN{A:Option Addr}{n c:Nat}{gs:List cz}(h:s4 H M A n c gs)(aB:n=gs.length)(ad:n<=1000000000)(b3:A=none->n=0)(U:∀aR aN,n<=aN->(0<aN->∃b,aR=some ⟨b,0,none⟩)->K (.tuple #[.agg #[J 0,J 0,J 0,J 0],.agg #[J 0,.bool false,J 1,J (-1),.slice aR n aN],.bool true]) (Y H w0 X ((.slice aR n aN,.row 187 2 (gs.flatMap ft))::M))):a4 H w0 X M 258 #[.slice A n c] K Z:=by
 refine a7 aof ?_
 intro az aF
 conv=>whnf
 exact PQ
abbrev Vc(df cU cj el:Nat):Deferred:={target:= .fn (.func 298) #[ae df,ae cU,ae cj,ae el],args:=#[]}
def FZ(df cU cj el p:Nat)(acc:List Value)(M:aw):aw:=(ae el,.cs 4 [.bool false])::(ae cj,.cs 145 [J 0,.bool false,J 0,J 0,.slice none 0 0])::(ae df,.cs 136 acc)::(ae cU,.cs 293 [ae p])::M
theorem aoG{a:c4}{df cU cj el p:Nat}{K:FrameMode->an->Prop}(U:K (.panicking [{v:= .iface 323 (.agg a.l.toArray),recovered:=true}]) (Y H w0 X (FZ df cU cj el p a.l M))):
  h0 Tryz.prog (Y H w0 X (FZ df cU cj el p [J 0,J 0,J 0,J 0] M)) (Vc df cU cj el) (.panicking (rk a)) K:=by
 refine yI e8 i6 Vs VY W bP (args:=[ae df,ae cU,ae cj,ae el]) W rfl rfl ?_
 intro az aF
 conv=>whnf
 refine zA false (.inr ⟨_,_,rfl,rfl⟩) rfl bP ?_
 conv=>whnf
 exact PQ
theorem aoK{df cU cj el:Nat}{K:FrameMode->an->Prop}(U:K .returning (Y H w0 X M)):h0 Tryz.prog (Y H w0 X M) (Vc df cU cj el) .returning K:=by
 refine yI e8 i6 Vs VY W bP (args:=[ae df,ae cU,ae cj,ae el]) W rfl rfl ?_
 intro az aF
 conv=>whnf
 refine zA true (.inl ⟨rfl,rfl⟩) rfl bP ?_
 conv=>whnf
 exact hy.drop _ (List.Sublist.refl _) U
theorem ank {k:aI} {cv:Int} {s:aq} {g:cg} {p:Nat} {R:ax cI} {nS:FuncId} {kl:List Value} (h:bc H k s g)
  (bh:∀(w0:World) (X:Nat->Prop) (aE:aw) (K:Value->an->Prop) (Z:bF),List.Sublist M aE->(∀o s' bH A n c,R= .ok o s'->bc H k s' bH->K (.agg (lp o A n c).toArray) (Y H w0 X (fB k cv s' bH p aE)))->(∀a s' bH,R= .ask a->bc H k s' bH->Z (rk a) (Y H w0 X (fB k cv s' bH p aE)))->a4 H w0 X (fB k cv s g p aE) nS kl.toArray K Z)
  (aC:∀o gs aR aN,e9.of R= .done o gs->gs.length<=aN->(0<aN->∃b,aR=some ⟨b,0,none⟩)->K (.tuple #[.agg #[J 0,J 0,J 0,J 0],.agg #[J o.val,.bool o.eG,J o.err,J o.c0,.slice aR gs.length aN],.bool true]) (Y H w0 X ((.slice aR gs.length aN,.row 187 2 (gs.flatMap ft))::M)))
  (cl:∀a,e9.of R= .ask a->K (.tuple #[.agg a.l.toArray,.agg #[J 0,.bool false,J 0,J 0,.slice none 0 0],.bool false]) (Y H w0 X M)):a4 H w0 X (fB k cv s g p M) 259 #[ae p,.func (.func nS) #[] kl.toArray] K Z:=by
 refine sH e8 i6 aog W ?_
 intro az aF
 conv=>whnf
 refine h2 _ rfl (fun cU=>?_)
 conv=>whnf
 refine hT aD _ rfl (fun df=>?_)
 conv=>whnf
 refine hT aD _ rfl (fun cj=>?_)
 conv=>whnf
 refine hT aD _ rfl (fun el=>?_)
 conv=>whnf
 refine kZ W ?_
 conv=>whnf
 rw[mI]
 conv=>whnf
 refine ay.imp (aE:=fB k cv s g p (FZ df cU cj el p [J 0,J 0,J 0,J 0] M)) (aJ.JK (_::eY g s) M) (bh _ _ _ _ _ (.cons _ (.cons _ (.cons _ (.cons _ (.refl _))))) (fun o s' bH aub awL pI e ak=>?_) (fun a s' bH e ak=>?_))
 ·conv=>whnf
  refine eB.imp (aE:=FZ df cU cj el p [J 0,J 0,J 0,J 0] (fB k cv s' bH p M)) (aJ.Pl (_::eY bH s') M) (st ?_)
  conv=>whnf
  have kp:bH.n<=1000000000:=by have:=ak.fh;have:=ak.pO;have:=ak.made;have:=ak.lm;omega
  repeat'((first
   |(show ay _ _ _ _ _ _;first|(refine uy ((aql ak).more (.cons _ (.cons _ (.cons _ (.cons _ (.refl _)))))) ak.fh kp ak.pP (fun br bz dS ep=>?_)))
   |(show h0 _ _ _ _ _;first|(refine aoK ?_))
   |(show eS _ _;first|(refine eS.go ?_))
   |(show _/\_;first|(refine And.intro ?_ ?_))
   |(show gN _ _ _;first|(refine gN.mk (ie.refl _) ?_))
   |(show ih _ _ _ _;first|(refine IS ?_)|(refine NM ?_))
   |(show bk _ _ _ _;first|(refine uS ?_)|(refine IM ?_))
   |(show eB _ _ _ _;first|(refine st ?_))
   |(refine p9 b7 aD W ?_)
   |(refine sR b7 aD W W ?_)
   |(intro r jN)
   |(refine hy.go ?_)
   |(refine pE.go ?_))<;>(try conv=>whnf))
  all_goals
   have U:=aC o s'.gone br bz (by rw[e];rfl) (by rw[<-ak.fh];exact dS) ep
   rw[<-ak.fh] at U
   exact c1 U (.cons_cons _ (.cons _ (.cons _ (.cons _ (.cons _ (.cons _ (od _ _)))))))
 ·conv=>whnf
  refine h0.imp (aE:=FZ df cU cj el p [J 0,J 0,J 0,J 0] M) (aJ.sub (od (_::eY bH s') _)) (aoG ?_)
  conv=>whnf
  exact PQ
end
theorem XA {P:Prop} (h:P:=by
 repeat'((first
  |(show bk _ _ _ _;first|(refine hT aD _ rfl ?_;intro _)|(refine h2 _ rfl ?_;intro _)|(refine fv (dn bh) aD W W ?_)|(refine ke (dn bh) aD W ?_)|(refine fv (by repeat(first|exact List.Mem.head _|refine dr _ ?_|refine db _ ?_)) aD W W ?_)|(refine ke (by repeat(first|exact List.Mem.head _|refine dr _ ?_|refine db _ ?_)) aD W ?_))
  |(show ay _ _ _ _ _ _;first|(refine Dk kV (fun v ah=>?_);subst ah)|(refine ay.imp (aE:=fB k cv s g p (_::_::M)) (aJ.swap (fU:=[_,_]) (cX:=_::eY g s)) (acA ai (dr _ (List.Mem.head _)) (List.Mem.head _) 64 b s g _ _ _ _ aT AD AD h ab (fun x s' bH A n c e ak=>?_) (fun a s' bH e ak=>?_))))
  |(show ff _ _ _ _ _;first|(refine kZ W ?_)|(refine IY W (fun b=>?_))|(refine T4 (kt:=3) (et:=89) (kH:= .i64) (.inl rfl) W W mw bP bP W W ?_))
  |(show ih _ _ _ _;first|(refine gE (dn bh) aD W W ?_)|(refine p0 (dn bh) aD W ?_)|(refine gE (by repeat(first|exact List.Mem.head _|refine dr _ ?_|refine db _ ?_)) aD W W ?_)|(refine p0 (by repeat(first|exact List.Mem.head _|refine dr _ ?_|refine db _ ?_)) aD W ?_))
  |(exact ia.imp _ (Jy cn) (cl _ _ _ e ak))
  |(exact cd.imp _ (Jy cn) (aC _ _ _ _ _ _ e ak))
  |(exact c1 (U _ _ _))
  |refine eg ?_
  |(refine eh ?_ ?_<;>(try with_reducible intro ab)<;>(try(exfalso;omega)))
  |with_reducible intro r)<;>(try conv=>whnf))):P:=h
def KM(a b:Int):Int:=IntKind.i64.wrap (((BitVec.ofInt 64 a&&&BitVec.ofInt 64 b).toNat:Nat):Int)
def oD(k:aI)(cv:Int)(op:dp)(s:aq):ax cI:=(hp k ⟨1,oA k.la cv 0,0,0⟩ s).and fun r s1=>if r.1<1\/r.1>k.la.buckets\/KM r.1 (IntKind.i64.wrap (r.1-1))≠0 then .ok ⟨0,false,1, -1⟩ s1 else
 (mf k cv 64 (op.aQ.tmod r.1) s1).and fun a aV=>if a.2.err≠0 then .ok a.2 aV else(m4 k op.o0 a.1 (VI op.aQ) op.bl aV).and fun x bu=>if x.1.eG=true then(tc k cv op.o0 r.1 bu).and fun _ cw=> .ok x.1 cw else .ok x.1 bu
def rV(k:aI)(gs:List cz)(op:dp):e9:=if op.o0<1\/3<op.o0\/oA k.la op.o1 0<0\/op.aQ<0\/65536<=op.aQ then m9 gs else e9.of (oD k op.o1 op (aq.start gs))
def Wz(b1 du:Nat):List MapEntry:=[⟨J 1,.func (.func 295) #[] #[],0⟩,⟨J 2,.func (.func 296) #[] #[ae b1,ae du],1⟩,⟨J 3,.func (.func 297) #[] #[ae b1,ae du],2⟩]
theorem aa6{P:Program}{C:an}{K:Value->an->Prop}{t:TypeId}{a b:Int}(h:K (J (KM a b)) C):bk P C (binOp .and t (J a) (J b)) K:=by
 refine nc (fun w=>?_) h
 simp only[binOp,Op.intBits,ne_eq,not_true_eq_false,cZ,KM]
 rfl
theorem JR{x r n:Int}(ab:1<=n/\n<=64)(aT:1<=r)(O:r<=n):x.tmod r<64:=by
 have:=BZ x (show 0<r by omega)
 omega
theorem aer{x r n:Int}{a b:Nat}(ab:1<=n/\n<=64)(aT:1<=r)(O:r<=n)(aW:0<=x)(e:a=b)(eb:b<=200000):a+10000*((x.tmod r).toNat+1)<=1000000:=by
 have:=JR (x:=x) ab aT O
 omega
theorem aeq{x r n:Int}{a b c l:Nat}(ab:1<=n/\n<=64)(aT:1<=r)(O:r<=n)(e:a=b)(eb:b<=200000)(V:c<=a+10000*(x.tmod r).toNat)(ai:l<=10000):c+l<=1000000:=by
 have:=JR (x:=x) ab aT O
 omega
section
theorem QU{k:aI}{cv:Int}{s:aq}{g:cg}{p:Nat}(kV:ig k.la)(bh:(ae p,aY.cs 295 (Jz k cv s g))∈M)(U:∀b b1 du,K (.map (some b)) (Y H w0 X ((.map (some b),.map (Wz b1 du) 3)::(ae du,aY.cs 3 [J (oA k.la cv 1)])::(ae b1,aY.cs 293 [ae p])::M))):a4 H w0 X (M) 257 #[ae p] K Z:=by
 refine a7 aoe ?_
 intro az aF
 conv=>whnf
 exact XA
theorem acB{k:aI}{cv:Int}{s:aq}{g:cg}{p:Nat}{b:Int}(ai:k.log.length<=10000)(aT:0<=b)(AD:b<64)(h:bc H k s g)(ab:s.gone.length+10000*(b.toNat+1)<=1000000)(aC:∀x s' bH A n c,mf k cv 64 b s= .ok x s'->bc H k s' bH->K (.tuple #[J x.1,.agg (lp x.2 A n c).toArray]) (Y H w0 X (fB k cv s' bH p M)))(cl:∀a s' bH,mf k cv 64 b s= .ask a->bc H k s' bH->Z (rk a) (Y H w0 X (fB k cv s' bH p M))):a4 H w0 X (fB k cv s g p M) 262 #[ae p,J b] K Z:=by
 refine a7 aoj ?_
 intro az aF
 conv=>whnf
 exact XA
theorem Ol {P:Prop} (h:P:=by
 have sq:=h.la.buckets
 refine a7 aoh ?_
 intro az aF
 conv=>whnf
 repeat'((first
  |(show eS _ _;first|(refine eS.go ?_)|(refine eS.go ?_))
  |(show gN _ _ _;first|(refine gN.mk (ie.refl _) ?_)|(refine gN.mk (ie.imp (aJ.sub cn)) ?_)|(refine gN.mk (ie.refl _) ?_)|(refine gN.mk (ie.imp (aJ.sub cn)) ?_))
  |(show _/\_;first|(refine And.intro ?_ ?_)|(refine And.intro ?_ ?_))
  |(show ih _ _ _ _;first|(refine IS ?_)|(refine NM ?_)|(refine gE (by repeat(first|exact List.Mem.head _|refine dr _ ?_|exact db _ yT)) aD W W ?_)|(refine gE (by repeat(first|exact List.Mem.head _|refine dr _ ?_|exact db _ a6)) aD W W ?_)|(refine gE (by repeat(first|exact List.Mem.head _|refine dr _ ?_|exact db _ cT)) aD W W ?_)|(refine gE (by repeat(first|exact List.Mem.head _|refine dr _ ?_|exact db _ yU)) aD W W ?_)|(refine p0 (by repeat(first|exact List.Mem.head _|refine dr _ ?_|exact db _ yT)) aD W ?_)|(refine p0 (by repeat(first|exact List.Mem.head _|refine dr _ ?_|exact db _ a6)) aD W ?_)|(refine p0 (by repeat(first|exact List.Mem.head _|refine dr _ ?_|exact db _ cT)) aD W ?_)|(refine p0 (by repeat(first|exact List.Mem.head _|refine dr _ ?_|exact db _ yU)) aD W ?_)|(refine IS ?_)|(refine NM ?_)|(refine IS ?_)|(refine NM ?_))
  |(show ay _ _ _ _ _ _;first|(refine Dk h.la (fun v ah=>?_);subst ah)|(refine Cp (a:=⟨1,oA k.la cv 0,0,0⟩) h (fun r s1 e1 ll mJ rz=>?_) (fun e=>?_);(have Fl:=ll.made;have CX:=congrArg List.length rz))|(refine aoC ?_)|(refine acB (b:=op.aQ.tmod r.1) ai (zV _ rs) (JR sq S S) ll (aer sq S S rs CX fu) (fun a aV gr bf cN bA e2 sE=>?_) (fun a s' bH e ak=>?_);(have iR:=Lb ai 64 (op.aQ.tmod r.1) s1 a aV (zV _ rs) (JR sq S S) Fl e2;have fj:=aeq sq S S CX fu iR.1 ai))|(refine TW (kind:=op.o0) sE fj (fun x bu kT da jg c7 cR AU=>?_) (fun a e=>?_)<;>(first|rw[HF] at cR|rw[HF] at e))|(refine aby (size:=r.1) AU (fun u cw dR ML Fb CY=>?_) (fun a s' e ak=>?_))|(refine abz (size:=r.1) AU O aa (fun u cw dR ML Fb CY=>?_) (fun a s' e ak=>?_))|(refine abA (size:=r.1) AU O aa (fun u cw dR ML Fb CY=>?_) (fun a s' e ak=>?_)))
  |(show bk _ _ _ _;first|(refine aa6 ?_)|(refine fv (by repeat(first|exact List.Mem.head _|refine dr _ ?_|exact db _ yT)) aD W W ?_)|(refine fv (by repeat(first|exact List.Mem.head _|refine dr _ ?_|exact db _ a6)) aD W W ?_)|(refine fv (by repeat(first|exact List.Mem.head _|refine dr _ ?_|exact db _ cT)) aD W W ?_)|(refine fv (by repeat(first|exact List.Mem.head _|refine dr _ ?_|exact db _ yU)) aD W W ?_)|(refine ke (by repeat(first|exact List.Mem.head _|refine dr _ ?_|exact db _ yT)) aD W ?_)|(refine ke (by repeat(first|exact List.Mem.head _|refine dr _ ?_|exact db _ a6)) aD W ?_)|(refine ke (by repeat(first|exact List.Mem.head _|refine dr _ ?_|exact db _ cT)) aD W ?_)|(refine ke (by repeat(first|exact List.Mem.head _|refine dr _ ?_|exact db _ yU)) aD W ?_)|(refine uS ?_)|(refine IM ?_)|(refine uS ?_)|(refine IM ?_))
  |(show ff _ _ _ _ _;first|(refine qO 3 0 W rfl bP aD W W ?_))
  |(show eB _ _ _ _;first|(refine st ?_))
  |(refine hy.go ?_)
  |(refine pE.go ?_)
  |((intro avH;exfalso;omega))
  |(refine hD (cl _ _ _ ?_ av);(clear aC cl;simp only[oD,ax.cx,ax.dq,ne_eq,dm,cZ,not_true_eq_false,not_false_eq_true,reduceCtorEq,wN,eq_self,gt_iff_lt,true_or,or_true,false_or,or_false, *];done))
  |(refine cA (aC ⟨0,false,1, -1⟩ _ _ _ _ _ ?_ av);(clear aC cl;simp only[oD,ax.cx,ax.dq,ne_eq,dm,cZ,not_true_eq_false,not_false_eq_true,reduceCtorEq,wN,eq_self,gt_iff_lt,true_or,or_true,false_or,or_false, *];done))
  |(refine cA (aC a.2 _ _ _ _ _ ?_ av);(clear aC cl;simp only[oD,ax.cx,ax.dq,ne_eq,dm,cZ,not_true_eq_false,not_false_eq_true,reduceCtorEq,wN,eq_self,gt_iff_lt,true_or,or_true,false_or,or_false, *];done))
  |(refine cA (aC x.1 _ _ _ _ _ ?_ av);(clear aC cl;simp only[oD,ax.cx,ax.dq,ne_eq,dm,cZ,not_true_eq_false,not_false_eq_true,reduceCtorEq,wN,eq_self,gt_iff_lt,true_or,or_true,false_or,or_false, *];done))
  |(refine hy.go ?_)
  |(refine pE.go ?_)
  |(refine ba.dec (fun ab=>?_) (fun ab=>?_)<;>try(exfalso;omega))
  |(refine ba.v7 (fun ab=>?_) (fun ab=>?_)<;>try(exfalso;omega))
  |(refine ba.sk (fun ab=>?_) (fun ab=>?_)<;>try(exfalso;omega))
  |(refine ba.sM (fun ab=>?_) (fun ab=>?_)<;>try(exfalso;omega))
  |(refine ba.Uy (fun ab=>?_) (fun ab=>?_))
  |(refine ba.intro (fun ab=>?_) (fun ab=>?_))
  |(intro r jN))<;>(try conv=>whnf))
):P:=h
theorem alB{k:aI}{cv:Int}{s:aq}{g:cg}{p:Nat}{op:dp}{yz eu g5 jM b1 du:Nat}(HF:op.o0=1)(rs:0<=op.aQ)(ai:k.log.length<=10000)(h:bc H k s g)(fu:s.gone.length<=200000)(yT:(ae yz,aY.cs 293 [ae p])∈M)(a6:(ae eu,aY.cs 40 k.la.l)∈M)(cT:(ae g5,aY.cs 72 op.l)∈M)(yU:(ae jM,aY.cs 89 [.func (.func 295) #[] #[]])∈M)(O:(ae b1,aY.cs 293 [ae p])∈M)(aa:(ae du,aY.cs 3 [J (oA k.la cv 1)])∈M)(aC:∀o s' bH A n c,oD k cv op s= .ok o s'->bc H k s' bH->K (.agg (lp o A n c).toArray) (Y H w0 X (fB k cv s' bH p M)))(cl:∀a s' bH,oD k cv op s= .ask a->bc H k s' bH->Z (rk a) (Y H w0 X (fB k cv s' bH p M))):a4 H w0 X (fB k cv s g p M) 260 #[ae yz,ae eu,ae g5,ae jM] K Z:=by
 exact Ol
theorem alC{k:aI}{cv:Int}{s:aq}{g:cg}{p:Nat}{op:dp}{yz eu g5 jM b1 du:Nat}(HF:op.o0=2)(rs:0<=op.aQ)(ai:k.log.length<=10000)(h:bc H k s g)(fu:s.gone.length<=200000)(yT:(ae yz,aY.cs 293 [ae p])∈M)(a6:(ae eu,aY.cs 40 k.la.l)∈M)(cT:(ae g5,aY.cs 72 op.l)∈M)(yU:(ae jM,aY.cs 89 [.func (.func 296) #[] #[ae b1,ae du]])∈M)(O:(ae b1,aY.cs 293 [ae p])∈M)(aa:(ae du,aY.cs 3 [J (oA k.la cv 1)])∈M)(aC:∀o s' bH A n c,oD k cv op s= .ok o s'->bc H k s' bH->K (.agg (lp o A n c).toArray) (Y H w0 X (fB k cv s' bH p M)))(cl:∀a s' bH,oD k cv op s= .ask a->bc H k s' bH->Z (rk a) (Y H w0 X (fB k cv s' bH p M))):a4 H w0 X (fB k cv s g p M) 260 #[ae yz,ae eu,ae g5,ae jM] K Z:=by
 exact Ol
theorem alD{k:aI}{cv:Int}{s:aq}{g:cg}{p:Nat}{op:dp}{yz eu g5 jM b1 du:Nat}(HF:op.o0=3)(rs:0<=op.aQ)(ai:k.log.length<=10000)(h:bc H k s g)(fu:s.gone.length<=200000)(yT:(ae yz,aY.cs 293 [ae p])∈M)(a6:(ae eu,aY.cs 40 k.la.l)∈M)(cT:(ae g5,aY.cs 72 op.l)∈M)(yU:(ae jM,aY.cs 89 [.func (.func 297) #[] #[ae b1,ae du]])∈M)(O:(ae b1,aY.cs 293 [ae p])∈M)(aa:(ae du,aY.cs 3 [J (oA k.la cv 1)])∈M)(aC:∀o s' bH A n c,oD k cv op s= .ok o s'->bc H k s' bH->K (.agg (lp o A n c).toArray) (Y H w0 X (fB k cv s' bH p M)))(cl:∀a s' bH,oD k cv op s= .ask a->bc H k s' bH->Z (rk a) (Y H w0 X (fB k cv s' bH p M))):a4 H w0 X (fB k cv s g p M) 260 #[ae yz,ae eu,ae g5,ae jM] K Z:=by
 exact Ol
theorem aqi{k:aI}{gs:List cz}{g:cg}{op:dp}(h:bc H k (aq.start gs) ⟨false,g.A,g.n,g.c⟩)(ai:k.log.length<=10000)(fu:gs.length<=200000)(ab:op.o0<1\/3<op.o0)(U:jn H w0 X M K (rV k gs op)):a4 H w0 X M 203 #[.agg k.la.l.toArray,J k.a1,.slice g.A g.n g.c,.agg op.l.toArray,.slice k.bK k.aM k.bD] K Z:=by
 have kp:g.n<=1000000000:=by
  have O:g.n=gs.length:=h.fh
  omega
 have fj:g.n=gs.length:=h.fh
 rw[rV] at U
 refine a7 Vr ?_
 intro az aF
 conv=>whnf
 repeat'((first
  |(show eS _ _;first|(refine eS.go ?_)|(refine eS.go ?_))
  |(show gN _ _ _;first|(refine gN.mk (ie.refl _) ?_)|(refine gN.mk (ie.imp (aJ.sub cn)) ?_)|(refine gN.mk (ie.refl _) ?_)|(refine gN.mk (ie.imp (aJ.sub cn)) ?_))
  |(show _/\_;first|(refine And.intro ?_ ?_)|(refine And.intro ?_ ?_))
  |(show ih _ _ _ _;first|(refine IS ?_)|(refine NM ?_))
  |(show bk _ _ _ _;first|((refine h2 (t:=295) (Jz k op.o1 (aq.start gs) ⟨false,g.A,g.n,g.c⟩) rfl ?_;intro p))|((refine hT aD _ rfl ?_;intro _))|((refine h2 _ rfl ?_;intro _))|(refine uS ?_)|(refine IM ?_))
  |(show ff _ _ _ _ _;first|(refine kZ W ?_)|(refine v3 (kt:=3) (et:=89) (kH:= .i64) (fW:=op.o0) W W W b7 bP bP aD W none ?_ ?_;focus(simp only[mZ,Wz,Bool.cond_eq_ite,decide_eq_true_eq];repeat(first|rfl|(rw[if_neg S])))))
  |(show ay _ _ _ _ _ _;first|(refine QU (k:=k) (cv:=op.o1) (s:=aq.start gs) (g:=⟨false,g.A,g.n,g.c⟩) h.la b7 (fun b b1 du=>?_))|(refine Dk h.la (fun v ah=>?_);subst ah)|(refine VN (gs:=gs) (.inl (h.ea rfl)) h.fh kp h.pP (fun br bz dS ep=>?_)))
  |(show eB _ _ _ _;first|(refine st ?_))
  |(refine hy.go ?_)
  |(refine pE.go ?_)
  |((rw[if_pos S] at U;have fz:=U br bz (by rw[<-fj];exact dS) ep;rw[<-fj] at fz;exact c1 fz cn))
  |(refine hy.go ?_)
  |(refine pE.go ?_)
  |(refine ba.dec (fun ab=>?_) (fun ab=>?_)<;>try(exfalso;omega))
  |(refine ba.v7 (fun ab=>?_) (fun ab=>?_)<;>try(exfalso;omega))
  |(refine ba.sk (fun ab=>?_) (fun ab=>?_)<;>try(exfalso;omega))
  |(refine ba.sM (fun ab=>?_) (fun ab=>?_)<;>try(exfalso;omega))
  |(refine ba.Uy (fun ab=>?_) (fun ab=>?_))
  |(refine ba.intro (fun ab=>?_) (fun ab=>?_))
  |(intro r jN))<;>(try conv=>whnf))
theorem On {P:Prop} (h:P:=by
 have kp:g.n<=1000000000:=by
  have O:g.n=gs.length:=h.fh
  omega
 have fj:g.n=gs.length:=h.fh
 rw[rV] at U
 refine a7 Vr ?_
 intro az aF
 conv=>whnf
 repeat'((first
  |(show eS _ _;first|(refine eS.go ?_)|(refine eS.go ?_))
  |(show gN _ _ _;first|(refine gN.mk (ie.refl _) ?_)|(refine gN.mk (ie.imp (aJ.sub cn)) ?_)|(refine gN.mk (ie.refl _) ?_)|(refine gN.mk (ie.imp (aJ.sub cn)) ?_))
  |(show _/\_;first|(refine And.intro ?_ ?_)|(refine And.intro ?_ ?_))
  |(show ih _ _ _ _;first|(refine IS ?_)|(refine NM ?_))
  |(show bk _ _ _ _;first|((refine h2 (t:=295) (Jz k op.o1 (aq.start gs) ⟨false,g.A,g.n,g.c⟩) rfl ?_;intro p))|((refine hT aD _ rfl ?_;intro _))|((refine h2 _ rfl ?_;intro _))|(refine uS ?_)|(refine IM ?_))
  |(show ff _ _ _ _ _;first|(refine kZ W ?_)|(refine v3 (kt:=3) (et:=89) (kH:= .i64) (fW:=op.o0) W W W b7 bP bP aD W (some (0,.func (.func 295) #[] #[])) ?_ ?_;focus(rw[cT];rfl))|(refine v3 (kt:=3) (et:=89) (kH:= .i64) (fW:=op.o0) W W W b7 bP bP aD W (some (1,.func (.func 296) #[] #[ae b1,ae du])) ?_ ?_;focus(rw[cT];rfl))|(refine v3 (kt:=3) (et:=89) (kH:= .i64) (fW:=op.o0) W W W b7 bP bP aD W (some (2,.func (.func 297) #[] #[ae b1,ae du])) ?_ ?_;focus(rw[cT];rfl)))
  |(show ay _ _ _ _ _ _;first|(refine QU (k:=k) (cv:=op.o1) (s:=aq.start gs) (g:=⟨false,g.A,g.n,g.c⟩) h.la b7 (fun b b1 du=>?_))|(refine Dk h.la (fun v ah=>?_);subst ah)|(refine VN (gs:=gs) (.inl (h.ea rfl)) h.fh kp h.pP (fun br bz dS ep=>?_))|(refine ay.imp (aJ.perm (vo (l₁:=[_,_,_,_,_]))) (ank (k:=k) (cv:=op.o1) (s:=aq.start gs) (g:=⟨false,g.A,g.n,g.c⟩) (p:=p) (R:=oD k op.o1 op (aq.start gs)) h (fun w0 X aE K Z ar aU a8=>?_) (fun o gv aR aN e aj b0=>?_) (fun a e=>?_)))|(exact alB (k:=k) (cv:=op.o1) cT S ai h fu (ar.subset b7) (ar.subset b7) (ar.subset b7) (ar.subset b7) (ar.subset b7) (ar.subset b7) aU a8)|(exact alC (k:=k) (cv:=op.o1) cT S ai h fu (ar.subset b7) (ar.subset b7) (ar.subset b7) (ar.subset b7) (ar.subset b7) (ar.subset b7) aU a8)|(exact alD (k:=k) (cv:=op.o1) cT S ai h fu (ar.subset b7) (ar.subset b7) (ar.subset b7) (ar.subset b7) (ar.subset b7) (ar.subset b7) aU a8))
  |(show eB _ _ _ _;first|(refine st ?_))
  |(refine hy.go ?_)
  |(refine pE.go ?_)
  |((rw[if_neg S,e] at U;exact c1 U cn))
  |((rw[if_neg S,e] at U;exact c1 (U aR aN aj b0) cn))
  |((rw[if_pos S] at U;have fz:=U br bz (by rw[<-fj];exact dS) ep;rw[<-fj] at fz;exact c1 fz cn))
  |(refine hy.go ?_)
  |(refine pE.go ?_)
  |(refine ba.dec (fun ab=>?_) (fun ab=>?_)<;>try(exfalso;omega))
  |(refine ba.v7 (fun ab=>?_) (fun ab=>?_)<;>try(exfalso;omega))
  |(refine ba.sk (fun ab=>?_) (fun ab=>?_)<;>try(exfalso;omega))
  |(refine ba.sM (fun ab=>?_) (fun ab=>?_)<;>try(exfalso;omega))
  |(refine ba.Uy (fun ab=>?_) (fun ab=>?_))
  |(refine ba.intro (fun ab=>?_) (fun ab=>?_))
  |(intro r jN))<;>(try conv=>whnf))
):P:=h
theorem aqc{k:aI}{gs:List cz}{g:cg}{op:dp}(h:bc H k (aq.start gs) ⟨false,g.A,g.n,g.c⟩)(ai:k.log.length<=10000)(fu:gs.length<=200000)(cT:op.o0=1)(U:jn H w0 X M K (rV k gs op)):a4 H w0 X M 203 #[.agg k.la.l.toArray,J k.a1,.slice g.A g.n g.c,.agg op.l.toArray,.slice k.bK k.aM k.bD] K Z:=by
 exact On
theorem aqd{k:aI}{gs:List cz}{g:cg}{op:dp}(h:bc H k (aq.start gs) ⟨false,g.A,g.n,g.c⟩)(ai:k.log.length<=10000)(fu:gs.length<=200000)(cT:op.o0=2)(U:jn H w0 X M K (rV k gs op)):a4 H w0 X M 203 #[.agg k.la.l.toArray,J k.a1,.slice g.A g.n g.c,.agg op.l.toArray,.slice k.bK k.aM k.bD] K Z:=by
 exact On
theorem aqe{k:aI}{gs:List cz}{g:cg}{op:dp}(h:bc H k (aq.start gs) ⟨false,g.A,g.n,g.c⟩)(ai:k.log.length<=10000)(fu:gs.length<=200000)(cT:op.o0=3)(U:jn H w0 X M K (rV k gs op)):a4 H w0 X M 203 #[.agg k.la.l.toArray,J k.a1,.slice g.A g.n g.c,.agg op.l.toArray,.slice k.bK k.aM k.bD] K Z:=by
 exact On
theorem aqh{k:aI}{gs:List cz}{g:cg}{op:dp}(h:bc H k (aq.start gs) ⟨false,g.A,g.n,g.c⟩)(ai:k.log.length<=10000)(fu:gs.length<=200000)(U:jn H w0 X M K (rV k gs op)):a4 H w0 X M 203 #[.agg k.la.l.toArray,J k.a1,.slice g.A g.n g.c,.agg op.l.toArray,.slice k.bK k.aM k.bD] K Z:=by
 by_cases ab:op.o0<1\/3<op.o0
 ·exact aqi h ai fu ab U
 ·rcases(show op.o0=1\/op.o0=2\/op.o0=3 by omega) with cT|cT|cT
  ·exact aqc h ai fu cT U
  ·exact aqd h ai fu cT U
  ·exact aqe h ai fu cT U
end
end Go.Proofs.YtcflcebplhdcpaaGreat
