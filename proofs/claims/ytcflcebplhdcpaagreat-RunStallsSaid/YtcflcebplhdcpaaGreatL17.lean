/- Lemmas, part 17; each states its own conditions. -/
import Derived.Test.YtcflcebplhdcpaaGreatL16
namespace Go.Proofs.YtcflcebplhdcpaaGreat
open Go.RowKit
set_option linter.unusedSimpArgs false
set_option linter.unusedVariables false
set_option maxRecDepth 100000
set_option maxHeartbeats 16000000
theorem asM {P:Prop} (h:P:=by
 repeat'((first
  |(refine zh b0 k rfl cc ?_)
  |(refine A3 (e8 3 _ W) rfl aT yX ?_)
  |(refine A3 (e8 3 _ W) rfl O yX ?_)
  |(intro w' bj;exact⟨_,rfl,bj,_,rfl,fun h=>by cases h⟩)
  |(exact cC (k+1) S S ⟨rfl,rfl,rfl,by show _=_;rw[<-qi k S];rfl,trivial⟩ ⟨rfl,rfl,rfl,trivial⟩)
  |refine eg ?_
  |(refine eh ?_ ?_<;>(try with_reducible intro h)<;>(try(exfalso;omega)))
  |with_reducible intro r)<;>(try conv=>whnf))):P:=h
def fQ.l(f:fQ):List Value:=[J f.task,.slice f.bW f.np f.bI,J f.fn,J f.aA,.slice f.bK f.aM f.bD,.slice f.b4 f.ns f.cs,.slice f.bq f.a5 f.bZ,J f.many,J f.aH,.bool f.fail]
def hx.l(c:hx):List Value:=[.slice c.bS c.aX c.bb,.slice c.fY c.bB c.dD,J c.maps,J c.dj,J c.cF,J c.main]
def iE.l(b:iE):List Value:=[J b.args,J b.locals,.slice b.A b.n b.c]
theorem G4(z:dk)(G:bY)(w:World)(eA:er z G w)(A:Option Addr)(n c:Nat)(ar:bL G .int A n c)(aB:n<=1000000):Calls Tryz.prog 151 #[.slice A n c] w (lC w tw):=by
 obtain⟨dG,b3,aP⟩:=ar.rd eA
 subst b3
 refine iy GD W (hF w) (hF.start w) ?_
 conv=>whnf
 refine c9.on (X:=Nat) (fun k=> [(0,.v (.slice A dG.length c)),(3,.v (J (k:Int)))]) (fun _=> []) (fun _=>hF w) (fun k=>k<=dG.length) (fun k=>dG.length-k) 0 (cY _) ⟨rfl,rfl,trivial⟩ trivial ?_
 intro k r U
 conv=>whnf
 refine ba.dec (fun cc=>?_) (fun cc=>?_)
 ·have cc:k<dG.length:=by omega
  obtain⟨b,o,rfl,ab,bZ⟩:=aP.at_ (Nl dG k cc)
  conv=>whnf
  refine zh rfl k rfl cc ?_
  conv=>whnf
  refine A3 (e8 3 _ W) rfl bZ ab ?_ (by simp)
  conv=>whnf
  refine ay.n2 [J dG[k]] PZ.dg tw (fun w _=>Tf _ w) ?_
  rintro v ⟨q,rfl⟩
  conv=>whnf
  refine ba.not (fun h=>?_) (fun h=>?_)
  ·conv=>whnf
   intro w' bj
   exact⟨_,rfl,bj,_,rfl⟩
  ·conv=>whnf
   exact cC (X:=Nat) (k+1) S (by show k+1<=_;omega) ⟨rfl,by show _=_;rw[<-qi k S];rfl,trivial⟩ trivial
 ·conv=>whnf
  intro w' bj
  exact⟨_,rfl,bj,_,rfl⟩
structure Ev(c:hx)(B:Nat->iE)(f:fQ):Prop where
 f0:0<=f.fn
 f1:f.fn<c.aX
 gG:0<=f.aA
 hl:f.aA<=(B f.fn.toNat).n
 zz:0<=f.aH
 s1:f.aH<=2000
 st:f.ns<=100
theorem aoZ(z:dk)(G:bY)(w:World)(eA:er z G w)(c:hx)(B:Nat->iE)(aj:c.k8 B G w)(f:fQ)(aK:f.gf G)(aB:f.a5<=1000000)(ai:f.aM<=1000000)(ar:f.ns<=1000000):
  Calls Tryz.prog 152 #[c.val,f.val] w (lC w fun v=> ∃b,v= .bool b/\(b=true->Ev c B f)):=by
 refine iy XX W (hF w) (hF.start w) ?_
 conv=>whnf
 repeat'(first
  |(refine eS.go ?_;conv=>whnf)
  |(refine ba.dec (fun h=>?_) (fun h=>?_)<;>first|(exfalso;omega)|conv=>whnf)
  |(refine ba.eq (fun h=>?_) (fun h=>?_)<;>first|(exfalso;omega)|conv=>whnf)
  |(refine ba.ne (fun h=>?_) (fun h=>?_)<;>first|(exfalso;omega)|conv=>whnf)
  |(refine ba.not (fun h=>?_) (fun h=>?_)<;>conv=>whnf)
  |(refine Iw aj (k:=f.fn.toNat) (vc av av) (vb av) ?_
    intro bH fX AB E2 yV
    conv=>whnf)
  |(refine akz (e8 63 _ W) rfl _ rfl yV AB ?_;conv=>whnf)
  |(refine ay.n2 [.slice f.bK f.aM f.bD] GD.dg tw (fun w' bj=>G4 z G w' (eA.below bj) _ _ _ aK.l ai) ?_;rintro v ⟨n,rfl⟩;conv=>whnf)
  |(refine ay.n2 [.slice f.b4 f.ns f.cs] GD.dg tw (fun w' bj=>G4 z G w' (eA.below bj) _ _ _ aK.s ar) ?_;rintro v ⟨n,rfl⟩;conv=>whnf)
  |(intro w' bj;exact⟨_,rfl,bj,_,rfl,fun h=>by cases h⟩))
 have R:Ev c B f:=⟨by omega,by omega,by omega,by omega,by omega,by omega,by omega⟩
 refine c9.on (X:=Nat) (fun k=> [(2,.p 2 0),(3,.p 3 0),(5,.p 5 0),(8,.v (J k))]) (fun _=> [(2,25,c.l),(3,108,f.l),(5,63,(B f.fn.toNat).l)]) (fun _=>hF w) (fun k=>k<=f.a5) (fun k=>f.a5-k) 0 (cY _) ⟨rfl,rfl,rfl,rfl,trivial⟩ ⟨rfl,rfl,rfl,trivial⟩ ?_
 intro k r U
 by_cases cc:k<f.a5
 ·obtain⟨b,off,b0,yX,_,a,d,aT,O⟩:=aK.k.at_ eA cc
  simp only[eT.size] at aT O
  conv=>whnf
  exact asM
 ·conv=>whnf
  refine ba.dec (fun h=>?_) (fun h=>?_)
  ·exfalso;omega
  ·conv=>whnf
   intro w' bj
   exact⟨_,rfl,bj,_,rfl,fun _=>R⟩
theorem akA{z:dk}{G eo:bY}{w0:World}{P:Program}{t:TypeId}{i:c5}(hi:e7 P t i)(dX:i.d.agg=false){b off:Nat}{v:Value}(aj:w0.cell? ⟨b,off,none⟩=some v)(ab:b<w0.heap.size)(aZ:eo b=none){K:Value->an->Prop}(h:K v (cQ z G eo w0)){a:Addr}(a8:a=⟨b,off,none⟩:=by rfl):bk P (cQ z G eo w0) (Instr.loadAt t (.pointer (some a))) K:=by
 subst a8
 exact IU hi dX (fun u=>u=v) (fun w au=>⟨v,(au.2.cell ab aZ).trans aj,rfl⟩) (fun u aS=>aS▸h)
theorem TU{z:dk}{G eo:bY}{w0:World}{P:Program}{t:TypeId}{i:c5}(hi:e7 P t i)(dX:i.d.agg=true){b off:Nat}(l:List Value)(ai:l.length=i.size)(aj:∀j v,l[j]?=some v->w0.cell? ⟨b,off+j,none⟩=some v)(ab:b<w0.heap.size)(aZ:eo b=none){K:Value->an->Prop}(h:K (.agg l.toArray) (cQ z G eo w0)):bk P (cQ z G eo w0) (Instr.loadAt t (.pointer (some ⟨b,off,none⟩))) K:=
 IT hi dX (fun u=>u=l) (fun w au=>⟨l,ai,fun j v ah=>(au.2.cell ab aZ).trans (aj j v ah),rfl⟩) (fun u aS=>aS▸h)
structure Qw(c:hx)(B:Nat->iE)(f:fQ)(fn task:Int)(np:Nat):Prop where
 f0:0<=fn
 f1:fn<c.aX
 fn:f.fn=fn
 aA:f.aA=0
 q0:f.aH=0
 ns:f.ns=0
 a5:f.a5=0
 np:f.np=np
 aM:f.aM<=100
theorem aqy(z:dk)(G:bY)(w:World)(eA:er z G w)(c:hx)(B:Nat->iE)(aj:c.k8 B G w)(eZ:∀k,k<c.aX->(B k).locals<=16)(fn task:Int)(ed:Option Addr)(ev bp:Nat)(a8:bL G .int ed ev bp)(Ia:ev<=1000000)(bW:Option Addr)(np bI:Nat)(bh:bL G .int bW np bI)(Ic:np<=1000000):
  Calls Tryz.prog 111 #[c.val,J fn,.slice ed ev bp,J task,.slice bW np bI] w (lb z G w fun dt bG v=>dt=z/\∃(f:fQ) (e:Int),v= .tuple #[f.val,J e]/\f.gf bG/\(e=0->Qw c B f fn task np)):=by
 refine iy XS W (cQ z G G w) (cQ.start eA) ?_
 conv=>whnf
 repeat'(first
  |(refine eS.go ?_;conv=>whnf)
  |(refine ba.dec (fun h=>?_) (fun h=>?_)<;>first|(exfalso;omega)|conv=>whnf)
  |(intro w' bj;exact⟨z,G,_,rfl,bj.1,bj.2,rfl,fQ.zero,_,rfl,⟨bL.nil _ _,bL.nil _ _,bL.nil _ _,bL.nil _ _⟩,fun h=>by cases h⟩))
 have U:fn.toNat<c.aX:=vc av av
 have Mu:fn=(fn.toNat:Int):=vb av
 have H6:=eZ _ U
 refine Iw aj U Mu ?_
 intro bH fX AB E2 yV
 conv=>whnf
 refine TU (e8 63 _ W) rfl _ rfl yV AB E2 ?_
 conv=>whnf
 refine ay.ph [.slice ed ev bp] GD.dg tw (fun w' ef _=>G4 z G w' ef _ _ _ a8 Ia) ?_
 rintro v ⟨lG,rfl⟩
 conv=>whnf
 repeat'(first
  |(refine eS.go ?_;conv=>whnf)
  |(refine ba.dec (fun h=>?_) (fun h=>?_)<;>first|(exfalso;omega)|conv=>whnf)
  |(refine ba.ne (fun h=>?_) (fun h=>?_)<;>first|(exfalso;omega)|conv=>whnf)
  |(refine ba.not (fun h=>?_) (fun h=>?_)<;>conv=>whnf)
  |(intro w' bj;exact⟨z,G,_,rfl,bj.1,bj.2,rfl,fQ.zero,_,rfl,⟨bL.nil _ _,bL.nil _ _,bL.nil _ _,bL.nil _ _⟩,fun h=>by cases h⟩))
 refine td .int ?_
 intro fw br gb s1
 conv=>whnf
 refine g3 .int s1 (a8.mono gb) ev S S ?_
 intro gV bf bA dd aV
 conv=>whnf
 refine c9.on (X:=bY×Option Addr×Nat×Nat) (fun x=> [(1,.v (J fn)),(3,.v (J task)),(4,.v (.slice bW np bI)),(10,.p 10 0),(12,.p 12 0),(14,.v (.slice x.2.1 x.2.2.1 x.2.2.2))]) (fun _=> [(10,108,fQ.zero.l),(12,63,(B fn.toNat).l)]) (fun x=>cQ z x.1 G w) (fun x=>G.le x.1/\bL x.1 .int x.2.1 x.2.2.1 x.2.2.2/\x.2.2.1<=16) (fun x=>17-x.2.2.1) (gV,bf,ev,bA) ⟨gb.trans dd,aV,by show ev<=16;omega⟩ ⟨rfl,rfl,rfl,rfl,rfl,rfl,trivial⟩ ⟨rfl,rfl,trivial⟩ ?_
 rintro⟨j5,da,jg,c7⟩ r ⟨dN,bu,H9⟩
 simp only at dN bu H9
 conv=>whnf
 refine ba.dec (fun h=>?_) (fun h=>?_)
 ·have h:(jg:Int)<(B fn.toNat).locals:=h
  conv=>whnf
  refine oh [0] (by simp) ?_
  intro iI eJ dA cw
  conv=>whnf
  refine g3 .int (bu.mono dA) cw (jg+1) S S ?_
  intro nk gS gW hd fF
  conv=>whnf
  exact cC (nk,gS,jg+1,gW) (by show 17-(jg+1)<17-jg;omega) ⟨(dN.trans dA).trans hd,fF,by show jg+1<=16;omega⟩ ⟨rfl,rfl,rfl,rfl,rfl,rfl,trivial⟩ ⟨rfl,rfl,trivial⟩
 ·conv=>whnf
  refine td .int ?_
  intro iI eJ dA cw
  conv=>whnf
  refine g3 .int cw ((bh.mono dN).mono dA) np S S ?_
  intro nk gS gW hd fF
  conv=>whnf
  intro w' bj
  refine⟨z,nk,_,rfl,bj.1,bj.2,rfl,⟨task,gS,np,gW,fn,0,da,jg,c7,none,0,0,none,0,0,0,0,false⟩,0,rfl,⟨fF,(bu.mono dA).mono hd,bL.nil _ _,bL.nil _ _⟩,fun _=>?_⟩
  exact⟨by show 0<=fn;omega,by show fn<c.aX;omega,rfl,rfl,rfl,rfl,rfl,rfl,by show jg<=100;omega⟩
structure bq where
 kind:Int
 a:Int
 b:Int
 o0:Int
 o1:Int
 aQ:Int
 bl:Int
 A:Option Addr
 n:Nat
 c:Nat
def bq.val(k:bq):Value:= .agg #[J k.kind,J k.a,J k.b,J k.o0,J k.o1,J k.aQ,J k.bl,.slice k.A k.n k.c]
def bq.l(k:bq):List Value:=[J k.kind,J k.a,J k.b,J k.o0,J k.o1,J k.aQ,J k.bl,.slice k.A k.n k.c]
structure QA(f:fQ)(k:bq)(e:Int)(c6:fQ):Prop where
 q0:c6.aH=f.aH
 fn:c6.fn=f.fn
 np:c6.np=f.np
 aM:c6.aM=f.aM
 ns:c6.ns<=f.ns+1
 a5:c6.a5<=f.a5+1
 Uw:k.kind≠4->c6.a5<=f.a5
 alS:k.kind=5->e=0->c6.a5=0
theorem Py(z:dk)(G:bY)(w:World)(eA:er z G w)(f:fQ)(aC:f.gf G)(aB:f.a5<=1000000)(ai:f.aM<=1000000)(ar:f.ns<=1000000)(k:bq)(hZ:Option Addr)(cJ h4:Nat)(ah:bL G .int hZ cJ h4)(Ie:cJ<=1000000):
  Calls Tryz.prog 116 #[f.val,k.val,.slice hZ cJ h4] w (lb z G w fun dt bG v=>dt=z/\∃(c6:fQ) (e:Int),v= .tuple #[c6.val,J e]/\c6.gf bG/\QA f k e c6):=by
 refine iy J7 W (cQ z G G w) (cQ.start eA) ?_
 have yP:∀G e,f.gf G->e≠(0:Int)\/k.kind≠5->∃(c6:fQ) (hJ:Int),Value.tuple #[f.val,J e]= .tuple #[c6.val,J hJ]/\c6.gf G/\QA f k hJ c6:=fun G e aU af=>⟨f,e,rfl,aU,rfl,rfl,rfl,rfl,by omega,by omega,fun _=>by omega,fun O V=>by rcases af with af|af<;>contradiction⟩
 conv=>whnf
 refine ay.ph [.slice hZ cJ h4] GD.dg tw (fun w' ef _=>G4 z G w' ef _ _ _ ah Ie) ?_
 rintro v ⟨lG,rfl⟩
 conv=>whnf
 repeat'(first
  |(refine eS.go ?_;conv=>whnf)
  |(refine ba.dec (fun h=>?_) (fun h=>?_)<;>first|(exfalso;omega)|conv=>whnf)
  |(refine ba.eq (fun h=>?_) (fun h=>?_)<;>first|(exfalso;omega)|conv=>whnf)
  |(refine ba.ne (fun h=>?_) (fun h=>?_)<;>first|(exfalso;omega)|conv=>whnf)
  |(refine ba.not (fun h=>?_) (fun h=>?_)<;>conv=>whnf)
  |(refine kc .int ah 0 rfl S ?_;intro wY awX e0;conv=>whnf)
  |(refine rJ e0 ?_;intro x0;conv=>whnf)
  |(refine td .int ?_;intro fw br gb s1;replace aC:=aC.mono gb;replace ah:=ah.mono gb;(try replace e0:=e0.mono gb);(try replace cw:=cw.mono gb);conv=>whnf)
  |(refine td .ny ?_;intro fw br gb s1;replace aC:=aC.mono gb;replace ah:=ah.mono gb;(try replace e0:=e0.mono gb);(try replace cw:=cw.mono gb);conv=>whnf)
  |(refine g3 .int s1 aC.s f.ns S S ?_;intro j5 da c7 dN bu;replace aC:=aC.mono dN;replace ah:=ah.mono dN;(try replace e0:=e0.mono dN);(try replace cw:=cw.mono dN);conv=>whnf)
  |(refine g3 .ny s1 aC.k f.a5 S S ?_;intro j5 da c7 dN bu;replace aC:=aC.mono dN;replace ah:=ah.mono dN;(try replace e0:=e0.mono dN);(try replace cw:=cw.mono dN);conv=>whnf)
  |(refine oh [x0] (by simp) ?_;intro iI eJ dA cw;replace aC:=aC.mono dA;replace ah:=ah.mono dA;(try replace s1:=s1.mono dA);(try replace bu:=bu.mono dA);conv=>whnf)
  |(refine yB .ny #[J x0,J k.b] rfl (iG.one rfl ⟨x0,k.b,rfl,rfl⟩) ?_;intro iI eJ dA cw;replace aC:=aC.mono dA;replace ah:=ah.mono dA;(try replace s1:=s1.mono dA);(try replace bu:=bu.mono dA);conv=>whnf)
  |(refine g3 .int bu cw (f.ns+1) S S ?_;intro nk gS gW hd fF;replace aC:=aC.mono hd;conv=>whnf)
  |(refine g3 .ny bu cw (f.a5+1) S S ?_;intro nk gS gW hd fF;replace aC:=aC.mono hd;conv=>whnf)
  |(intro w' bj;exact⟨z,_,_,rfl,bj.1,bj.2,rfl,yP _ _ aC (by first|exact .inl bC|exact .inr S)⟩)
  |(apply And.intro<;>conv=>whnf))
 all_goals try(intro w' bj;exact⟨z,_,_,rfl,bj.1,bj.2,rfl,{f with b4:=gS,ns:=f.ns+1,cs:=gW},0,rfl,⟨aC.p,aC.l,fF,aC.k⟩,rfl,rfl,rfl,rfl,Nat.le_refl _,qp _,fun _=>Nat.le_refl _,fun h=>by omega⟩)
 all_goals try(intro w' bj;exact⟨z,_,_,rfl,bj.1,bj.2,rfl,{f with bq:=gS,a5:=f.a5+1,bZ:=gW,many:=_},0,rfl,⟨aC.p,aC.l,aC.s,fF⟩,rfl,rfl,rfl,rfl,qp _,Nat.le_refl _,fun h=>by omega,fun h=>by omega⟩)
 refine g3 .int s1 aC.l f.aM S S ?_
 intro j5 da c7 dN bu
 replace aC:=aC.mono dN
 replace ah:=ah.mono dN
 have MH:cJ=f.a5:=by omega
 clear s1
 conv=>whnf
 refine c9.on (X:=bY×Option Addr×Nat×Nat) (fun x=> [(2,.v (.slice hZ cJ h4)),(3,.p 3 0),(6,.p 6 0),(9,.v (.slice x.2.1 f.aM x.2.2.1)),(10,.v (J x.2.2.2))]) (fun _=> [(3,108,f.l),(6,108,fQ.zero.l)]) (fun x=>cQ z x.1 G w) (fun x=>f.gf x.1/\bL x.1 .int hZ cJ h4/\bL x.1 .int x.2.1 f.aM x.2.2.1/\x.2.2.2<=f.a5) (fun x=>f.a5-x.2.2.2) (j5,da,c7,0) ⟨aC,ah,bu,cY _⟩ ⟨rfl,rfl,rfl,rfl,rfl,trivial⟩ ⟨rfl,rfl,trivial⟩ ?_
 clear aC ah bu
 rintro⟨iI,eJ,fa,i⟩ r ⟨aC,ah,cw,hi⟩
 simp only at aC ah cw hi
 conv=>whnf
 refine ba.dec (fun h=>?_) (fun h=>?_)
 ·have h:(i:Int)<(f.a5:Int):=h
  conv=>whnf
  refine kc .ny aC.k i rfl S ?_
  intro b1 p5 e1
  conv=>whnf
  refine akD e1 1 (fun g ⟨a,b,_,V⟩=>⟨b,V⟩) ?_
  intro d
  conv=>whnf
  have jm:IntKind.i64.wrap ((i:Int)+1)=((i+1:Nat):Int):=qi i S
  repeat'(first
   |(refine eS.go ?_;conv=>whnf)
   |(refine ba.dec (fun h=>?_) (fun h=>?_)<;>first|(exfalso;omega)|conv=>whnf)
   |(intro w' bj;exact⟨z,_,_,rfl,bj.1,bj.2,rfl,yP _ _ aC (.inl bC)⟩))
  ·refine kc .int ah i rfl S ?_
   intro b2 amf e2
   conv=>whnf
   refine rJ e2 ?_
   intro x
   conv=>whnf
   refine kc .int cw d.toNat (vb S) (vc S S) ?_
   intro du UF cR
   conv=>whnf
   refine Pj cR ?_
   conv=>whnf
   exact cC (iI,eJ,fa,i+1) (by show f.a5-(i+1)<f.a5-i;omega) ⟨aC,ah,cw,by show i+1<=f.a5;omega⟩ ⟨rfl,rfl,rfl,rfl,by show _=_;rw[<-jm];rfl,trivial⟩ ⟨rfl,rfl,trivial⟩
  ·exact cC (iI,eJ,fa,i+1) (by show f.a5-(i+1)<f.a5-i;omega) ⟨aC,ah,cw,by show i+1<=f.a5;omega⟩ ⟨rfl,rfl,rfl,rfl,by show _=_;rw[<-jm];rfl,trivial⟩ ⟨rfl,rfl,trivial⟩
 ·conv=>whnf
  intro w' bj
  exact⟨z,_,_,rfl,bj.1,bj.2,rfl,{f with bK:=eJ,bD:=fa,bq:=none,a5:=0,bZ:=0},0,rfl,⟨aC.p,cw,aC.s,bL.nil _ _⟩,rfl,rfl,rfl,rfl,qp _,cY _,fun _=>cY _,fun _ _=>rfl⟩
theorem mO {P:Prop} (h:P:=by
 repeat'((first
  |(refine EM .int aC.s m ad au ?_;intro bf bA aV)
  |(refine EM .int aC.s 2 ad au ?_;intro bf bA aV)
  |(refine EM .int aC.s 1 ad au ?_;intro bf bA aV)
  |(refine EM .int aC.s 0 ad au ?_;intro bf bA aV)
  |(intro w' bj;exact⟨z,_,_,rfl,bj.1.1,bj.1.2,Gi aC bC⟩)
  |(intro w' bj;exact⟨z,_,_,rfl,bj.1.1,bj.1.2,Pg aC MH st gG hl s1⟩)
  |(refine Bi f aC.s S bh bd 0 S (bL.nil _ _) S (f.ns-0) S ?_;intro r6 oG pJ ey fS;replace aC:=aC.mono ey;replace aV:=aV.mono ey;(try replace dR:=dR.mono ey);(try replace gj:=gj.mono ey);(try replace cR:=cR.mono ey);(try replace hE:=hE.mono ey);(try replace fS:=fS.mono ey);(try replace jj:=jj.mono ey))
  |(intro w' bj;exact⟨z,_,_,rfl,bj.1,bj.2,stepG {f.pass oG (f.ns-0) pJ with aA:=a} bq.zero ⟨aC.p,aC.l,fS,aC.k⟩ (bL.nil _ _) ⟨rfl,rfl,rfl,rfl,by show f.ns-0<=100;omega,by show 0<=a;omega,by show a<=_;omega,.inr ⟨by decide,rfl⟩,by show f.aH+1<=2000;omega,⟨by decide,by decide⟩,(fun h=>by rcases h with h|h<;>simp[bq.zero] at h),(fun h=>by simp[bq.zero] at h),(fun h=>by simp[bq.zero] at h)⟩⟩)
  |(refine Bi f aC.s S bh bd 0 S (bL.nil _ _) S (f.ns) S ?_;intro r6 oG pJ ey fS;replace aC:=aC.mono ey;replace aV:=aV.mono ey;(try replace dR:=dR.mono ey);(try replace gj:=gj.mono ey);(try replace cR:=cR.mono ey);(try replace hE:=hE.mono ey);(try replace fS:=fS.mono ey);(try replace jj:=jj.mono ey))
  |(intro w' bj;exact⟨z,_,_,rfl,bj.1.1,bj.1.2,Pg aC S st gG hl s1⟩)
  |(intro w' bj;exact⟨z,_,_,rfl,bj.1,bj.2,By aC fS S gG zt Bt ⟨1,a,0,0,0,0,0,none,0,0⟩ (bL.nil _ _) ⟨by simp,by simp⟩ (by simp) (fun _=>⟨aP.2.1,aP.2.2⟩) (fun h=>by simp at h) (fun h=>by simp at h)⟩)
  |(refine abn aC.k S ?_;intro lG tn)
  |(refine ba.not (fun h=>?_) (fun h=>absurd (tn.1 h) AE))
  |(refine ba.intro (fun h=>absurd (tn.1 h) AE) (fun h=>?_))
  |(refine Bi f aC.s S bh bd 1 S (bL.nil _ _) S (f.ns-1) S ?_;intro r6 oG pJ ey fS;replace aC:=aC.mono ey;replace aV:=aV.mono ey;(try replace dR:=dR.mono ey);(try replace gj:=gj.mono ey);(try replace cR:=cR.mono ey);(try replace hE:=hE.mono ey);(try replace fS:=fS.mono ey);(try replace jj:=jj.mono ey))
  |(refine td .int ?_;intro wL wG hL hE;replace aC:=aC.mono hL;replace aV:=aV.mono hL;(try replace dR:=dR.mono hL);(try replace gj:=gj.mono hL);(try replace cR:=cR.mono hL);(try replace hE:=hE.mono hL);(try replace fS:=fS.mono hL);(try replace jj:=jj.mono hL))
  |(refine g3 .int hE aV m S S ?_;intro ye DX EH kI jj;replace aC:=aC.mono kI;replace aV:=aV.mono kI;(try replace dR:=dR.mono kI);(try replace gj:=gj.mono kI);(try replace cR:=cR.mono kI);(try replace hE:=hE.mono kI);(try replace fS:=fS.mono kI);(try replace jj:=jj.mono kI))
  |(intro w' bj;exact⟨z,_,_,rfl,bj.1,bj.2,By aC fS S gG zt Bt ⟨4,a,d,0,0,0,0,DX,m,EH⟩ jj ⟨by simp,by simp⟩ (by simp) (fun h=>by rcases h with h|h<;>simp at h) (fun h=>by simp at h) (fun _=>by show m<=100;omega)⟩)
  |(refine g3 .int hE aC.l f.aM S S ?_;intro ye DX EH kI jj;replace aC:=aC.mono kI;replace aV:=aV.mono kI;(try replace dR:=dR.mono kI);(try replace gj:=gj.mono kI);(try replace cR:=cR.mono kI);(try replace hE:=hE.mono kI);(try replace fS:=fS.mono kI);(try replace jj:=jj.mono kI))
  |(refine kc .int aV 0 rfl S ?_;intro dv amg dR)
  |(refine rJ dR ?_;intro pr)
  |(intro w' bj;exact⟨z,_,_,rfl,bj.1,bj.2,stepG {f.pass oG (f.ns-1) pJ with fail:=true} bq.zero ⟨aC.p,aC.l,fS,aC.k⟩ (bL.nil _ _) ⟨rfl,rfl,rfl,rfl,by show f.ns-1<=100;omega,by show 0<=f.aA+1;omega,by show f.aA+1<=_;omega,.inr ⟨by decide,rfl⟩,by show f.aH+1<=2000;omega,⟨by decide,by decide⟩,(fun h=>by rcases h with h|h<;>simp[bq.zero] at h),(fun h=>by simp[bq.zero] at h),(fun h=>by simp[bq.zero] at h)⟩⟩)
  |(intro w' bj;exact⟨z,_,_,rfl,bj.1,bj.2,stepG {f.pass oG (f.ns-1) pJ with fail:=pr==0} bq.zero ⟨aC.p,aC.l,fS,aC.k⟩ (bL.nil _ _) ⟨rfl,rfl,rfl,rfl,by show f.ns-1<=100;omega,by show 0<=f.aA+1;omega,by show f.aA+1<=_;omega,.inr ⟨by decide,rfl⟩,by show f.aH+1<=2000;omega,⟨by decide,by decide⟩,(fun h=>by rcases h with h|h<;>simp[bq.zero] at h),(fun h=>by simp[bq.zero] at h),(fun h=>by simp[bq.zero] at h)⟩⟩)
  |(intro w' bj;exact⟨z,_,_,rfl,bj.1,bj.2,By aC fS S gG zt Bt ⟨6,pr,0,0,0,0,0,none,0,0⟩ (bL.nil _ _) ⟨by simp,by simp⟩ (by simp) (fun h=>by rcases h with h|h<;>simp at h) (fun h=>by simp at h) (fun h=>by simp at h)⟩)
  |(refine kc .int aV 1 rfl S ?_;intro eu awY gj)
  |(refine rJ gj ?_;intro J3)
  |(refine ay.ph [J _] X6.dg i3 (fun w _ _=>ake _ w) ?_;rintro v ⟨y,rfl⟩)
  |(refine Bi f aC.s S bh bd m S (bL.nil _ _) S (f.ns-m) S ?_;intro r6 oG pJ ey fS;replace aC:=aC.mono ey;replace aV:=aV.mono ey;(try replace dR:=dR.mono ey);(try replace gj:=gj.mono ey);(try replace cR:=cR.mono ey);(try replace hE:=hE.mono ey);(try replace fS:=fS.mono ey);(try replace jj:=jj.mono ey))
  |(intro w' bj;exact⟨z,_,_,rfl,bj.1,bj.2,By aC fS S gG zt Bt ⟨3,0,0,a,b,_,_,none,0,0⟩ (bL.nil _ _) ⟨by simp,by simp⟩ (by simp) (fun h=>by rcases h with h|h<;>simp at h) (fun _=>aP.2) (fun h=>by simp at h)⟩)
  |(refine ay.ph [J _,J pr,J J3] X5.dg i3 (fun w _ _=>amF _ _ _ w) ?_;rintro v ⟨y,rfl⟩)
  |(refine oh [y] (by simp) ?_;intro wL wG hL hE;replace aC:=aC.mono hL;replace aV:=aV.mono hL;(try replace dR:=dR.mono hL);(try replace gj:=gj.mono hL);(try replace cR:=cR.mono hL);(try replace hE:=hE.mono hL);(try replace fS:=fS.mono hL);(try replace jj:=jj.mono hL))
  |(refine Bi f aC.s S bh bd 2 S hE S (f.ns-2+1) S ?_;intro r6 oG pJ ey fS;replace aC:=aC.mono ey;replace aV:=aV.mono ey;(try replace dR:=dR.mono ey);(try replace gj:=gj.mono ey);(try replace cR:=cR.mono ey);(try replace hE:=hE.mono ey);(try replace fS:=fS.mono ey);(try replace jj:=jj.mono ey))
  |(intro w' bj;exact⟨z,_,_,rfl,bj.1,bj.2,By aC fS S gG zt Bt ⟨2,a,pr,0,0,0,0,none,0,0⟩ (bL.nil _ _) ⟨by simp,by simp⟩ (by simp) (fun _=>⟨aP.2.1,aP.2.2⟩) (fun h=>by simp at h) (fun h=>by simp at h)⟩)
  |(refine kc .int jj a.toNat (vb S) (vc S S) ?_;intro du UF cR)
  |(refine Pj cR ?_)
  |(intro w' bj;exact⟨z,_,_,rfl,bj.1,bj.2,stepG {f.pass oG (f.ns-1) pJ with bK:=DX,bD:=EH} bq.zero ⟨aC.p,jj,fS,aC.k⟩ (bL.nil _ _) ⟨rfl,rfl,rfl,rfl,by show f.ns-1<=100;omega,by show 0<=f.aA+1;omega,by show f.aA+1<=_;omega,.inr ⟨by decide,rfl⟩,by show f.aH+1<=2000;omega,⟨by decide,by decide⟩,(fun h=>by rcases h with h|h<;>simp[bq.zero] at h),(fun h=>by simp[bq.zero] at h),(fun h=>by simp[bq.zero] at h)⟩⟩)
  |(refine kc .int aC.l a.toNat (vb S) (vc S S) ?_;intro du UF cR)
  |(refine rJ cR ?_;intro bT)
  |(refine oh [bT] (by simp) ?_;intro wL wG hL hE;replace aC:=aC.mono hL;replace aV:=aV.mono hL;(try replace dR:=dR.mono hL);(try replace gj:=gj.mono hL);(try replace cR:=cR.mono hL);(try replace hE:=hE.mono hL);(try replace fS:=fS.mono hL);(try replace jj:=jj.mono hL))
  |(refine ba.not (fun h=>absurd AE (fun b0=>by rw[tn.2 b0] at h;cases h)) (fun h=>?_))
  |(refine ba.intro (fun h=>?_) (fun h=>absurd AE (fun b0=>by rw[tn.2 b0] at h;cases h)))
  |(intro w' bj;exact⟨z,_,_,rfl,bj.1.1,bj.1.2,Pg aC AE.pos st gG hl s1⟩)
  |(refine oh [a] (by simp) ?_;intro wL wG hL hE;replace aC:=aC.mono hL;replace aV:=aV.mono hL;(try replace dR:=dR.mono hL);(try replace gj:=gj.mono hL);(try replace cR:=cR.mono hL);(try replace hE:=hE.mono hL);(try replace fS:=fS.mono hL);(try replace jj:=jj.mono hL))
  |(refine Bi f aC.s S bh bd 0 S hE S (f.ns+1) S ?_;intro r6 oG pJ ey fS;replace aC:=aC.mono ey;replace aV:=aV.mono ey;(try replace dR:=dR.mono ey);(try replace gj:=gj.mono ey);(try replace cR:=cR.mono ey);(try replace hE:=hE.mono ey);(try replace fS:=fS.mono ey);(try replace jj:=jj.mono ey))
  |(intro w' bj;exact⟨z,_,_,rfl,bj.1,bj.2,By aC fS S gG zt Bt bq.zero (bL.nil _ _) ⟨by decide,by decide⟩ bC (fun h=>by rcases h with h|h<;>simp[bq.zero] at h) (fun h=>by simp[bq.zero] at h) (fun h=>by simp[bq.zero] at h)⟩)
  |(refine ay.Gr ?_)
  |(refine bk.Gr ?_)
  |refine eg ?_
  |(refine eh ?_ ?_<;>(try with_reducible intro h)<;>(try(exfalso;omega)))
  |with_reducible intro r)<;>(try conv=>whnf))):P:=h
theorem ahb{b:iE}{G:bY}{w:World}(ab:b.k8 G w){i:Int}{k:Nat}(U:k<b.n)(hi:i=k){K:Value->Prop}(h:∀g o x0 x1 fL bT,g<w.heap.size->G g=none->(∀j v,[J x0,J x1,J fL,J bT][j]?=some v->w.cell? ⟨g,o+j,none⟩=some v)->K (.pointer (some ⟨g,o,none⟩))):gn b.A b.n i 4 K:=by
 obtain⟨g,o,O,V,aa,x0,x1,fL,bT,ag⟩:=ab k U
 exact zh O k hi U (h g (o+k*4) x0 x1 fL bT V aa ag)
def fQ.pass(f:fQ)(A:Option Addr)(n c:Nat):fQ:={f with aA:=f.aA+1,b4:=A,ns:=n,cs:=c,aH:=f.aH+1}
theorem Bi{Z:bF}{z:dk}{G eo:bY}{w0:World}(f:fQ)(ar:bL G .int f.b4 f.ns f.cs)(ab:f.ns<=1000)(bh:0<=f.aA/\f.aA<=1000000)(xt:0<=f.aH/\f.aH<=1000000)(sX:Nat)(bs:sX<=f.ns){A:Option Addr}{n c:Nat}(ai:bL G .int A n c)(aB:n<=1000)(m:Nat)(ad:m=f.ns-sX+n){K:Value->an->Prop}(h:∀bG aR aN,G.le bG->bL bG .int aR m aN->K (f.pass aR m aN).val (cQ z bG eo w0)){vs:Array Value}(ox:vs=#[f.val,J sX,.slice A n c]:=by rfl):ay Tryz.prog (cQ z G eo w0) 229 vs K Z:=by
 subst ad
 refine ay.ku [f.val,J sX,.slice A n c] X4.dg _ (fun w eA _=>amM z G w eA f ar sX bs A n c ai S) ?_ ox
 rintro dt bG v l ⟨rfl,aR,aN,rfl,s⟩
 have e1:IntKind.i64.wrap (f.aA+1)=f.aA+1:=by rw[IntKind.wrap_i64];omega
 have e2:IntKind.i64.wrap (f.aH+1)=f.aH+1:=by rw[IntKind.wrap_i64];omega
 have:=h bG aR aN l s
 rw[e1,e2]
 exact this
structure Qx(c:hx)(B:Nat->iE)(f:fQ)(k:bq)(c6:fQ):Prop where
 fn:c6.fn=f.fn
 np:c6.np=f.np
 aM:c6.aM=f.aM
 a5:c6.a5=f.a5
 ns:c6.ns<=100
 gG:0<=c6.aA
 hl:c6.aA<=(B f.fn.toNat).n
 q0:k.kind=5/\0<f.a5/\c6.aH=f.aH\/k.kind≠5/\c6.aH=f.aH+1
 s1:c6.aH<=2000
 k0:0<=k.kind/\k.kind<=6
 iY:k.kind=1\/k.kind=2->0<=k.a/\k.a<c.bB
 oy:k.kind=3->1<=k.o0/\k.o0<=7/\0<=k.o1/\k.o1<c.many k.o0
 nY:k.kind=4->k.n<=100
def B9(c:hx)(B:Nat->iE)(z:dk)(f:fQ)(dt:dk)(bG:bY)(v:Value):Prop:=dt=z/\∃(c6:fQ) (k:bq) (e:Int),v= .tuple #[c6.val,k.val,J e]/\c6.gf bG/\bL bG .int k.A k.n k.c/\(e=0->Qx c B f k c6)
def bq.zero:bq:=⟨0,0,0,0,0,0,0,none,0,0⟩
def bq.EW:bq:=⟨5,0,0,0,0,0,0,none,0,0⟩
section
variable{c:hx}{B:Nat->iE}{z:dk}{f:fQ}{G:bY}
theorem Gi(aU:f.gf G){e:Int}(af:e≠0):B9 c B z f z G (.tuple #[f.val,bq.zero.val,J e]):=⟨rfl,f,bq.zero,e,rfl,aU,bL.nil _ _,fun h=>absurd h af⟩
theorem Pg(aU:f.gf G)(U:0<f.a5)(ar:f.ns<=100)(gG:0<=f.aA)(hl:f.aA<=(B f.fn.toNat).n)(q0:f.aH<=2000):B9 c B z f z G (.tuple #[f.val,bq.EW.val,J 0]):=
 ⟨rfl,f,bq.EW,0,rfl,aU,bL.nil _ _,fun _=>⟨rfl,rfl,rfl,rfl,ar,gG,hl,.inl ⟨rfl,U,rfl⟩,q0,⟨by decide,by decide⟩,(fun h=>by rcases h with h|h<;>simp[bq.EW] at h),(fun h=>by simp[bq.EW] at h),(fun h=>by simp[bq.EW] at h)⟩⟩
theorem By(aU:f.gf G){A:Option Addr}{n aN:Nat}(ar:bL G .int A n aN)(aB:n<=100)(gG:0<=f.aA)(hl:f.aA<(B f.fn.toNat).n)(q0:f.aH<2000)(k:bq)(U:bL G .int k.A k.n k.c)(y6:0<=k.kind/\k.kind<=6)(afL:k.kind≠5)(ou:k.kind=1\/k.kind=2->0<=k.a/\k.a<c.bB)(y7:k.kind=3->1<=k.o0/\k.o0<=7/\0<=k.o1/\k.o1<c.many k.o0)(afK:k.kind=4->k.n<=100):B9 c B z f z G (.tuple #[(f.pass A n aN).val,k.val,J 0]):=
 ⟨rfl,f.pass A n aN,k,0,rfl,⟨aU.p,aU.l,ar,aU.k⟩,U,fun _=>⟨rfl,rfl,rfl,rfl,aB,by show 0<=f.aA+1;omega,by show f.aA+1<=_;omega,.inr ⟨afL,rfl⟩,by show f.aH+1<=2000;omega,y6,ou,y7,afK⟩⟩
theorem stepG(c6:fQ)(k:bq)(aU:c6.gf G)(U:bL G .int k.A k.n k.c)(h:Qx c B f k c6):B9 c B z f z G (.tuple #[c6.val,k.val,J 0]):=⟨rfl,c6,k,0,rfl,aU,U,fun _=>h⟩
end
theorem nn.conv{w w':World}{c:hx}{B:Nat->iE}{f:fQ}{ins:Nat}{op a b d n:Int}(h:∀x,oJ w' f.bq f.a5 x↔oJ w f.bq f.a5 x)(t:nn w c B f ins op a b d n):nn w' c B f ins op a b d n:=by
 obtain⟨pos,iY,hV,oy,nY,rI,oz,Nn,ID,No,Np,Nr,Ns,Nu,all⟩:=t
 refine⟨pos,iY,hV,fun e=>?_,nY,rI,oz,Nn,ID,No,Np,Nr,Ns,Nu,all⟩
 rw[h a]
 exact oy e
theorem arY{Z:bF}{z:dk}{G eo:bY}{w0:World}{c:hx}{B:Nat->iE}(aj:c.k8 B eo w0){f:fQ}(U:bL G .ny f.bq f.a5 f.bZ)(aB:f.a5<=1000000)(Sh:0<=f.fn)(qA:f.fn<c.aX){op a b d:Int}{K:Value->an->Prop}(h:∀be n,(n<0\/nn be c B f (B f.fn.toNat).n op a b d n)->K (J n) ((cQ z G eo w0).u2 be)){vs:Array Value}(ox:vs=#[c.val,f.val,.agg #[J op,J a,J b,J d]]:=by rfl):ay Tryz.prog (cQ z G eo w0) 227 vs K Z:=by
 subst ox
 constructor
 refine⟨X3.dg,fun w au=>(arX z G w au.1 c B (aj.ex au.2) f U aB Sh qA op a b d).mono fun e w' ⟨v,O,V,n,aa,ag⟩=>?_⟩
 subst aa
 obtain⟨a6,bU⟩:=Ay au (au.1.below V) (gU.FJ V)
 refine .inl ⟨_,(cQ z G eo w0).u2 w',O,⟨a6.size,a6.block,a6.new⟩,⟨bU,fun _ _=>rfl⟩,h w' n ?_⟩
 rcases ag with ag|ag
 ·exact .inl ag
 ·exact .inr (ag.conv fun x=>oJ.below au.1 U V x)
theorem abn{Z:bF}{z:dk}{G eo:bY}{w0 be:World}{f:fQ}(U:bL G .ny f.bq f.a5 f.bZ)(aB:f.a5<=1000000){x:Int}{K:Value->an->Prop}(h:∀b,(b=true↔oJ be f.bq f.a5 x)->K (.bool b) ((cQ z G eo w0).u2 be)){vs:Array Value}(ox:vs=#[f.val,J x]:=by rfl):ay Tryz.prog ((cQ z G eo w0).u2 be) 228 vs K Z:=by
 subst ox
 constructor
 refine⟨P0.dg,fun w au=>(QT z G w au.1.1 f U aB x).mono fun e w' ⟨v,O,V,b,aa,ag⟩=>?_⟩
 subst aa
 obtain⟨a6,bU⟩:=Ay au.1 (au.1.1.below V) (gU.FJ V)
 refine .inl ⟨_,(cQ z G eo w0).u2 be,O,⟨a6.size,a6.block,a6.new⟩,⟨bU,fun k ir=>?_⟩,h b (ag.trans ?_)⟩
 ·have cc:k<w.heap.size:=(cQ z G eo w0).lt w au.1 k ir
  exact(V.block k cc).trans (au.2 k ir)
 ·have key:∀i g o,i<f.a5->f.bq=some ⟨g,o,none⟩->w.cell? ⟨g,o+i*2+1,none⟩=be.cell? ⟨g,o+i*2+1,none⟩:=fun i g o hi b0=>by
   obtain⟨b,off,fE,ab,⟨y,bV⟩,_⟩:=U.at_ au.1.1 hi
   rw[b0] at fE
   injection fE with fE
   injection fE with dh cT
   subst dh
   exact World.cell?_of_block (au.2 _ (.inl ⟨y,bV⟩))
  constructor
  ·rintro⟨i,g,o,dh,cT,fz⟩;exact⟨i,g,o,dh,cT,(key i g o dh cT).symm.trans fz⟩
  ·rintro⟨i,g,o,dh,cT,fz⟩;exact⟨i,g,o,dh,cT,(key i g o dh cT).trans fz⟩
theorem oJ.pos{w:World}{A:Option Addr}{n:Nat}{x:Int}(h:oJ w A n x):0<n:=by obtain⟨i,_,_,h,_⟩:=h;omega
theorem EM(r:eT){G:bY}{A:Option Addr}{n c:Nat}{l:Int}{K:Value->Prop}(ar:bL G r A n c)(m:Nat)(ad:m<=n)(ai:l=((n-m:Nat):Int))(U:∀aR aN,bL G r aR m aN->K (.slice aR m aN)):kN A n c r.size (some l) none K:=
 acP r ar (n-m) ai S fun aR aN h=>by
  rw[show n-(n-m)=m by omega] at h|-
  exact U aR aN h
theorem asE(z:dk)(G:bY)(w:World)(eA:er z G w)(c:hx)(B:Nat->iE)(aj:c.k8 B G w)(eZ:∀k,k<c.aX->(B k).n<=400)(f:fQ)(aC:f.gf G)(aB:f.a5<=10000)(ai:f.aM<=10000)(R:Ev c B f):
  Calls Tryz.prog 153 #[c.val,f.val] w (lb z G w (B9 c B z f)):=by
 have U:f.fn.toNat<c.aX:=by have:=R.f0;have:=R.f1;omega
 have Mu:f.fn=(f.fn.toNat:Int):=by have:=R.f0;omega
 have awk:=eZ _ U
 obtain⟨f0,f1,gG,hl,zz,s1,st⟩:=R
 refine iy XY W (cQ z G G w) (cQ.start eA) ?_
 conv=>whnf
 refine Iw aj U Mu ?_
 intro bH fX AB E2 yV
 conv=>whnf
 refine akA (e8 61 _ W) rfl (yV 2 _ rfl) AB E2 ?_
 conv=>whnf
 refine ba.dec (fun xt=>?_) (fun xt=>?_)
 ·conv=>whnf
  intro w' bj
  exact⟨z,_,_,rfl,bj.1,bj.2,Gi aC bC⟩
 conv=>whnf
 refine ba.dec (fun ml=>?_) (fun ml=>?_)
 ·conv=>whnf
  intro w' bj
  exact⟨z,_,_,rfl,bj.1,bj.2,Gi aC bC⟩
 conv=>whnf
 have zd:f.aA.toNat<(B f.fn.toNat).n:=by omega
 have Ig:f.aA=(f.aA.toNat:Int):=by omega
 refine ahb (aj.b _ U) zd Ig ?_
 intro gr aQ op a b d a6 bU dh
 conv=>whnf
 refine TU (e8 60 _ W) rfl _ rfl dh a6 bU ?_
 conv=>whnf
 refine arY aj aC.k S f0 f1 ?_
 intro be n bX
 by_cases ts:n<0
 ·conv=>whnf
  refine eS.go ?_
  conv=>whnf
  refine ba.dec (fun h=>?_) (fun h=>absurd ts h)
  conv=>whnf
  intro w' bj
  exact⟨z,_,_,rfl,bj.1.1,bj.1.2,Gi aC bC⟩
 obtain⟨m,rfl⟩:∃m:Nat,n=m:=⟨n.toNat,by omega⟩
 have T:=bX.resolve_left ts
 clear bX ts
 by_cases ad:m<=f.ns
 rotate_left
 ·conv=>whnf
  exact mO
 have bh:0<=f.aA/\f.aA<=1000000:=by omega
 have bd:0<=f.aH/\f.aH<=1000000:=by omega
 have zt:f.aA<(B f.fn.toNat).n:=by omega
 have Bt:f.aH<2000:=by omega
 clear yV dh zd Ig xt ml
 have all:=T.all
 rcases(show op=1\/op=2\/op=3\/op=4\/op=5\/op=6\/op=7\/op=8\/op=9\/op=10\/op=11\/op=12\/op=13\/op=14\/op=15\/op=16\/op=17\/op=18\/op=19 by omega) with rfl|rfl|rfl|rfl|rfl|rfl|rfl|rfl|rfl|rfl|rfl|rfl|rfl|rfl|rfl|AA|rfl|rfl|rfl
 all_goals clear all
 ·have dY:m=0:=by have:=T.iY rfl;omega
  subst dY
  clear T
  have au:IntKind.i64.wrap ((f.ns:Int)-((0:Nat):Int))=((f.ns-0:Nat):Int):=by rw[IntKind.wrap_i64];omega
  conv=>whnf
  exact mO
 ·have aP:=T.hV rfl
  have dY:m=0:=by omega
  subst dY
  clear T
  have au:IntKind.i64.wrap ((f.ns:Int)-((0:Nat):Int))=((f.ns-0:Nat):Int):=by rw[IntKind.wrap_i64];omega
  by_cases AE:oJ be f.bq f.a5 a
  ·conv=>whnf
   exact mO
  ·conv=>whnf
   exact mO
 ·have aP:=T.oy rfl
  clear T
  rcases aP with⟨avP,avQ,⟨AE,dY⟩|⟨AE,dY⟩⟩
  ·have dY:m=0:=by omega
   subst dY
   have au:IntKind.i64.wrap ((f.ns:Int)-((0:Nat):Int))=((f.ns-0:Nat):Int):=by rw[IntKind.wrap_i64];omega
   conv=>whnf
   exact mO
  ·have dY:m=1:=by omega
   subst dY
   have au:IntKind.i64.wrap ((f.ns:Int)-((1:Nat):Int))=((f.ns-1:Nat):Int):=by rw[IntKind.wrap_i64];omega
   conv=>whnf
   exact mO
 ·have aP:=T.nY rfl
  have dY:m=0:=by have:=aP;omega
  subst dY
  clear T
  have au:IntKind.i64.wrap ((f.ns:Int)-((0:Nat):Int))=((f.ns-0:Nat):Int):=by rw[IntKind.wrap_i64];omega
  conv=>whnf
  exact mO
 ·have aP:=T.rI rfl
  have dY:m=1:=by have:=aP;omega
  subst dY
  clear T
  have au:IntKind.i64.wrap ((f.ns:Int)-((1:Nat):Int))=((f.ns-1:Nat):Int):=by rw[IntKind.wrap_i64];omega
  conv=>whnf
  exact mO
 ·have dY:m=2:=by have:=T.oz S;omega
  subst dY
  clear T
  have au:IntKind.i64.wrap ((f.ns:Int)-((2:Nat):Int))=((f.ns-2:Nat):Int):=by rw[IntKind.wrap_i64];omega
  conv=>whnf
  exact mO
 ·have dY:m=2:=by have:=T.oz S;omega
  subst dY
  clear T
  have au:IntKind.i64.wrap ((f.ns:Int)-((2:Nat):Int))=((f.ns-2:Nat):Int):=by rw[IntKind.wrap_i64];omega
  conv=>whnf
  exact mO
 ·have dY:m=2:=by have:=T.oz S;omega
  subst dY
  clear T
  have au:IntKind.i64.wrap ((f.ns:Int)-((2:Nat):Int))=((f.ns-2:Nat):Int):=by rw[IntKind.wrap_i64];omega
  conv=>whnf
  exact mO
 ·have dY:m=2:=by have:=T.oz S;omega
  subst dY
  clear T
  have au:IntKind.i64.wrap ((f.ns:Int)-((2:Nat):Int))=((f.ns-2:Nat):Int):=by rw[IntKind.wrap_i64];omega
  conv=>whnf
  exact mO
 ·have dY:m=2:=by have:=T.oz S;omega
  subst dY
  clear T
  have au:IntKind.i64.wrap ((f.ns:Int)-((2:Nat):Int))=((f.ns-2:Nat):Int):=by rw[IntKind.wrap_i64];omega
  conv=>whnf
  exact mO
 ·have aP:=T.Nn rfl
  clear T
  have au:IntKind.i64.wrap ((f.ns:Int)-((m:Nat):Int))=((f.ns-m:Nat):Int):=by rw[IntKind.wrap_i64];omega
  conv=>whnf
  exact mO
 ·have dY:m=1:=by have:=T.ID S;omega
  subst dY
  clear T
  have au:IntKind.i64.wrap ((f.ns:Int)-((1:Nat):Int))=((f.ns-1:Nat):Int):=by rw[IntKind.wrap_i64];omega
  conv=>whnf
  exact mO
 ·have aP:=T.No rfl
  clear T
  have au:IntKind.i64.wrap ((f.ns:Int)-((m:Nat):Int))=((f.ns-m:Nat):Int):=by rw[IntKind.wrap_i64];omega
  conv=>whnf
  exact mO
 ·have dY:m=0:=by have:=T.Np rfl;omega
  subst dY
  clear T
  have au:IntKind.i64.wrap ((f.ns:Int)-((0:Nat):Int))=((f.ns-0:Nat):Int):=by rw[IntKind.wrap_i64];omega
  conv=>whnf
  exact mO
 ·have aP:=T.Nr rfl
  have dY:m=0:=by have:=aP;omega
  subst dY
  clear T
  have au:IntKind.i64.wrap ((f.ns:Int)-((0:Nat):Int))=((f.ns-0:Nat):Int):=by rw[IntKind.wrap_i64];omega
  conv=>whnf
  exact mO
 ·have aP:=T.Ns AA
  have dY:m=1:=by have:=aP;omega
  subst dY
  clear T
  have au:IntKind.i64.wrap ((f.ns:Int)-((1:Nat):Int))=((f.ns-1:Nat):Int):=by rw[IntKind.wrap_i64];omega
  conv=>whnf
  repeat'(first
   |(refine eS.go ?_;conv=>whnf)
   |(refine ba.dec (fun h=>?_) (fun h=>?_)<;>first|(exfalso;omega)|conv=>whnf)
   |(refine ba.eq (fun h=>?_) (fun h=>?_)<;>first|(exfalso;omega)|conv=>whnf)
   |(refine EM .int aC.s 1 ad au ?_;intro bf bA aV;conv=>whnf)
   |(intro w' bj;exact⟨z,_,_,rfl,bj.1.1,bj.1.2,Gi aC bC⟩)
   |(refine Bi f aC.s S bh bd 1 S (bL.nil _ _) S (f.ns-1) S ?_;intro r6 oG pJ ey fS;replace aC:=aC.mono ey;replace aV:=aV.mono ey;(try replace dR:=dR.mono ey);(try replace gj:=gj.mono ey);(try replace cR:=cR.mono ey);(try replace hE:=hE.mono ey);(try replace fS:=fS.mono ey);(try replace jj:=jj.mono ey);conv=>whnf)
   |(refine kc .int aV 0 rfl S ?_;intro dv amg dR;conv=>whnf)
   |(refine rJ dR ?_;intro pr;conv=>whnf)
   |(refine ay.Gr ?_;conv=>whnf)
   |(refine bk.Gr ?_;conv=>whnf)
   |(apply And.intro<;>conv=>whnf))
  ·intro w' bj
   exact⟨z,_,_,rfl,bj.1,bj.2,stepG {f.pass oG (f.ns-1) pJ with aA:=a} bq.zero ⟨aC.p,aC.l,fS,aC.k⟩ (bL.nil _ _) ⟨rfl,rfl,rfl,rfl,by show f.ns-1<=100;omega,by show 0<=a;omega,by show a<=_;omega,.inr ⟨by decide,rfl⟩,by show f.aH+1<=2000;omega,⟨by decide,by decide⟩,(fun h=>by rcases h with h|h<;>simp[bq.zero] at h),(fun h=>by simp[bq.zero] at h),(fun h=>by simp[bq.zero] at h)⟩⟩
  ·intro w' bj
   exact⟨z,_,_,rfl,bj.1,bj.2,By aC fS S gG zt Bt bq.zero (bL.nil _ _) ⟨by decide,by decide⟩ bC (fun h=>by rcases h with h|h<;>simp[bq.zero] at h) (fun h=>by simp[bq.zero] at h) (fun h=>by simp[bq.zero] at h)⟩
 ·have aP:=T.Nu rfl
  clear T
  rcases aP with⟨MH,dY⟩|⟨MH,dY⟩
  ·have dY:m=0:=by omega
   subst dY
   have au:IntKind.i64.wrap ((f.ns:Int)-((0:Nat):Int))=((f.ns-0:Nat):Int):=by rw[IntKind.wrap_i64];omega
   conv=>whnf
   exact mO
  ·have dY:m=1:=by omega
   subst dY
   have au:IntKind.i64.wrap ((f.ns:Int)-((1:Nat):Int))=((f.ns-1:Nat):Int):=by rw[IntKind.wrap_i64];omega
   conv=>whnf
   exact mO
 ·have dY:m=1:=by have:=T.ID S;omega
  subst dY
  clear T
  have au:IntKind.i64.wrap ((f.ns:Int)-((1:Nat):Int))=((f.ns-1:Nat):Int):=by rw[IntKind.wrap_i64];omega
  conv=>whnf
  exact mO
 ·have dY:m=2:=by have:=T.oz S;omega
  subst dY
  clear T
  have au:IntKind.i64.wrap ((f.ns:Int)-((2:Nat):Int))=((f.ns-2:Nat):Int):=by rw[IntKind.wrap_i64];omega
  conv=>whnf
  exact mO
structure YD(c:hx)(f:fQ)(k:bq)(c6:fQ):Prop where
 fn:c6.fn=f.fn
 np:c6.np=f.np
 aM:c6.aM=f.aM
 a5:c6.a5=f.a5
 ns:c6.ns<=100
 q0:k.kind=5/\0<f.a5/\f.aH<=c6.aH\/k.kind≠5/\f.aH<c6.aH
 zz:0<=f.aH
 s1:c6.aH<=2000
 k0:1<=k.kind/\k.kind<=6
 iY:k.kind=1\/k.kind=2->0<=k.a/\k.a<c.bB
 oy:k.kind=3->1<=k.o0/\k.o0<=7/\0<=k.o1/\k.o1<c.many k.o0
 nY:k.kind=4->k.n<=100
def Kv(c:hx)(z:dk)(f:fQ)(dt:dk)(bG:bY)(v:Value):Prop:=dt=z/\∃(c6:fQ) (k:bq) (e:Int),v= .tuple #[c6.val,k.val,J e]/\c6.gf bG/\bL bG .int k.A k.n k.c/\(e=0->YD c f k c6)
theorem N3{c:hx}{z:dk}{f:fQ}{G:bY}(aU:f.gf G){e:Int}(af:e≠0):Kv c z f z G (.tuple #[f.val,bq.zero.val,J e]):=⟨rfl,f,bq.zero,e,rfl,aU,bL.nil _ _,fun h=>absurd h af⟩
structure YF(B:Nat->iE)(f g:fQ):Prop where
 fn:g.fn=f.fn
 np:g.np=f.np
 aM:g.aM=f.aM
 a5:g.a5=f.a5
 ns:g.ns<=100
 gG:0<=g.aA
 hl:g.aA<=(B f.fn.toNat).n
 zz:f.aH<=g.aH
 s1:g.aH<=2000
theorem alQ(z:dk)(G:bY)(w:World)(eA:er z G w)(c:hx)(B:Nat->iE)(aj:c.k8 B G w)(eZ:∀k,k<c.aX->(B k).n<=400)(f:fQ)(aC:f.gf G)(aB:f.a5<=10000)(ai:f.aM<=10000)(ar:f.ns<=10000):
  Calls Tryz.prog 112 #[c.val,f.val] w (lb z G w (Kv c z f)):=by
 refine iy XT W (cQ z G G w) (cQ.start eA) ?_
 conv=>whnf
 refine ay.ph [c.val,f.val] XX.dg (fun v=> ∃b,v= .bool b/\(b=true->Ev c B f)) (fun w' ef jQ=>aoZ z G w' ef c B (aj.ex jQ) f aC S S S) ?_
 rintro v ⟨b,rfl,ab⟩
 conv=>whnf
 refine ba.not (fun h=>?_) (fun h=>?_)
 ·conv=>whnf
  intro w' bj
  exact⟨z,_,_,rfl,bj.1,bj.2,N3 aC bC⟩
 have R:=ab h
 have ap7:=R.zz
 conv=>whnf
 refine c9.on (X:=bY×fQ×Nat) (fun x=> [(2,.p 2 0),(3,.p 3 0),(4,.p 4 0),(5,.p 5 0),(8,.p 8 0),(9,.v (J x.2.2))]) (fun x=> [(2,25,c.l),(3,108,f.l),(4,108,fQ.zero.l),(5,74,bq.zero.l),(8,108,x.2.1.l)]) (fun x=>cQ z x.1 G w) (fun x=>f.gf x.1/\x.2.1.gf x.1/\YF B f x.2.1/\x.2.2<=2002) (fun x=>2002-x.2.2) (G,f,0) ⟨aC,aC,⟨rfl,rfl,rfl,rfl,R.st,R.gG,R.hl,my _,R.s1⟩,by show 0<=2002;omega⟩ ⟨rfl,rfl,rfl,rfl,rfl,rfl,trivial⟩ ⟨rfl,rfl,rfl,rfl,rfl,trivial⟩ ?_
 clear aC ab
 rintro⟨fw,g,i⟩ r ⟨aC,RP,l9,hi⟩
 simp only at aC RP l9 hi
 conv=>whnf
 refine ba.dec (fun h=>?_) (fun h=>?_)
 ·have h:(i:Int)<2002:=h
  have aaN:Ev c B g:=⟨by rw[l9.fn];exact R.f0,by rw[l9.fn];exact R.f1,l9.gG,by rw[l9.fn];exact l9.hl,by have:=l9.zz;omega,l9.s1,l9.ns⟩
  have Mw:g.a5<=10000:=by rw[l9.a5];exact aB
  have fj:g.aM<=10000:=by rw[l9.aM];exact ai
  conv=>whnf
  refine ay.ku [c.val,g.val] XY.dg (B9 c B z g) (fun w' ef jQ=>asE z fw w' ef c B (aj.ex jQ) eZ g RP Mw fj aaN) ?_
  rintro dt gV v dd ⟨rfl,bH,k,e,rfl,RQ,CW,gg⟩
  replace aC:=aC.mono dd
  conv=>whnf
  refine ba.ne (fun af=>?_) (fun af=>?_)
  ·conv=>whnf
   intro w' bj
   exact⟨dt,_,_,rfl,bj.1,bj.2,N3 aC af⟩
  have jI:=gg af
  conv=>whnf
  refine ba.ne (fun U=>?_) (fun U=>?_)
  ·conv=>whnf
   intro w' bj
   refine⟨dt,_,_,rfl,bj.1,bj.2,rfl,bH,k,0,rfl,RQ,CW,fun _=>?_⟩
   refine⟨jI.fn.trans l9.fn,jI.np.trans l9.np,jI.aM.trans l9.aM,jI.a5.trans l9.a5,jI.ns,?_,ap7,jI.s1,?_,jI.iY,jI.oy,jI.nY⟩
   ·have O:=l9.zz
    rcases jI.q0 with⟨V,aa,ag⟩|⟨V,aa⟩
    ·exact .inl ⟨V,by rw[<-l9.a5];exact aa,by rw[ag];exact O⟩
    ·exact .inr ⟨V,by omega⟩
   ·have:=jI.k0
    omega
  ·conv=>whnf
   have xt:bH.aH=g.aH+1:=by
    rcases jI.q0 with⟨V,aa,ag⟩|⟨V,aa⟩
    ·rw[U] at V;cases V
    ·exact aa
   exact cC (gV,bH,i+1) (by show 2002-(i+1)<2002-i;omega) ⟨aC,RQ,⟨jI.fn.trans l9.fn,jI.np.trans l9.np,jI.aM.trans l9.aM,jI.a5.trans l9.a5,jI.ns,jI.gG,by have:=jI.hl;rw[l9.fn] at this;exact this,by have:=l9.zz;rw[xt];omega,jI.s1⟩,by show i+1<=2002;omega⟩ ⟨rfl,rfl,rfl,rfl,rfl,by show _=_;rw[<-qi i S];rfl,trivial⟩ ⟨rfl,rfl,rfl,rfl,rfl,trivial⟩
 ·conv=>whnf
  intro w' bj
  exact⟨z,_,_,rfl,bj.1,bj.2,N3 aC bC⟩
end Go.Proofs.YtcflcebplhdcpaaGreat
