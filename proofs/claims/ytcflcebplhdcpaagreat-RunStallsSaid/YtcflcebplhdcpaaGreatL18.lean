/- Lemmas, part 18; each states its own conditions. -/
import Derived.Test.YtcflcebplhdcpaaGreatL17
namespace Go.Proofs.YtcflcebplhdcpaaGreat
open Go.RowKit
set_option linter.unusedSimpArgs false
set_option linter.unusedVariables false
set_option maxRecDepth 100000
set_option maxHeartbeats 16000000
theorem Xr {P:Prop} (h:P:=by
 repeat'((first
  |(refine kc .int U i rfl cc ?_;intro b1 p5 e1)
  |(refine kc .int ah i rfl S ?_;intro b1 p5 e1)
  |(refine rJ e1 ?_;intro x1)
  |(refine oh [_] (by simp) ?_;intro gV bf dd aV;replace U:=U.mono dd;replace ah:=ah.mono dd;(try replace jk:=jk.mono dd);(try replace h7:=h7.mono dd);(try replace bu:=bu.mono dd);(try replace cw:=cw.mono dd);(try replace fF:=fF.mono dd))
  |(refine g3 .int jk aV (d.a5+1) S S ?_;intro j5 da c7 dN bu;replace U:=U.mono dN;replace ah:=ah.mono dN;replace h7:=h7.mono dN;clear jk)
  |(refine g3 .int h7 aV (d.cJ+1) S S ?_;intro iI eJ fa dA cw;replace U:=U.mono dA;replace ah:=ah.mono dA;replace bu:=bu.mono dA;clear h7)
  |(refine g3 .int bu aV (d.a5+1+1) S S ?_;intro nk gS gW hd fF;replace U:=U.mono hd;replace ah:=ah.mono hd;replace cw:=cw.mono hd;clear bu)
  |(refine g3 .int cw aV (d.cJ+1+1) S S ?_;intro r6 oG pJ ey fS;replace U:=U.mono ey;replace ah:=ah.mono ey;replace fF:=fF.mono ey)
  |(exact cC (_,⟨d.k,gS,d.a5+1+1,gW,oG,d.cJ+1+1,pJ⟩,true,i+1) (by show c.a5-(i+1)<c.a5-i;omega) ⟨U,ah,⟨fF,fS,fun _=>by show d.a5+1+1=d.cJ+1+1;omega,by show d.a5+1+1<=d.cJ+1+1;omega⟩,o3,by show d.a5+1+1=d.cJ+1+1;omega,by show d.cJ+1+1=i+1+1;omega,by show i+1<=c.a5;omega⟩ ⟨rfl,rfl,rfl,rfl,rfl,rfl,by show _=_;rw[<-jm];rfl,trivial⟩ ⟨rfl,rfl,rfl,trivial⟩)
  |(exact cC (_,⟨d.k,da,d.a5+1,c7,eJ,d.cJ+1,fa⟩,false,i+1) (by show c.a5-(i+1)<c.a5-i;omega) ⟨U,ah,⟨bu,cw,fun _=>by show d.a5+1=d.cJ+1;omega,by show d.a5+1<=d.cJ+1;omega⟩,o3,by show d.a5+1=d.cJ+1;omega,by show d.cJ+1=i+1+0;omega,by show i+1<=c.a5;omega⟩ ⟨rfl,rfl,rfl,rfl,rfl,rfl,by show _=_;rw[<-jm];rfl,trivial⟩ ⟨rfl,rfl,rfl,trivial⟩)
  |(refine oh [_] (by simp) ?_;intro gV bf dd aV;replace U:=U.mono dd;replace ah:=ah.mono dd;replace jk:=jk.mono dd;replace h7:=h7.mono dd;(try replace bu:=bu.mono dd))
  |(refine g3 .int jk aV (d.a5+1) S S ?_;intro j5 da c7 dN bu;replace U:=U.mono dN;replace ah:=ah.mono dN;replace h7:=h7.mono dN;replace jk:=jk.mono dN)
  |(refine g3 .int h7 aV (d.cJ+1) S S ?_;intro iI eJ fa dA cw;replace U:=U.mono dA;replace ah:=ah.mono dA;replace bu:=bu.mono dA)
  |(exact cC (_,⟨d.k,da,d.a5+1,c7,eJ,d.cJ+1,fa⟩,true,i+1) (by show c.a5-(i+1)<c.a5-i;omega) ⟨U,ah,⟨bu,cw,fun _=>by show d.a5+1=d.cJ+1;omega,by show d.a5+1<=d.cJ+1;omega⟩,o3,by show d.a5+1=d.cJ+1;omega,by show d.cJ+1=i+1+1;omega,by show i+1<=c.a5;omega⟩ ⟨rfl,rfl,rfl,rfl,rfl,rfl,by show _=_;rw[<-jm];rfl,trivial⟩ ⟨rfl,rfl,rfl,trivial⟩)
  |refine eg ?_
  |(refine eh ?_ ?_<;>(try with_reducible intro h)<;>(try(exfalso;omega)))
  |with_reducible intro r)<;>(try conv=>whnf))):P:=h
structure kj where
 k:Int
 bq:Option Addr
 a5:Nat
 bZ:Nat
 hZ:Option Addr
 cJ:Nat
 h4:Nat
def kj.val(c:kj):Value:= .agg #[J c.k,.slice c.bq c.a5 c.bZ,.slice c.hZ c.cJ c.h4]
def kj.l(c:kj):List Value:=[J c.k,.slice c.bq c.a5 c.bZ,.slice c.hZ c.cJ c.h4]
def kj.zero:kj:=⟨0,none,0,0,none,0,0⟩
abbrev kj.gf(c:kj)(G:bY):Prop:=zT G c.k c.bq c.a5 c.bZ c.hZ c.cJ c.h4
theorem abm(z:dk)(G:bY)(w:World)(eA:er z G w)(c:kj)(U:bL G .int c.bq c.a5 c.bZ)(aB:c.a5<=1000000)(x:Int):
  Calls Tryz.prog 290 #[c.val,J x] w (lC w fun v=> ∃n:Int,v= J n/\(n= -1\/∃i:Nat,n=i/\i<c.a5)):=by
 refine iy X8 W (hF w) (hF.start w) ?_
 conv=>whnf
 refine c9.on (X:=Nat) (fun k=> [(1,.v (J x)),(2,.p 2 0),(5,.v (J k))]) (fun _=> [(2,117,c.l)]) (fun _=>hF w) (fun k=>k<=c.a5) (fun k=>c.a5-k) 0 (cY _) ⟨rfl,rfl,rfl,trivial⟩ ⟨rfl,trivial⟩ ?_
 intro k r ou
 by_cases cc:k<c.a5
 ·obtain⟨b,off,b0,yX,_,a,aT⟩:=U.at_ eA cc
  simp only[eT.size,h1,vp] at aT
  conv=>whnf
  refine ba.dec (fun aj=>?_) (fun aj=>absurd (Int.ofNat_lt.2 cc) aj)
  conv=>whnf
  refine zh b0 k rfl cc ?_
  conv=>whnf
  refine A3 (e8 3 _ W) rfl aT yX ?_ (by rw[h1])
  conv=>whnf
  refine ba.eq (fun af=>?_) (fun af=>?_)
  ·conv=>whnf
   intro w' bj
   exact⟨_,rfl,bj,_,rfl,.inr ⟨k,rfl,cc⟩⟩
  ·conv=>whnf
   exact cC (k+1) S S ⟨rfl,rfl,by show _=_;rw[<-qi k S];rfl,trivial⟩ ⟨rfl,trivial⟩
 ·conv=>whnf
  refine ba.dec (fun aj=>absurd (Int.ofNat_lt.1 aj) cc) (fun aj=>?_)
  conv=>whnf
  intro w' bj
  exact⟨_,rfl,bj,_,rfl,.inl rfl⟩
theorem as4(z:dk)(G:bY)(w:World)(eA:er z G w)(c:kj)(U:bL G .int c.bq c.a5 c.bZ)(ah:bL G .int c.hZ c.cJ c.h4)(af:c.a5=c.cJ)(aB:c.cJ<=1000000)(key val:Int):
  Calls Tryz.prog 291 #[c.val,J key,J val] w (lb z G w fun dt bG v=>dt=z/\∃aN:kj,v=aN.val/\aN.gf bG/\aN.k=c.k/\aN.cJ=c.cJ+1):=by
 refine iy X9 W (cQ z G G w) (cQ.start eA) ?_
 conv=>whnf
 refine c9.on (X:=bY×kj×Bool×Nat) (fun(_,d,yJ,i)=> [(1,.v (J key)),(2,.v (J val)),(3,.p 3 0),(6,.p 6 0),(7,.p 7 0),(8,.v (.bool yJ)),(9,.v (J i))]) (fun(_,d,_,_)=> [(3,117,c.l),(6,117,kj.zero.l),(7,117,d.l)]) (fun(fw,_,_,_)=>cQ z fw G w) (fun(fw,d,yJ,i)=>bL fw .int c.bq c.a5 c.bZ/\bL fw .int c.hZ c.cJ c.h4/\d.gf fw/\d.k=c.k/\d.a5=d.cJ/\d.cJ=i+yJ.toNat/\i<=c.a5) (fun(_,_,_,i)=>c.a5-i) (G,⟨c.k,none,0,0,none,0,0⟩,false,0) ⟨U,ah,⟨bL.nil _ _,bL.nil _ _,fun _=>rfl,Nat.le_refl _⟩,rfl,rfl,rfl,cY _⟩ ⟨rfl,rfl,rfl,rfl,rfl,rfl,rfl,trivial⟩ ⟨rfl,rfl,rfl,trivial⟩ ?_
 clear U ah
 rintro⟨fw,d,yJ,i⟩ r ⟨U,ah,aL,o3,Mo,xl,hi⟩
 have av1:yJ.toNat<=1:=by cases yJ<;>simp
 have jm:IntKind.i64.wrap ((i:Int)+1)=((i+1:Nat):Int):=qi i S
 obtain⟨jk,h7,_,_⟩:=aL
 by_cases cc:i<c.a5
 ·cases yJ with
  |true=>
   have xl:d.cJ=i+1:=xl
   conv=>whnf
   all_goals exact Xr
  |false=>
   have xl:d.cJ=i:=xl
   conv=>whnf
   all_goals exact Xr
 ·cases yJ with
  |true=>
   have xl:d.cJ=i+1:=xl
   conv=>whnf
   repeat'(first
    |(refine ba.dec (fun h=>?_) (fun h=>?_)<;>first|(exfalso;omega)|conv=>whnf)
    |(refine eS.go ?_;conv=>whnf))
   intro w' bj
   exact⟨z,_,_,rfl,bj.1,bj.2,rfl,d,rfl,⟨jk,h7,fun _=>Mo,by omega⟩,o3,by omega⟩
  |false=>
   have xl:d.cJ=i:=xl
   conv=>whnf
   repeat'(first
    |(refine ba.dec (fun h=>?_) (fun h=>?_)<;>first|(exfalso;omega)|conv=>whnf)
    |(refine eS.go ?_;conv=>whnf)
    |(refine kc .int U i rfl cc ?_;intro b1 p5 e1;conv=>whnf)
    |(refine kc .int ah i rfl S ?_;intro b1 p5 e1;conv=>whnf)
    |(refine rJ e1 ?_;intro x1;conv=>whnf)
    |(refine oh [_] (by simp) ?_;intro gV bf dd aV;replace U:=U.mono dd;replace ah:=ah.mono dd;(try replace jk:=jk.mono dd);(try replace h7:=h7.mono dd);(try replace bu:=bu.mono dd);(try replace cw:=cw.mono dd);(try replace fF:=fF.mono dd);conv=>whnf)
    |(refine g3 .int jk aV (d.a5+1) S S ?_;intro j5 da c7 dN bu;replace U:=U.mono dN;replace ah:=ah.mono dN;replace h7:=h7.mono dN;clear jk;conv=>whnf)
    |(refine g3 .int h7 aV (d.cJ+1) S S ?_;intro iI eJ fa dA cw;replace U:=U.mono dA;replace ah:=ah.mono dA;replace bu:=bu.mono dA;clear h7;conv=>whnf))
   intro w' bj
   exact⟨z,_,_,rfl,bj.1,bj.2,rfl,⟨d.k,da,d.a5+1,c7,eJ,d.cJ+1,fa⟩,rfl,⟨bu,cw,fun _=>by show d.a5+1=d.cJ+1;omega,by show d.a5+1<=d.cJ+1;omega⟩,o3,by show d.cJ+1=c.cJ+1;omega⟩
theorem as6(z:dk)(G:bY)(w:World)(eA:er z G w)(c:kj)(aj:c.gf G)(aB:c.cJ<=1000000)(k:Int):
  Calls Tryz.prog 292 #[c.val,J k] w (lb z G w fun dt bG v=>dt=z/\∃aN:kj,v=aN.val/\aN.gf bG/\aN.k=c.k/\aN.cJ<=c.cJ):=by
 obtain⟨U,ah,gx,m3⟩:=aj
 refine iy Ya W (cQ z G G w) (cQ.start eA) ?_
 conv=>whnf
 refine c9.on (X:=bY×kj×Nat) (fun(_,d,i)=> [(1,.v (J k)),(2,.p 2 0),(4,.p 4 0),(5,.p 5 0),(6,.v (J i))]) (fun(_,d,_)=> [(2,117,c.l),(4,117,kj.zero.l),(5,117,d.l)]) (fun(fw,_,_)=>cQ z fw G w) (fun(fw,d,i)=>bL fw .int c.bq c.a5 c.bZ/\bL fw .int c.hZ c.cJ c.h4/\d.gf fw/\d.k=c.k/\d.cJ<=i/\i<=c.cJ) (fun(_,_,i)=>c.cJ-i) (G,⟨c.k,none,0,0,none,0,0⟩,0) ⟨U,ah,⟨bL.nil _ _,bL.nil _ _,fun _=>rfl,Nat.le_refl _⟩,rfl,Nat.le_refl _,cY _⟩ ⟨rfl,rfl,rfl,rfl,rfl,trivial⟩ ⟨rfl,rfl,rfl,trivial⟩ ?_
 clear U ah
 rintro⟨fw,d,i⟩ r ⟨U,ah,aL,o3,xl,hi⟩
 have jm:IntKind.i64.wrap ((i:Int)+1)=((i+1:Nat):Int):=qi i S
 obtain⟨jk,h7,Hl,Lj⟩:=aL
 by_cases cc:i<c.cJ
 ·by_cases O:c.k=1
  ·have avq:=gx O
   have avr:=Hl (o3.trans O)
   conv=>whnf
   repeat'(first
    |(refine ba.dec (fun h=>?_) (fun h=>?_)<;>first|(exfalso;omega)|conv=>whnf)
    |(refine ba.eq (fun h=>?_) (fun h=>?_)<;>first|(exfalso;omega)|conv=>whnf)
    |(refine eS.go ?_;conv=>whnf)
    |(refine kc .int U i rfl S ?_;intro b1 p5 e1;conv=>whnf)
    |(refine kc .int ah i rfl cc ?_;intro b1 p5 e1;conv=>whnf)
    |(refine rJ e1 ?_;intro x1;conv=>whnf)
    |(refine oh [_] (by simp) ?_;intro gV bf dd aV;replace U:=U.mono dd;replace ah:=ah.mono dd;(try replace jk:=jk.mono dd);(try replace h7:=h7.mono dd);(try replace bu:=bu.mono dd);conv=>whnf)
    |(refine g3 .int jk aV (d.a5+1) S S ?_;intro j5 da c7 dN bu;replace U:=U.mono dN;replace ah:=ah.mono dN;replace h7:=h7.mono dN;clear jk;conv=>whnf)
    |(refine g3 .int h7 aV (d.cJ+1) S S ?_;intro iI eJ fa dA cw;replace U:=U.mono dA;replace ah:=ah.mono dA;replace bu:=bu.mono dA;clear h7;conv=>whnf)
    |exact cC (_,⟨d.k,da,d.a5+1,c7,eJ,d.cJ+1,fa⟩,i+1) (by show c.cJ-(i+1)<c.cJ-i;omega) ⟨U,ah,⟨bu,cw,fun _=>by show d.a5+1=d.cJ+1;omega,by show d.a5+1<=d.cJ+1;omega⟩,o3,by show d.cJ+1<=i+1;omega,by show i+1<=c.cJ;omega⟩ ⟨rfl,rfl,rfl,rfl,by show _=_;rw[<-jm];rfl,trivial⟩ ⟨rfl,rfl,rfl,trivial⟩
    |exact cC (_,d,i+1) (by show c.cJ-(i+1)<c.cJ-i;omega) ⟨U,ah,⟨jk,h7,Hl,Lj⟩,o3,by show d.cJ<=i+1;omega,by show i+1<=c.cJ;omega⟩ ⟨rfl,rfl,rfl,rfl,by show _=_;rw[<-jm];rfl,trivial⟩ ⟨rfl,rfl,rfl,trivial⟩)
  ·conv=>whnf
   repeat'(first
    |(refine ba.dec (fun h=>?_) (fun h=>?_)<;>first|(exfalso;omega)|conv=>whnf)
    |(refine ba.eq (fun h=>?_) (fun h=>?_)<;>first|(exfalso;omega)|conv=>whnf)
    |(refine eS.go ?_;conv=>whnf)
    |(refine kc .int ah i rfl cc ?_;intro b1 p5 e1;conv=>whnf)
    |(refine rJ e1 ?_;intro x1;conv=>whnf)
    |(refine oh [_] (by simp) ?_;intro gV bf dd aV;replace U:=U.mono dd;replace ah:=ah.mono dd;(try replace jk:=jk.mono dd);(try replace h7:=h7.mono dd);conv=>whnf)
    |(refine g3 .int h7 aV (d.cJ+1) S S ?_;intro iI eJ fa dA cw;replace U:=U.mono dA;replace ah:=ah.mono dA;replace jk:=jk.mono dA;clear h7;conv=>whnf)
    |exact cC (_,⟨d.k,d.bq,d.a5,d.bZ,eJ,d.cJ+1,fa⟩,i+1) (by show c.cJ-(i+1)<c.cJ-i;omega) ⟨U,ah,⟨jk,cw,fun e=>absurd (o3.symm.trans e) O,by show d.a5<=d.cJ+1;omega⟩,o3,by show d.cJ+1<=i+1;omega,by show i+1<=c.cJ;omega⟩ ⟨rfl,rfl,rfl,rfl,by show _=_;rw[<-jm];rfl,trivial⟩ ⟨rfl,rfl,rfl,trivial⟩
    |exact cC (_,d,i+1) (by show c.cJ-(i+1)<c.cJ-i;omega) ⟨U,ah,⟨jk,h7,Hl,Lj⟩,o3,by show d.cJ<=i+1;omega,by show i+1<=c.cJ;omega⟩ ⟨rfl,rfl,rfl,rfl,by show _=_;rw[<-jm];rfl,trivial⟩ ⟨rfl,rfl,rfl,trivial⟩)
 ·conv=>whnf
  repeat'(first
   |(refine ba.dec (fun h=>?_) (fun h=>?_)<;>first|(exfalso;omega)|conv=>whnf)
   |(refine eS.go ?_;conv=>whnf))
  intro w' bj
  exact⟨z,_,_,rfl,bj.1,bj.2,rfl,d,rfl,⟨jk,h7,Hl,Lj⟩,o3,by omega⟩
def GJ(z:dk)(c:kj)(dt:dk)(bG:bY)(v:Value):Prop:=dt=z/\∃(aN:kj) (x:Int) (b:Bool),v= .tuple #[aN.val,J x,.bool b]/\aN.gf bG/\aN.cJ<=c.cJ+1
theorem Ln(z:dk)(G:bY)(w:World)(eA:er z G w)(c:kj)(aj:c.gf G)(aB:c.cJ<=1000000)(o0 o1 aQ bl:Int):
  Calls Tryz.prog 233 #[c.val,.agg #[J o0,J o1,J aQ,J bl]] w (lb z G w (GJ z c)):=by
 refine iy J9 W (cQ z G G w) (cQ.start eA) ?_
 conv=>whnf
 refine ay.ph [J o0] J8.dg i3 (fun w _ _=>ama _ w) ?_
 rintro v ⟨awB,rfl⟩
 conv=>whnf
 repeat'(first
  |(refine ba.dec (fun h=>?_) (fun h=>?_)<;>first|(exfalso;omega)|conv=>whnf)
  |(refine ba.eq (fun h=>?_) (fun h=>?_)<;>first|(exfalso;omega)|conv=>whnf)
  |(refine ba.ne (fun h=>?_) (fun h=>?_)<;>first|(exfalso;omega)|conv=>whnf)
  |(refine eS.go ?_;conv=>whnf)
  |(refine ay.ph [c.val,J aQ] X8.dg (fun v=> ∃n:Int,v= J n/\(n= -1\/∃i:Nat,n=i/\i<c.a5)) (fun w' ef _=>abm z G w' ef c aj.jk (by have:=aj.le;omega) aQ) ?_
    rintro v ⟨n,rfl,rfl|⟨i,rfl,hi⟩⟩<;>conv=>whnf)
  |(refine(ba.not (b:=decide (_>=_)) (fun h=>?_) (fun h=>?_):ba (!decide (_>=_)) _ _)<;>first|(exfalso;simp at h;done)|conv=>whnf)
  |(intro w' bj;exact⟨z,_,_,rfl,bj.1,bj.2,rfl,c,_,_,rfl,aj,qp _⟩)
  |(refine kc .int aj.h7 i rfl (by have:=aj.same S;omega) ?_;intro b1 p5 e1;conv=>whnf)
  |(refine kc .int aj.h7 0 rfl S ?_;intro b1 p5 e1;conv=>whnf)
  |(refine rJ e1 ?_;intro x1;conv=>whnf)
  |(refine ay.ku [c.val,J aQ,J bl] X9.dg _ (fun w' ef _=>as4 z _ w' ef c aj.jk aj.h7 (aj.same S) aB aQ bl) ?_
    rintro dt gV v dd ⟨rfl,d,rfl,aL,o3,Mo⟩
    conv=>whnf)
  |(refine ay.ku [c.val,J _] Ya.dg _ (fun w' ef _=>as6 z _ w' ef c aj aB _) ?_
    rintro dt gV v dd ⟨rfl,d,rfl,aL,o3,Mo⟩
    replace aj:=aj.mono dd;(try replace e1:=e1.mono dd);(try replace s1:=s1.mono dd);(try replace aV:=aV.mono dd);(try replace bu:=bu.mono dd)
    conv=>whnf)
  |(intro w' bj;exact⟨_,_,_,rfl,bj.1,bj.2,rfl,d,_,_,rfl,aL,by omega⟩)
  |(refine td .int ?_;intro j5 da dN bu;(try replace cw:=cw.mono dN);replace aj:=aj.mono dN;(try replace e1:=e1.mono dN);(try replace s1:=s1.mono dN);(try replace aV:=aV.mono dN);(try replace aL:=aL.mono dN);conv=>whnf)
  |(refine oh [aQ] (by simp) ?_;intro iI eJ dA cw;replace aj:=aj.mono dA;(try replace e1:=e1.mono dA);(try replace s1:=s1.mono dA);(try replace aV:=aV.mono dA);(try replace bu:=bu.mono dA);(try replace aL:=aL.mono dA);(try replace fF:=fF.mono dA);conv=>whnf)
  |(refine g3 .int bu aj.h7 c.cJ S S ?_;intro nk gS gW hd fF;replace aj:=aj.mono hd;(try replace cw:=cw.mono hd);conv=>whnf)
  |(refine g3 .int cw aj.h7 (c.cJ+1) S S ?_;intro r6 oG pJ ey fS;conv=>whnf)
  |(refine g3 .int fF cw (c.cJ+1) S S ?_;intro r6 oG pJ ey fS;conv=>whnf)
  |(intro w' bj;exact⟨_,_,_,rfl,bj.1,bj.2,rfl,⟨c.k,none,0,0,oG,c.cJ+1,pJ⟩,_,_,rfl,⟨bL.nil _ _,fS,fun e=>absurd e (by show ¬c.k=1;omega),cY _⟩,Nat.le_refl _⟩)
  |(apply And.intro<;>conv=>whnf))
theorem PI {P:Prop} (h:P:=by
 repeat'((first
  |(refine kc .ints ai i rfl S ?_;intro b1 p5 e1)
  |(refine akE e1 ?_;intro br dI bz s1)
  |(refine ay.same [.slice bW np bI,.slice br dI bz] X2.dg tw (fun w' ef=>akJ z _ w' ef _ _ _ bh Ic _ _ _ s1) ?_;rintro v ⟨b,rfl⟩)
  |(refine KV s1 ?_;intro gV bf dd aV;replace ai:=ai.mono dd;replace bh:=bh.mono dd;(try replace ab:=ab.mono dd);(try replace bu:=bu.mono dd))
  |(refine KV bh ?_;intro gV bf dd aV;replace ai:=ai.mono dd;replace bh:=bh.mono dd;(try replace ab:=ab.mono dd))
  |(refine g3 .ints ab aV (m+1) S S ?_;intro j5 da c7 dN bu;replace ai:=ai.mono dN;replace bh:=bh.mono dN;clear ab)
  |(refine g3 .ints bu aV (m+1+1) S S ?_;intro iI eJ fa dA cw;replace ai:=ai.mono dA;replace bh:=bh.mono dA)
  |(intro w' bj;exact⟨z,_,_,rfl,bj.1,bj.2,rfl,da,m+1,c7,rfl,bu,by omega⟩)
  |(exact cC (_,(eJ,m+1+1,fa),true,i+1) (by show n-(i+1)<n-i;omega) ⟨ai,bh,cw,by show m+1+1=i+1+1;omega,by show i+1<=n;omega⟩ ⟨rfl,rfl,rfl,rfl,by show _=_;rw[<-jm];rfl,trivial⟩ trivial)
  |(exact cC (_,(da,m+1,c7),false,i+1) (by show n-(i+1)<n-i;omega) ⟨ai,bh,bu,by show m+1=i+1+0;omega,by show i+1<=n;omega⟩ ⟨rfl,rfl,rfl,rfl,by show _=_;rw[<-jm];rfl,trivial⟩ trivial)
  |(refine KV s1 ?_;intro gV bf dd aV;replace ai:=ai.mono dd;replace bh:=bh.mono dd;replace ab:=ab.mono dd)
  |(refine g3 .ints ab aV (m+1) S S ?_;intro j5 da c7 dN bu;replace ai:=ai.mono dN;replace bh:=bh.mono dN)
  |(intro w' bj;exact⟨z,_,_,rfl,bj.1,bj.2,rfl,B,m,d,rfl,ab,by omega⟩)
  |(exact cC (_,(da,m+1,c7),true,i+1) (by show n-(i+1)<n-i;omega) ⟨ai,bh,bu,by show m+1=i+1+1;omega,by show i+1<=n;omega⟩ ⟨rfl,rfl,rfl,rfl,by show _=_;rw[<-jm];rfl,trivial⟩ trivial)
  |(refine kc .int ar i rfl S ?_;intro b1 p5 e1)
  |(refine kc .int kG i rfl S ?_;intro b2 amf e2)
  |(refine rJ e1 ?_;intro x1)
  |(refine rJ e2 ?_;intro fL)
  |(intro w' bj;exact⟨z,G,_,rfl,bj.1,bj.2,rfl,rfl,_,rfl⟩)
  |(exact cC (i+1) (by show n-(i+1)<n-i;omega) (by show i+1<=n;omega) ⟨rfl,rfl,by show _=_;rw[<-jm];rfl,trivial⟩ trivial)
  |refine eg ?_
  |(refine eh ?_ ?_<;>(try with_reducible intro h)<;>(try(exfalso;omega)))
  |with_reducible intro r)<;>(try conv=>whnf))):P:=h
theorem KV{z:dk}{G eo:bY}{w0:World}{A:Option Addr}{n c:Nat}(ar:bL G .int A n c){t:TypeId}{ps:Array (Nat×Value)}{K:Value->an->Prop}(h:∀bG aR,G.le bG->bL bG .ints aR 1 1->K (.slice aR 1 1) (cQ z bG eo w0))(bs:t=31:=by rfl)(pV:ps=#[(0,.slice A n c)]:=by rfl):bk Tryz.prog (cQ z G eo w0) (Instr.buildSlice t 1 ps) K:=by
 subst bs pV
 refine Hc .ints 1 (ps:=[(0,.slice A n c)]) [.slice A n c] (fun w=>?_) (iG.one rfl ⟨A,n,c,rfl,ar⟩) S h
 obtain⟨i,hi,aT,O,V⟩:=info_parts (C8 .ints)
 have O:i.size=1:=O
 have hi:(Tryz.prog).info? 23=some i:=hi
 have b3:i.zero=some (.slice none 0 0):=aT
 simp[Instr.buildSlice,run_underlying Tryz.underlying31,sizeOf,typeInfo,hi,zeroValue,b3,O,newRow,newObj,Sem.run,eT.eN,eT.id,OR,Instr.fill,Value.cells]
theorem PB(z:dk)(G:bY)(w:World)(eA:er z G w)(A:Option Addr)(n c:Nat)(ar:bL G .content A n c)(aB:n<=1000000)(at_:Int)(i:Nat)(kE:at_=i)(hi:i<n)(d:kj)(aL:d.gf G)(ad:d.cJ<=z.m):
  Calls Tryz.prog 234 #[.slice A n c,J at_,d.val] w (lb z G w fun dt bG v=>dt=z/\∃aR aN,v= .slice aR n aN/\bL bG .content aR n aN):=by
 refine iy Ka W (cQ z G G w) (cQ.start eA) ?_
 conv=>whnf
 refine td .content ?_
 intro fw br gb s1
 conv=>whnf
 refine g3 .content s1 (ar.mono gb) n S S ?_
 intro gV bf bA dd aV
 conv=>whnf
 refine kc .content aV i kE hi ?_
 intro b off e
 conv=>whnf
 refine aqM e ((aL.mono gb).mono dd) ad ?_
 conv=>whnf
 intro w' bj
 exact⟨z,_,_,rfl,bj.1,bj.2,rfl,bf,bA,rfl,aV⟩
theorem x5(z:dk)(G:bY)(w:World)(eA:er z G w)(A:Option Addr)(n c:Nat)(ar:bL G .content A n c)(aB:n<=1000000):
  Calls Tryz.prog 235 #[.slice A n c] w (lb z G w (GW z G i3)):=by
 refine iy wE W (cQ z G G w) (cQ.start eA) ?_
 conv=>whnf
 refine c9.on (X:=Int×Nat) (fun(s,i)=> [(0,.v (.slice A n c)),(3,.v (J s)),(4,.v (J i))]) (fun _=> []) (fun _=>cQ z G G w) (fun(_,i)=>i<=n) (fun(_,i)=>n-i) (0,0) (cY _) ⟨rfl,rfl,rfl,trivial⟩ trivial ?_
 rintro⟨s,i⟩ r (hi:i<=n)
 have jm:IntKind.i64.wrap ((i:Int)+1)=((i+1:Nat):Int):=qi i S
 conv=>whnf
 refine ba.dec (fun h=>?_) (fun h=>?_)
 ·conv=>whnf
  refine kc .content ar i rfl S ?_
  intro b off e
  conv=>whnf
  refine akG e ?_
  intro br dI bz s1
  conv=>whnf
  exact cC (_,i+1) (by show n-(i+1)<n-i;omega) (by show i+1<=n;omega) ⟨rfl,rfl,by show _=_;rw[<-jm];rfl,trivial⟩ trivial
 ·conv=>whnf
  intro w' bj
  exact⟨z,G,_,rfl,bj.1,bj.2,rfl,rfl,_,rfl⟩
theorem akJ(z:dk)(G:bY)(w:World)(eA:er z G w)(A:Option Addr)(n c:Nat)(ar:bL G .int A n c)(aB:n<=1000000)(aR:Option Addr)(dT aN:Nat)(kG:bL G .int aR dT aN):
  Calls Tryz.prog 157 #[.slice A n c,.slice aR dT aN] w (lb z G w (GW z G tw)):=by
 refine iy X2 W (cQ z G G w) (cQ.start eA) ?_
 conv=>whnf
 refine c9.on (X:=Nat) (fun i=> [(0,.v (.slice A n c)),(1,.v (.slice aR dT aN)),(5,.v (J i))]) (fun _=> []) (fun _=>cQ z G G w) (fun i=>i<=n) (fun i=>n-i) 0 (cY _) ⟨rfl,rfl,rfl,trivial⟩ trivial ?_
 rintro i r hi
 have jm:IntKind.i64.wrap ((i:Int)+1)=((i+1:Nat):Int):=qi i S
 conv=>whnf
 exact PI
theorem anS(z:dk)(G:bY)(w:World)(eA:er z G w)(A:Option Addr)(n c:Nat)(ai:bL G .ints A n c)(aB:n<=1000000)(bW:Option Addr)(np bI:Nat)(bh:bL G .int bW np bI)(Ic:np<=1000000):
  Calls Tryz.prog 115 #[.slice A n c,.slice bW np bI] w (lb z G w fun dt bG v=>dt=z/\∃aR m aN,v= .slice aR m aN/\bL bG .ints aR m aN/\m<=n+1):=by
 refine iy XW W (cQ z G G w) (cQ.start eA) ?_
 conv=>whnf
 refine c9.on (X:=bY×(Option Addr×Nat×Nat)×Bool×Nat) (fun(_,(B,m,d),b,i)=> [(0,.v (.slice A n c)),(1,.v (.slice bW np bI)),(5,.v (.slice B m d)),(6,.v (.bool b)),(7,.v (J i))]) (fun _=> []) (fun(fw,_,_,_)=>cQ z fw G w) (fun(fw,(B,m,d),b,i)=>bL fw .ints A n c/\bL fw .int bW np bI/\bL fw .ints B m d/\m=i+b.toNat/\i<=n) (fun(_,_,_,i)=>n-i) (G,(none,0,0),false,0) ⟨ai,bh,bL.nil _ _,rfl,cY _⟩ ⟨rfl,rfl,rfl,rfl,rfl,trivial⟩ trivial ?_
 clear ai bh
 rintro⟨fw,⟨B,m,d⟩,lG,i⟩ r ⟨ai,bh,ab,ad,hi⟩
 have hr:lG.toNat<=1:=by cases lG<;>simp
 have jm:IntKind.i64.wrap ((i:Int)+1)=((i+1:Nat):Int):=qi i S
 cases lG with
 |true=>
  have ad:m=i+1:=ad
  conv=>whnf
  exact PI
 |false=>
  have ad:m=i:=ad
  conv=>whnf
  exact PI
theorem asN {P:Prop} (h:P:=by
 repeat'((first
  |(intro w' bj;exact⟨_,rfl,bj,_,rfl,by omega,by omega,by omega⟩)
  |refine eg ?_
  |(refine eh ?_ ?_<;>(try with_reducible intro h)<;>(try(exfalso;omega)))
  |with_reducible intro r)<;>(try conv=>whnf))):P:=h
structure fg where
 err:Int
 value:Int
 fY:Option Addr
 bB:Nat
 dD:Nat
 gT:Option Addr
 dO:Nat
 gP:Nat
 b4:Option Addr
 ns:Nat
 cs:Nat
 lx:Option Addr
 g8:Nat
 ch:Nat
 x9:Option Addr
 eE:Nat
 vC:Nat
 bW:Option Addr
 np:Nat
 bI:Nat
 steps:Int
 en:Int
 bS:Option Addr
 aX:Nat
 bb:Nat
 many:Int
def fg.val(d:fg):Value:= .agg #[J d.err,J d.value,.slice d.fY d.bB d.dD,.slice d.gT d.dO d.gP,.slice d.b4 d.ns d.cs,.slice d.lx d.g8 d.ch,.slice d.x9 d.eE d.vC,.slice d.bW d.np d.bI,J d.steps,J d.en,.slice d.bS d.aX d.bb,J d.many]
structure fg.gf(d:fg)(G:bY):Prop where
 c:bL G .int d.fY d.bB d.dD
 m:bL G .content d.gT d.dO d.gP
 s:bL G .content d.b4 d.ns d.cs
 h:bL G .content d.lx d.g8 d.ch
 u:bL G .use d.x9 d.eE d.vC
 p:bL G .split d.bW d.np d.bI
 f:bL G .ints d.bS d.aX d.bb
theorem fg.gf.mono{d:fg}{G bG:bY}(h:d.gf G)(ai:G.le bG):d.gf bG:=⟨h.c.mono ai,h.m.mono ai,h.s.mono ai,h.h.mono ai,h.u.mono ai,h.p.mono ai,h.f.mono ai⟩
structure um where
 sW:Int
 A:Option Addr
 n:Nat
 c:Nat
 tX:Int
 obj:Int
 o0:Int
 o1:Int
 aQ:Int
 bl:Int
 v:Int
 is:Bool
def um.val(u:um):Value:= .agg #[J u.sW,.slice u.A u.n u.c,J u.tX,J u.obj,J u.o0,J u.o1,J u.aQ,J u.bl,J u.v,.bool u.is]
theorem amc(k:Int)(w:World):Calls Tryz.prog 232 #[J k] w (lC w fun v=> ∃n,v= J n/\((k=1\/k=2\/k=3)->n=1)/\((k=4\/k=5)->n=2)/\((k=6\/k=7)->n=3)):=by
 refine iy J8 W (hF w) (hF.start w) ?_
 conv=>whnf
 exact asN
structure Yp(d d':fg)(u fr:um):Prop where
 err:d'.err=d.err\/d'.err=8
 bB:d'.bB=d.bB
 dO:d'.dO=d.dO
 ns:d'.ns=d.ns
 g8:d'.g8=d.g8
 eE:d'.eE=d.eE
 np:d'.np=d.np
 aX:d'.aX=d.aX
 en:d'.en=d.en
 many:d'.many=d.many
 sW:fr.sW=u.sW
 A:fr.A=u.A
 n:fr.n=u.n
 c:fr.c=u.c
def Obj(d:fg)(o0 o1:Int):Prop:=(o0=1\/o0=2\/o0=3)/\0<=o1/\o1<d.dO\/(o0=4\/o0=5)/\0<=o1/\o1<d.ns\/(o0=6\/o0=7)/\0<=o1/\o1<d.g8
def q3(z:dk):dk:=⟨z.s,z.m+1⟩
theorem PF(z:dk):z.le (q3 z):=⟨id,qp _⟩
theorem abZ(z:dk)(G:bY)(w:World)(eA:er z G w)(b3:z.m<=900000)(d:fg)(aL:d.gf G)(u:um)(ab:d.dO<=1000/\d.ns<=1000/\d.g8<=1000)(aU:Obj d u.o0 u.o1):
  Calls Tryz.prog 154 #[d.val,u.val] w (lb z G w fun dt bG v=>dt=q3 z/\∃(d':fg) (fr:um),v= .tuple #[d'.val,fr.val]/\d'.gf bG/\Yp d d' u fr):=by
 have aT:0<=u.o1:=by rcases aU with h|h|h<;>exact h.2.1
 refine iy XZ W (cQ z G G w) (cQ.start eA) ?_
 conv=>whnf
 refine ay.ph [J u.o0] J8.dg (fun v=> ∃n,v= J n/\((u.o0=1\/u.o0=2\/u.o0=3)->n=1)/\((u.o0=4\/u.o0=5)->n=2)/\((u.o0=6\/u.o0=7)->n=3)) (fun w' _ _=>amc u.o0 w') ?_
 rintro v ⟨axF,rfl,t1,t2,zH⟩
 rcases aU with⟨U,_,aW⟩|⟨U,_,aW⟩|⟨U,_,aW⟩
 ·obtain rfl:=t1 U
  clear t1 t2 zH
  have tr:u.o1.toNat<d.dO:=vc S S
  have tq:u.o1=(u.o1.toNat:Int):=vb S
  conv=>whnf
  repeat'(first
   |(refine eS.go ?_;conv=>whnf)
   |(refine kc .content aL.m u.o1.toNat tq tr ?_;intro b1 p5 e1;conv=>whnf)
   |(refine NF e1 ?_;intro k bq a5 bZ hZ cJ h4 o2 Ie;conv=>whnf)
   |(refine ay.ku [kj.val ⟨k,bq,a5,bZ,hZ,cJ,h4⟩,.agg #[J u.o0,J u.o1,J u.aQ,J u.bl]] J9.dg (GJ z ⟨k,bq,a5,bZ,hZ,cJ,h4⟩) (fun w' ef _=>Ln z _ w' ef ⟨k,bq,a5,bZ,hZ,cJ,h4⟩ o2 (by show cJ<=1000000;omega) u.o0 u.o1 u.aQ u.bl) ?_
     rintro dt gV v dd ⟨rfl,aN,x,lG,rfl,jd,AP⟩
     replace aL:=aL.mono dd
     conv=>whnf)
   |(refine ay.ku [.slice d.gT d.dO d.gP,J u.o1,aN.val] Ka.dg (fun dt bG v=>dt=q3 _/\∃aR aN,v= .slice aR d.dO aN/\bL bG .content aR d.dO aN) (fun w' ef _=>PB (q3 _) _ w' (ef.BL (PF _)) _ _ _ aL.m S u.o1 u.o1.toNat tq tr aN jd (by show aN.cJ<=_+1;have:aN.cJ<=cJ+1:=AP;omega)) ?_
     rintro k5 j5 v dN ⟨rfl,da,c7,rfl,bu⟩
     replace aL:=aL.mono dN
     conv=>whnf)
   |(refine ba.dec (fun h=>?_) (fun h=>?_)<;>conv=>whnf)
   |(refine ba.eq (fun h=>?_) (fun h=>?_)<;>first|(exfalso;omega)|conv=>whnf)
   |(refine ay.same [.slice da d.dO c7] wE.dg i3 (fun w' ef=>x5 _ _ w' ef _ _ _ bu S) ?_;rintro v ⟨y,rfl⟩;conv=>whnf)
   |(refine ay.same [.slice d.b4 d.ns d.cs] wE.dg i3 (fun w' ef=>x5 _ _ w' ef _ _ _ aL.s S) ?_;rintro v ⟨y,rfl⟩;conv=>whnf)
   |(refine ay.same [.slice d.lx d.g8 d.ch] wE.dg i3 (fun w' ef=>x5 _ _ w' ef _ _ _ aL.h S) ?_;rintro v ⟨y,rfl⟩;conv=>whnf)
   |(intro w' bj;exact⟨_,_,_,rfl,bj.1,bj.2,rfl,{d with gT:=da,gP:=c7,err:=8},{u with tX:=1,obj:=u.o1,v:=x,is:=lG},rfl,⟨aL.c,bu,aL.s,aL.h,aL.u,aL.p,aL.f⟩,⟨.inr rfl,rfl,rfl,rfl,rfl,rfl,rfl,rfl,rfl,rfl,rfl,rfl,rfl,rfl⟩⟩)
   |(intro w' bj;exact⟨_,_,_,rfl,bj.1,bj.2,rfl,{d with gT:=da,gP:=c7,err:=d.err},{u with tX:=1,obj:=u.o1,v:=x,is:=lG},rfl,⟨aL.c,bu,aL.s,aL.h,aL.u,aL.p,aL.f⟩,⟨.inl rfl,rfl,rfl,rfl,rfl,rfl,rfl,rfl,rfl,rfl,rfl,rfl,rfl,rfl⟩⟩)
   |(apply And.intro<;>conv=>whnf))
 ·obtain rfl:=t2 U
  clear t1 t2 zH
  have tr:u.o1.toNat<d.ns:=vc S S
  have tq:u.o1=(u.o1.toNat:Int):=vb S
  conv=>whnf
  repeat'(first
   |(refine eS.go ?_;conv=>whnf)
   |(refine kc .content aL.s u.o1.toNat tq tr ?_;intro b1 p5 e1;conv=>whnf)
   |(refine NF e1 ?_;intro k bq a5 bZ hZ cJ h4 o2 Ie;conv=>whnf)
   |(refine ay.ku [kj.val ⟨k,bq,a5,bZ,hZ,cJ,h4⟩,.agg #[J u.o0,J u.o1,J u.aQ,J u.bl]] J9.dg (GJ z ⟨k,bq,a5,bZ,hZ,cJ,h4⟩) (fun w' ef _=>Ln z _ w' ef ⟨k,bq,a5,bZ,hZ,cJ,h4⟩ o2 (by show cJ<=1000000;omega) u.o0 u.o1 u.aQ u.bl) ?_
     rintro dt gV v dd ⟨rfl,aN,x,lG,rfl,jd,AP⟩
     replace aL:=aL.mono dd
     conv=>whnf)
   |(refine ay.ku [.slice d.b4 d.ns d.cs,J u.o1,aN.val] Ka.dg (fun dt bG v=>dt=q3 _/\∃aR aN,v= .slice aR d.ns aN/\bL bG .content aR d.ns aN) (fun w' ef _=>PB (q3 _) _ w' (ef.BL (PF _)) _ _ _ aL.s S u.o1 u.o1.toNat tq tr aN jd (by show aN.cJ<=_+1;have:aN.cJ<=cJ+1:=AP;omega)) ?_
     rintro k5 j5 v dN ⟨rfl,da,c7,rfl,bu⟩
     replace aL:=aL.mono dN
     conv=>whnf)
   |(refine ba.dec (fun h=>?_) (fun h=>?_)<;>conv=>whnf)
   |(refine ba.eq (fun h=>?_) (fun h=>?_)<;>first|(exfalso;omega)|conv=>whnf)
   |(refine ay.same [.slice da d.ns c7] wE.dg i3 (fun w' ef=>x5 _ _ w' ef _ _ _ bu S) ?_;rintro v ⟨y,rfl⟩;conv=>whnf)
   |(refine ay.same [.slice d.gT d.dO d.gP] wE.dg i3 (fun w' ef=>x5 _ _ w' ef _ _ _ aL.m S) ?_;rintro v ⟨y,rfl⟩;conv=>whnf)
   |(refine ay.same [.slice d.lx d.g8 d.ch] wE.dg i3 (fun w' ef=>x5 _ _ w' ef _ _ _ aL.h S) ?_;rintro v ⟨y,rfl⟩;conv=>whnf)
   |(intro w' bj;exact⟨_,_,_,rfl,bj.1,bj.2,rfl,{d with b4:=da,cs:=c7,err:=8},{u with tX:=2,obj:=u.o1,v:=x,is:=lG},rfl,⟨aL.c,aL.m,bu,aL.h,aL.u,aL.p,aL.f⟩,⟨.inr rfl,rfl,rfl,rfl,rfl,rfl,rfl,rfl,rfl,rfl,rfl,rfl,rfl,rfl⟩⟩)
   |(intro w' bj;exact⟨_,_,_,rfl,bj.1,bj.2,rfl,{d with b4:=da,cs:=c7,err:=d.err},{u with tX:=2,obj:=u.o1,v:=x,is:=lG},rfl,⟨aL.c,aL.m,bu,aL.h,aL.u,aL.p,aL.f⟩,⟨.inl rfl,rfl,rfl,rfl,rfl,rfl,rfl,rfl,rfl,rfl,rfl,rfl,rfl,rfl⟩⟩)
   |(apply And.intro<;>conv=>whnf))
 ·obtain rfl:=zH U
  clear t1 t2 zH
  have tr:u.o1.toNat<d.g8:=vc S S
  have tq:u.o1=(u.o1.toNat:Int):=vb S
  conv=>whnf
  repeat'(first
   |(refine eS.go ?_;conv=>whnf)
   |(refine kc .content aL.h u.o1.toNat tq tr ?_;intro b1 p5 e1;conv=>whnf)
   |(refine NF e1 ?_;intro k bq a5 bZ hZ cJ h4 o2 Ie;conv=>whnf)
   |(refine ay.ku [kj.val ⟨k,bq,a5,bZ,hZ,cJ,h4⟩,.agg #[J u.o0,J u.o1,J u.aQ,J u.bl]] J9.dg (GJ z ⟨k,bq,a5,bZ,hZ,cJ,h4⟩) (fun w' ef _=>Ln z _ w' ef ⟨k,bq,a5,bZ,hZ,cJ,h4⟩ o2 (by show cJ<=1000000;omega) u.o0 u.o1 u.aQ u.bl) ?_
     rintro dt gV v dd ⟨rfl,aN,x,lG,rfl,jd,AP⟩
     replace aL:=aL.mono dd
     conv=>whnf)
   |(refine ay.ku [.slice d.lx d.g8 d.ch,J u.o1,aN.val] Ka.dg (fun dt bG v=>dt=q3 _/\∃aR aN,v= .slice aR d.g8 aN/\bL bG .content aR d.g8 aN) (fun w' ef _=>PB (q3 _) _ w' (ef.BL (PF _)) _ _ _ aL.h S u.o1 u.o1.toNat tq tr aN jd (by show aN.cJ<=_+1;have:aN.cJ<=cJ+1:=AP;omega)) ?_
     rintro k5 j5 v dN ⟨rfl,da,c7,rfl,bu⟩
     replace aL:=aL.mono dN
     conv=>whnf)
   |(refine ba.dec (fun h=>?_) (fun h=>?_)<;>conv=>whnf)
   |(refine ba.eq (fun h=>?_) (fun h=>?_)<;>first|(exfalso;omega)|conv=>whnf)
   |(refine ay.same [.slice da d.g8 c7] wE.dg i3 (fun w' ef=>x5 _ _ w' ef _ _ _ bu S) ?_;rintro v ⟨y,rfl⟩;conv=>whnf)
   |(refine ay.same [.slice d.gT d.dO d.gP] wE.dg i3 (fun w' ef=>x5 _ _ w' ef _ _ _ aL.m S) ?_;rintro v ⟨y,rfl⟩;conv=>whnf)
   |(refine ay.same [.slice d.b4 d.ns d.cs] wE.dg i3 (fun w' ef=>x5 _ _ w' ef _ _ _ aL.s S) ?_;rintro v ⟨y,rfl⟩;conv=>whnf)
   |(intro w' bj;exact⟨_,_,_,rfl,bj.1,bj.2,rfl,{d with lx:=da,ch:=c7,err:=8},{u with tX:=3,obj:=u.o1,v:=x,is:=lG},rfl,⟨aL.c,aL.m,aL.s,bu,aL.u,aL.p,aL.f⟩,⟨.inr rfl,rfl,rfl,rfl,rfl,rfl,rfl,rfl,rfl,rfl,rfl,rfl,rfl,rfl⟩⟩)
   |(intro w' bj;exact⟨_,_,_,rfl,bj.1,bj.2,rfl,{d with lx:=da,ch:=c7,err:=d.err},{u with tX:=3,obj:=u.o1,v:=x,is:=lG},rfl,⟨aL.c,aL.m,aL.s,bu,aL.u,aL.p,aL.f⟩,⟨.inl rfl,rfl,rfl,rfl,rfl,rfl,rfl,rfl,rfl,rfl,rfl,rfl,rfl,rfl⟩⟩)
   |(apply And.intro<;>conv=>whnf))
structure aaS(z dt:dk)(d d':fg):Prop where
 dG:dt.s=z.s
 qj:dt.m<=z.m+1
 err:d'.err=d.err\/d'.err=8
 bB:d'.bB=d.bB
 dO:d'.dO=d.dO
 ns:d'.ns=d.ns
 g8:d'.g8=d.g8
 eE:d'.eE=d.eE+1
 np:d'.np=d.np
 aX:d'.aX=d.aX
 en:d'.en=d.en
 many:d'.many=d.many
theorem Lw{z:dk}{G:bY}(u:um)(b3:z.s=true->u.sW=0)(aS:bL G .int u.A u.n u.c):iG z G .use 1 [J u.sW,.slice u.A u.n u.c,J u.tX,J u.obj,J u.o0,J u.o1,J u.aQ,J u.bl,J u.v,.bool u.is]:=
 iG.one rfl ⟨u.sW,u.A,u.n,u.c,rfl,b3,rfl,aS,⟨_,rfl⟩,⟨_,rfl⟩,⟨_,rfl⟩,⟨_,rfl⟩,⟨_,rfl⟩,⟨_,rfl⟩,⟨_,rfl⟩,⟨_,rfl⟩⟩
theorem asx(z:dk)(G:bY)(w:World)(eA:er z G w)(b3:z.m<=900000)(d:fg)(aL:d.gf G)(ab:d.dO<=1000/\d.ns<=1000/\d.g8<=1000)(aj:d.bB<=1000)(awo:d.eE<=10000000)(k:bq)(U:1<=k.kind/\k.kind<=3)(ou:k.kind=1\/k.kind=2->0<=k.a/\k.a<d.bB)(y7:k.kind=3->Obj d k.o0 k.o1)(u:um)(tu:z.s=true->u.sW=0)(aS:bL G .int u.A u.n u.c):
  Calls Tryz.prog 113 #[d.val,k.val,u.val] w (lb z G w fun dt bG v=> ∃(d':fg) (A:Option Addr) (n c:Nat),v= .tuple #[d'.val,.slice A n c]/\d'.gf bG/\aaS z dt d d'/\bL bG .int A n c/\n<=1):=by
 refine iy XU W (cQ z G G w) (cQ.start eA) ?_
 conv=>whnf
 refine ba.eq (fun O=>?_) (fun O=>?_)
 ·have aP:=ou (.inl O)
  have tr:k.a.toNat<d.bB:=vc S S
  have tq:k.a=(k.a.toNat:Int):=vb S
  clear ou y7
  conv=>whnf
  refine kc .int aL.c k.a.toNat tq tr ?_
  intro b1 p5 e1
  conv=>whnf
  refine rJ e1 ?_
  intro x1
  conv=>whnf
  refine oh [x1] (by simp) ?_
  intro gV bf dd aV
  replace aL:=aL.mono dd
  replace aS:=aS.mono dd
  conv=>whnf
  refine yB .use #[J u.sW,.slice u.A u.n u.c,J u.tX,J k.a,J u.o0,J u.o1,J u.aQ,J u.bl,J x1,.bool u.is] rfl (Lw {u with obj:=k.a,v:=x1} tu aS) ?_
  intro j5 da dN bu
  replace aL:=aL.mono dN
  conv=>whnf
  refine g3 .use aL.u bu (d.eE+1) S S ?_
  intro iI eJ fa dA cw
  replace aL:=aL.mono dA
  conv=>whnf
  intro w' bj
  exact⟨z,_,_,rfl,bj.1,bj.2,{d with x9:=eJ,eE:=d.eE+1,vC:=fa},bf,1,1,rfl,⟨aL.c,aL.m,aL.s,aL.h,cw,aL.p,aL.f⟩,⟨rfl,qp _,.inl rfl,rfl,rfl,rfl,rfl,rfl,rfl,rfl,rfl,rfl⟩,(aV.mono dN).mono dA,Nat.le_refl _⟩
 ·conv=>whnf
  refine ba.eq (fun V=>?_) (fun V=>?_)
  ·have aP:=ou (.inr V)
   have tr:k.a.toNat<d.bB:=vc S S
   have tq:k.a=(k.a.toNat:Int):=vb S
   clear ou y7
   conv=>whnf
   refine td .int ?_
   intro fw br gb s1
   replace aL:=aL.mono gb
   replace aS:=aS.mono gb
   conv=>whnf
   refine g3 .int s1 aL.c d.bB S S ?_
   intro gV bf bA dd aV
   replace aL:=aL.mono dd
   replace aS:=aS.mono dd
   conv=>whnf
   refine kc .int aV k.a.toNat tq tr ?_
   intro b1 p5 e1
   conv=>whnf
   refine Pj e1 ?_
   conv=>whnf
   refine yB .use #[J u.sW,.slice u.A u.n u.c,J u.tX,J k.a,J 1,J 0,J k.b,J 0,J u.v,.bool u.is] rfl (Lw {u with obj:=k.a,o0:=1,o1:=0,aQ:=k.b,bl:=0} tu aS) ?_
   intro j5 da dN bu
   replace aL:=aL.mono dN
   conv=>whnf
   refine g3 .use aL.u bu (d.eE+1) S S ?_
   intro iI eJ fa dA cw
   replace aL:=aL.mono dA
   conv=>whnf
   intro w' bj
   exact⟨z,_,_,rfl,bj.1,bj.2,{d with fY:=bf,dD:=bA,x9:=eJ,eE:=d.eE+1,vC:=fa},none,0,0,rfl,⟨(aV.mono dN).mono dA,aL.m,aL.s,aL.h,cw,aL.p,aL.f⟩,⟨rfl,qp _,.inl rfl,rfl,rfl,rfl,rfl,rfl,rfl,rfl,rfl,rfl⟩,bL.nil _ _,cY _⟩
  ·have aU:=y7 S
   clear ou y7
   conv=>whnf
   refine ay.ku [d.val,um.val {u with obj:=k.a,o0:=k.o0,o1:=k.o1,aQ:=k.aQ,bl:=k.bl}] XZ.dg _ (fun w' ef _=>abZ z G w' ef b3 d aL {u with obj:=k.a,o0:=k.o0,o1:=k.o1,aQ:=k.aQ,bl:=k.bl} ab aU) ?_
   rintro dt fw v gb ⟨rfl,d',fr,rfl,sr,F⟩
   have jZ:bL fw .int fr.A fr.n fr.c:=by rw[F.A,F.n,F.c];exact aS.mono gb
   have aga:d'.eE=d.eE:=F.eE
   conv=>whnf
   refine ay.ph [.agg #[J fr.o0,J fr.o1,J fr.aQ,J fr.bl],J fr.v,.bool fr.is] X0.dg i3 (fun w' _ _=>asA _ _ _ _ _ _ w') ?_
   rintro v ⟨y,rfl⟩
   conv=>whnf
   refine oh [y] (by simp) ?_
   intro gV bf dd aV
   replace sr:=sr.mono dd
   replace jZ:=jZ.mono dd
   conv=>whnf
   refine yB .use #[J fr.sW,.slice fr.A fr.n fr.c,J fr.tX,J fr.obj,J fr.o0,J fr.o1,J fr.aQ,J fr.bl,J fr.v,.bool fr.is] rfl (Lw fr (fun e=>by rw[F.sW];exact tu e) jZ) ?_
   intro j5 da dN bu
   replace sr:=sr.mono dN
   conv=>whnf
   refine g3 .use sr.u bu (d'.eE+1) S S ?_
   intro iI eJ fa dA cw
   replace sr:=sr.mono dA
   conv=>whnf
   intro w' bj
   exact⟨q3 z,_,_,rfl,bj.1,bj.2,{d' with x9:=eJ,eE:=d'.eE+1,vC:=fa},bf,1,1,rfl,⟨sr.c,sr.m,sr.s,sr.h,cw,sr.p,sr.f⟩,⟨rfl,Nat.le_refl _,F.err,F.bB,F.dO,F.ns,F.g8,by show d'.eE+1=_;rw[aga],F.np,F.aX,F.en,F.many⟩,(aV.mono dN).mono dA,Nat.le_refl _⟩
structure P8(z:dk)(d:fg)(t:Nat):Prop where
 n6:d.en=t
 t64:t<=65
 qj:z.m<=5000*t
 eE:d.eE<=5000*t
 np:d.np<=15000*t
 aX:d.aX<=t
structure Ab(d d':fg):Prop where
 bB:d'.bB=d.bB
 dO:d'.dO=d.dO
 ns:d'.ns=d.ns
 g8:d'.g8=d.g8
structure Ca(c:hx)(d:fg):Prop where
 bB:d.bB=c.bB
 dO:(d.dO:Int)=c.maps
 ns:(d.ns:Int)=c.dj
 g8:(d.g8:Int)=c.cF
 wY:c.bB<=16
 b1:c.maps<=8
 b2:c.dj<=8
 du:c.cF<=8
theorem Ca.same{c:hx}{d d':fg}(h:Ca c d)(e:Ab d d'):Ca c d':=⟨by rw[e.bB,h.bB],by rw[e.dO,h.dO],by rw[e.ns,h.ns],by rw[e.g8,h.g8],h.wY,h.b1,h.b2,h.du⟩
structure Ki(c:hx)(B:Nat->iE):Prop where
 ins:∀k,k<c.aX->(B k).n<=400
 loc:∀k,k<c.aX->(B k).locals<=16
structure Qe(k:Nat)(z dt:dk)(d d':fg)(t t':Nat):Prop where
 n6:d'.en=t'
 t64:t'<=65
 qj:dt.m+5000*t<=z.m+5000*t'
 eE:d'.eE+5000*t<=d.eE+5000*t'
 np:d'.np+15000*t<=d.np+k+15000*t'
 aX:d'.aX+t<=d.aX+t'
structure aaP(z dt:dk)(d d':fg)(t t':Nat):Prop where
 b:Qe 0 z dt d d' t t'
 n:Ab d d'
 lt:t<t'
 dG:dt.s=true->z.s=true
 one:t'=t+1->(z.s=true->dt.s=true)/\d'.np=d.np
def GY(z:dk)(d:fg)(t:Nat)(dt:dk)(bG:bY)(v:Value):Prop:=∃(d':fg) (t':Nat) (x abj:Int),v= .tuple #[d'.val,J x,J abj]/\d'.gf bG/\aaP z dt d d' t t'
def Ey(t:Nat):Prop:=∀(z:dk) (G:bY) (w:World),er z G w->∀(c:hx) (B:Nat->iE),c.k8 B G w->Ki c B->∀(d:fg),d.gf G->P8 z d t->Ca c d->∀(fn at_:Int) (ed:Option Addr) (ev bp:Nat),bL G .int ed ev bp->ev<=100->∀(bW:Option Addr) (np bI:Nat),bL G .int bW np bI->np<=t->(z.s=true->at_=0)->
 Calls Tryz.prog 76 #[d.val,c.val,J fn,.slice ed ev bp,.slice bW np bI,J at_] w (lb z G w (GY z d t))
structure Yy(z dt:dk)(d d':fg)(t t':Nat)(on:Int):Prop where
 b:Qe 2 z dt d d' t t'
 n:Ab d d'
 ok:d'.err=10/\t'=t/\dt=z/\d'.np=d.np/\on=0\/t<t'/\dt.s=false
def Qc(z:dk)(d:fg)(t:Nat)(dt:dk)(bG:bY)(v:Value):Prop:=∃(d':fg) (t':Nat) (x on block:Int),v= .tuple #[d'.val,J x,J on,J block]/\d'.gf bG/\Yy z dt d d' t t' on
theorem adv{z:dk}{G:bY}(a b c d e:Int):iG z G .split 1 [J a,J b,J c,J d,J e]:=iG.one rfl ⟨a,b,c,d,e,rfl,rfl,rfl,rfl,rfl⟩
theorem KW{z:dk}{G eo:bY}{w0:World}{a b c d e:Int}{t:TypeId}{ps:Array (Nat×Value)}{K:Value->an->Prop}(h:∀bG A,G.le bG->bL bG .split A 1 1->K (.slice A 1 1) (cQ z bG eo w0))(bs:t=30:=by rfl)(pV:ps=#[(0,.agg #[J a,J b,J c,J d,J e])]:=by rfl):bk Tryz.prog (cQ z G eo w0) (Instr.buildSlice t 1 ps) K:=
 yB .split #[J a,J b,J c,J d,J e] rfl (adv a b c d e) h bs pV
theorem ad7(t:Nat)(cy:t<64->Ey t)(z:dk)(G:bY)(w:World)(eA:er z G w)(c:hx)(B:Nat->iE)(aj:c.k8 B G w)(eZ:Ki c B)(d:fg)(aL:d.gf G)(b:P8 z d t)(Ic:d.np+1<=15000*t)(sz:Ca c d)(f:fQ)(aK:f.gf G)(Si:f.np+1<=t)(k:bq)(U:bL G .int k.A k.n k.c)(rB:k.n<=100)(at_ block:Int):
  Calls Tryz.prog 114 #[d.val,c.val,f.val,k.val,J at_,J block] w (lb z G w (Qc z d t)):=by
 refine iy XV W (cQ z G G w) (cQ.start eA) ?_
 conv=>whnf
 refine ba.dec (fun h=>?_) (fun h=>?_)
 ·conv=>whnf
  intro w' bj
  exact⟨z,_,_,rfl,bj.1,bj.2,{d with err:=10},t,0,0,0,rfl,⟨aL.c,aL.m,aL.s,aL.h,aL.u,aL.p,aL.f⟩,⟨⟨b.n6,b.t64,Nat.le_refl _,Nat.le_refl _,by show d.np+_<=d.np+2+_;omega,Nat.le_refl _⟩,⟨rfl,rfl,rfl,rfl⟩,.inl ⟨rfl,rfl,rfl,rfl,rfl⟩⟩⟩
 have bs:t<64:=by have:=b.n6;omega
 conv=>whnf
 refine ba.eq (fun aT=>?_) (fun aT=>?_)
 all_goals
  conv=>whnf
  refine KW ?_
  intro fw br gb s1
  replace aL:=aL.mono gb
  replace aK:=aK.mono gb
  replace U:=U.mono gb
  conv=>whnf
  refine g3 .split aL.p s1 (d.np+1) S (by have:=b.t64;omega) ?_
  intro gV bf bA dd aV
  replace aL:=aL.mono dd
  replace aK:=aK.mono dd
  replace U:=U.mono dd
  conv=>whnf
  repeat'(first
   |(refine eS.go ?_;conv=>whnf)
   |(refine And.intro ?_ ?_<;>conv=>whnf)
   |(refine ay.ku [f.val] X1.dg (fun dt bG v=>dt=z/\∃aR aN,v= .slice aR (f.np+1) aN/\bL bG .int aR (f.np+1) aN) (fun w' ef _=>acj z _ w' ef f aK.p (by have:=b.t64;omega)) ?_
     rintro pt nk v hd ⟨rfl,gS,gW,rfl,fF⟩
     replace aL:=aL.mono hd
     replace U:=U.mono hd
     conv=>whnf)
   |(refine ay.ku [fg.val {d with bW:=bf,np:=d.np+1,bI:=bA,many:=IntKind.i64.wrap (d.many+2)},c.val,J k.a,.slice k.A k.n k.c,.slice gS (f.np+1) gW,J d.many] Kd.dg (GY ⟨false,pt.m⟩ {d with bW:=bf,np:=d.np+1,bI:=bA,many:=IntKind.i64.wrap (d.many+2)} t) (fun w' ef jQ=>cy bs ⟨false,pt.m⟩ _ w' (ef.BL ⟨(fun e=>by cases e),Nat.le_refl _⟩) c B (aj.ex jQ) eZ {d with bW:=bf,np:=d.np+1,bI:=bA,many:=IntKind.i64.wrap (d.many+2)} ⟨aL.c,aL.m,aL.s,aL.h,aL.u,aV.mono hd,aL.f⟩ ⟨b.n6,b.t64,b.qj,b.eE,by show d.np+1<=_;omega,b.aX⟩ (sz.same ⟨rfl,rfl,rfl,rfl⟩) k.a d.many k.A k.n k.c U rB gS (f.np+1) gW fF Si (fun e=>by cases e)) ?_
     rintro Kb r6 v ey ⟨pL,u6,s0,QS,rfl,nu,qk⟩
     conv=>whnf)
   |(refine ay.ku [fg.val {d with bW:=bf,np:=d.np+1,bI:=bA,many:=IntKind.i64.wrap (IntKind.i64.wrap (d.many+2)+1)},c.val,J k.a,.slice k.A k.n k.c,.slice gS (f.np+1) gW,J d.many] Kd.dg (GY ⟨false,pt.m⟩ {d with bW:=bf,np:=d.np+1,bI:=bA,many:=IntKind.i64.wrap (IntKind.i64.wrap (d.many+2)+1)} t) (fun w' ef jQ=>cy bs ⟨false,pt.m⟩ _ w' (ef.BL ⟨(fun e=>by cases e),Nat.le_refl _⟩) c B (aj.ex jQ) eZ {d with bW:=bf,np:=d.np+1,bI:=bA,many:=IntKind.i64.wrap (IntKind.i64.wrap (d.many+2)+1)} ⟨aL.c,aL.m,aL.s,aL.h,aL.u,aV.mono hd,aL.f⟩ ⟨b.n6,b.t64,b.qj,b.eE,by show d.np+1<=_;omega,b.aX⟩ (sz.same ⟨rfl,rfl,rfl,rfl⟩) k.a d.many k.A k.n k.c U rB gS (f.np+1) gW fF Si (fun e=>by cases e)) ?_
     rintro Kb r6 v ey ⟨pL,u6,s0,QS,rfl,nu,qk⟩
     conv=>whnf)
   |(refine KW ?_
     intro wL wG hL hE
     replace nu:=nu.mono hL
     conv=>whnf)
   |(refine g3 .split nu.p hE (pL.np+1) S (by have O:pL.np+15000*t<=d.np+1+0+15000*u6:=qk.b.np;have V:=qk.b.t64;omega) ?_
     intro ye DX EH kI jj
     replace nu:=nu.mono kI
     conv=>whnf)
   |(intro w' bj
     refine⟨Kb,_,_,rfl,bj.1,bj.2,{pL with bW:=DX,np:=pL.np+1,bI:=EH},u6,s0,_,_,rfl,⟨nu.c,nu.m,nu.s,nu.h,nu.u,jj,nu.f⟩,⟨⟨qk.b.n6,qk.b.t64,qk.b.qj,qk.b.eE,?_,qk.b.aX⟩,⟨qk.n.bB,qk.n.dO,qk.n.ns,qk.n.g8⟩,.inr ⟨qk.lt,?_⟩⟩⟩
     ·have O:=qk.b.np
      show pL.np+1+_<=d.np+2+_
      have V:pL.np+15000*t<=d.np+1+0+15000*u6:=O
      omega
     ·cases e:Kb.s with
      |false=>rfl
      |true=>exact absurd (qk.dG e) (by simp)))
end Go.Proofs.YtcflcebplhdcpaaGreat
