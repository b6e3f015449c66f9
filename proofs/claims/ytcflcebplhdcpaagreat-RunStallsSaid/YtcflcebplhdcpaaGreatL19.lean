/- Lemmas, part 19; each states its own conditions. -/
import Derived.Test.YtcflcebplhdcpaaGreatL18
namespace Go.Proofs.YtcflcebplhdcpaaGreat
open Go.RowKit
set_option linter.unusedSimpArgs false
set_option linter.unusedVariables false
set_option maxRecDepth 100000
set_option maxHeartbeats 16000000
def fg.l(d:fg):List Value:=[J d.err,J d.value,.slice d.fY d.bB d.dD,.slice d.gT d.dO d.gP,.slice d.b4 d.ns d.cs,.slice d.lx d.g8 d.ch,.slice d.x9 d.eE d.vC,.slice d.bW d.np d.bI,J d.steps,J d.en,.slice d.bS d.aX d.bb,J d.many]
def fg.zero:fg:=⟨0,0,none,0,0,none,0,0,none,0,0,none,0,0,none,0,0,none,0,0,0,0,none,0,0,0⟩
structure l7 where
 G:bY
 z:dk
 d:fg
 f:fQ
 t1:Nat
 i:Nat
 at_:Int
 block:Int
 A:Option Addr
 n:Nat
 c:Nat
def l7.jF(x:l7):Nat:=if x.d.err=0 then 1+2*(2000-x.f.aH).toNat+(if x.f.a5=0 then 0 else 1) else 0
structure Qy(x:l7)(np:Nat):Prop where
 np:x.f.np=np
 aM:x.f.aM<=100
 ns:x.f.ns<=101
 a5:x.f.a5<=x.i
structure Qz(z:dk)(G:bY)(d:fg)(t np:Nat)(x:l7):Prop where
 le:G.le x.G
 aL:x.d.gf x.G
 aK:x.f.gf x.G
 U:bL x.G .int x.A x.n x.c
 n:x.n<=x.i
 lt:t+1<=x.t1
 t64:x.t1<=65
 n6:x.d.en=x.t1
 i:x.i+x.jF<=4010
 DG:Ab d x.d
 qj:x.z.m+5000*(t+1)<=z.m+5000*x.t1+x.i
 eE:x.d.eE+5000*(t+1)<=d.eE+5000*x.t1+x.i
 N7:x.d.np+15000*(t+1)<=d.np+15000*x.t1+3*x.i
 aX:x.d.aX+(t+1)<=d.aX+x.t1
 P5:x.z.s=true->x.t1=t+1/\z.s=true
 P2:x.z.s=true->x.at_=0
 one:x.t1=t+1->(z.s=true->x.z.s=true)/\x.d.np=d.np/\(x.d.err=0->x.f.a5=0)
 jR:x.d.err=0->Qy x np
theorem Gk {z:dk} {G:bY} {d:fg} {t np:Nat} {bG:bY} {dt:dk} {d':fg} {e:Int} {c6:fQ} {t1 i:Nat} {at_ block:Int} {A:Option Addr} {n c:Nat} (le:G.le bG) (aL:d'.gf bG) (aK:c6.gf bG) (U:bL bG .int A n c) (aB:n<=i) (lt:t+1<=t1) (t64:t1<=65) (n6:d'.en=t1)
  (hi:i+l7.jF ⟨bG,dt,{d' with err:=e},c6,t1,i,at_,block,A,n,c⟩<=4010) (DG:Ab d d') (qj:dt.m+5000*(t+1)<=z.m+5000*t1+i) (eE:d'.eE+5000*(t+1)<=d.eE+5000*t1+i) (N7:d'.np+15000*(t+1)<=d.np+15000*t1+3*i) (aX:d'.aX+(t+1)<=d.aX+t1) (P5:dt.s=true->t1=t+1/\z.s=true) (P2:dt.s=true->at_=0)
  (one:t1=t+1->(z.s=true->dt.s=true)/\d'.np=d.np/\(e=0->c6.a5=0)) (jR:e=0->c6.np=np/\c6.aM<=100/\c6.ns<=101/\c6.a5<=i):Qz z G d t np ⟨bG,dt,{d' with err:=e},c6,t1,i,at_,block,A,n,c⟩:=
 ⟨le,⟨aL.c,aL.m,aL.s,aL.h,aL.u,aL.p,aL.f⟩,aK,U,aB,lt,t64,n6,hi,⟨DG.bB,DG.dO,DG.ns,DG.g8⟩,qj,eE,N7,aX,P5,P2,one,fun h=>⟨(jR h).1,(jR h).2.1,(jR h).2.2.1,(jR h).2.2.2⟩⟩
theorem Gm{x y:l7}(aW:x.d.err=0)(h:y.d.err=0->(x.f.aH<y.f.aH/\y.f.aH<=2000)\/(x.f.aH<=y.f.aH/\x.f.a5≠0/\y.f.a5=0)):y.jF<x.jF:=by
 unfold l7.jF
 rw[if_pos aW]
 by_cases bV:y.d.err=0
 ·rw[if_pos bV]
  rcases h bV with⟨O,V⟩|⟨O,V,aa⟩
  ·split<;>split<;>omega
  ·rw[if_neg V,if_pos aa];omega
 ·rw[if_neg bV];omega
theorem Gl{i a b m:Nat}(h:a<b)(ad:i+b<=m):i+1+a<=m:=by omega
theorem al6{c:hx}{d:fg}(sz:Ca c d){o0 o1:Int}(h:1<=o0/\o0<=7/\0<=o1/\o1<c.many o0):Obj d o0 o1:=by
 obtain⟨O,V,aa,ag⟩:=h
 unfold hx.many at ag
 have e1:=sz.dO
 have e2:=sz.ns
 have cR:=sz.g8
 by_cases a:o0=1\/o0=2\/o0=3
 ·rw[if_pos a] at ag;exact .inl ⟨a,aa,by omega⟩
 ·rw[if_neg a] at ag
  by_cases b:o0=4\/o0=5
  ·rw[if_pos b] at ag;exact .inr (.inl ⟨b,aa,by omega⟩)
  ·rw[if_neg b] at ag
   have dD:o0=6\/o0=7:=by omega
   rw[if_pos dD] at ag
   exact .inr (.inr ⟨dD,aa,by omega⟩)
theorem art(t:Nat)(bs:t<=64)(cy:∀t1,t<t1->t1<64->Ey t1):Ey t:=by
 intro z G w eA c B aj eZ d aL b sz fn at_ ed ev bp a8 Ia bW np bI bh Ic tu
 have tt:IntKind.i64.wrap (d.en+1)=((t+1:Nat):Int):=by rw[b.n6];exact qi t S
 refine iy Kd W (cQ z G G w) (cQ.start eA) ?_
 conv=>whnf
 refine ay.ku [c.val,J fn,.slice ed ev bp,J (IntKind.i64.wrap (d.en+1)),.slice bW np bI] XS.dg (fun dt bG v=>dt=z/\∃(f:fQ) (e:Int),v= .tuple #[f.val,J e]/\f.gf bG/\(e=0->Qw c B f fn (IntKind.i64.wrap (d.en+1)) np)) (fun w' ef jQ=>aqy z G w' ef c B (aj.ex jQ) eZ.loc fn _ ed ev bp a8 S bW np bI bh S) ?_
 rintro s3 fw v gb ⟨SV,f,e,rfl,aK,gg⟩
 subst SV
 replace aL:=aL.mono gb
 conv=>whnf
 refine c9.on (X:=l7) (fun x=> [(4,.v (.slice bW np bI)),(5,.v (J x.at_)),(6,.p 6 0),(7,.p 7 0),(12,.p 12 0),(13,.v (J 0)),(14,.v (J 0)),(15,.p 15 0),(17,.v (.slice x.A x.n x.c)),(18,.v (J x.block))]) (fun x=> [(6,159,x.d.l),(7,25,c.l),(12,159,fg.zero.l),(15,108,x.f.l)]) (fun x=>cQ x.z x.G G w) (fun x=>Qz s3 G d t np x) l7.jF ⟨fw,s3,{d with en:=IntKind.i64.wrap (d.en+1),err:=e},f,t+1,0,at_, -1,none,0,0⟩ ?_ ⟨rfl,rfl,rfl,rfl,rfl,rfl,rfl,rfl,rfl,rfl,trivial⟩ ⟨rfl,rfl,rfl,rfl,trivial⟩ ?_
 ·refine⟨gb,⟨aL.c,aL.m,aL.s,aL.h,aL.u,aL.p,aL.f⟩,aK,bL.nil _ _,Nat.le_refl _,Nat.le_refl _,by show t+1<=65;omega,tt,?_,⟨rfl,rfl,rfl,rfl⟩,Nat.le_refl _,Nat.le_refl _,Nat.le_refl _,Nat.le_refl _,fun e=>⟨rfl,e⟩,tu,fun _=>⟨id,rfl,fun af=>(gg af).a5⟩,fun af=>⟨(gg af).np,(gg af).aM,?_,?_⟩⟩
  ·show 0+l7.jF _<=4010
   unfold l7.jF
   split
   ·rename_i af
    have O:=(gg af).q0
    have V:f.aH=0:=O
    show 0+(1+2*(2000-f.aH).toNat+_)<=4010
    rw[V]
    split<;>omega
   ·omega
  ·have:f.ns=0:=(gg af).ns
   show f.ns<=101;omega
  ·have:f.a5=0:=(gg af).a5
   show f.a5<=0;omega
 clear gg aK aL tt
 rintro⟨gV,q4,eK,gk,t2,i,pG,nO,bf,cN,bA⟩ r I
 have Dh:G.le gV:=I.le
 have ga:eK.gf gV:=I.aL
 have HU:gk.gf gV:=I.aK
 have lk:bL gV .int bf cN bA:=I.U
 have nv:cN<=i:=I.n
 have NS:t+1<=t2:=I.lt
 have zI:t2<=65:=I.t64
 have va:eK.en=t2:=I.n6
 have j4:Ab d eK:=I.DG
 have axK:q4.m+5000*(t+1)<=s3.m+5000*t2+i:=I.qj
 have awS:eK.eE+5000*(t+1)<=d.eE+5000*t2+i:=I.eE
 have awQ:eK.np+15000*(t+1)<=d.np+15000*t2+3*i:=I.N7
 have awM:eK.aX+(t+1)<=d.aX+t2:=I.aX
 have x7:q4.s=true->t2=t+1/\s3.s=true:=I.P5
 have P3:q4.s=true->pG=0:=I.P2
 have qN:t2=t+1->(s3.s=true->q4.s=true)/\eK.np=d.np/\(eK.err=0->gk.a5=0):=I.one
 have RD:=I.jR
 have AX:=I.i
 conv=>whnf
 refine ba.eq (fun af=>?_) (fun af=>?_)
 ·have af:eK.err=0:=af
  have Eb:Qy ⟨gV,q4,eK,gk,t2,i,pG,nO,bf,cN,bA⟩ np:=RD af
  have gX:gk.np=np:=Eb.np
  have gr:gk.aM<=100:=Eb.aM
  have kT:gk.ns<=101:=Eb.ns
  have lI:gk.a5<=i:=Eb.a5
  have awx:i+(1+2*(2000-gk.aH).toNat+if gk.a5=0 then 0 else 1)<=4010:=by
   have O:l7.jF ⟨gV,q4,eK,gk,t2,i,pG,nO,bf,cN,bA⟩=1+2*(2000-gk.aH).toNat+(if gk.a5=0 then 0 else 1):=by
    unfold l7.jF
    exact if_pos af
   rw[<-O];exact AX
  have hi:i<=4009:=by omega
  clear RD Eb I
  conv=>whnf
  refine ay.ku [c.val,gk.val] XT.dg (Kv c q4 gk) (fun w' ef jQ=>alQ q4 gV w' ef c B (aj.ex jQ) eZ.ins gk HU S S S) ?_
  rintro k5 j5 v dN ⟨agH,kB,k,g,rfl,m2,CW,Fi⟩
  subst agH
  replace ga:=ga.mono dN
  replace HU:=HU.mono dN
  replace lk:=lk.mono dN
  conv=>whnf
  refine ba.ne (fun aZ=>?_) (fun aZ=>?_)
  ·conv=>whnf
   intro w' bj
   exact⟨k5,_,_,rfl,bj.1,bj.2,{eK with err:=g},t2,0,0,rfl,⟨ga.c,ga.m,ga.s,ga.h,ga.u,ga.p,ga.f⟩,⟨⟨va,zI,by omega,by show eK.eE+_<=_;omega,by show eK.np+_<=_;omega,by show eK.aX+_<=_;omega⟩,⟨j4.bB,j4.dO,j4.ns,j4.g8⟩,by omega,fun h=>(x7 h).2,fun h=>⟨(qN h).1,(qN h).2.1⟩⟩⟩
  have X:=Fi aZ
  clear Fi
  have x1:kB.np=np:=X.np.trans gX
  have fL:kB.aM<=100:=by rw[X.aM];exact gr
  have bT:kB.a5=gk.a5:=X.a5
  have pr:=X.ns
  have J3:=X.zz
  have s0:=X.s1
  have PX:=X.k0
  have u4:=sz.same j4
  conv=>whnf
  refine ba.dec (fun oy=>?_) (fun oy=>?_)
  ·have xt:gk.aH<kB.aH:=by rcases X.q0 with⟨O,_⟩|⟨_,V⟩<;>omega
   conv=>whnf
   refine ay.ku [eK.val,k.val,um.val ⟨pG,bW,np,bI,0,0,0,0,0,0,0,false⟩] XU.dg _ (fun w' ef jQ=>asx k5 j5 w' ef (by have:=b.qj;omega) eK ga (by have:=u4.dO;have:=u4.ns;have:=u4.g8;have:=u4.b1;have:=u4.b2;have:=u4.du;omega) (by have:=u4.bB;have:=u4.wY;omega) (by have:=b.eE;omega) k ⟨by omega,oy⟩ (fun h=>by rw[u4.bB];exact X.iY h) (fun h=>al6 u4 (X.oy h)) ⟨pG,bW,np,bI,0,0,0,0,0,0,0,false⟩ P3 ((bh.mono Dh).mono dN)) ?_
   rintro vi iI v dA ⟨yH,eJ,N0,fa,rfl,HP,kQ,agB,awi⟩
   replace lk:=lk.mono dA
   replace m2:=m2.mono dA
   conv=>whnf
   refine ba.eq (fun h=>absurd h S) (fun _=>?_)
   conv=>whnf
   refine ba.eq (fun h=>absurd h S) (fun _=>?_)
   conv=>whnf
   refine ba.eq (fun h=>absurd h S) (fun _=>?_)
   conv=>whnf
   refine ba.eq (fun HR=>?_) (fun HR=>?_)
   ·conv=>whnf
    refine ay.ku [kB.val,k.val,.slice eJ N0 fa] J7.dg _ (fun w' ef _=>Py vi iI w' ef kB m2 S S S k eJ N0 fa agB S) ?_
    rintro pt nk v hd ⟨agJ,w7,gj,rfl,afp,T⟩
    subst agJ
    replace HP:=HP.mono hd
    replace lk:=lk.mono hd
    have J5:=T.Uw S
    have J6:=T.ns
    have DV:w7.aH=kB.aH:=T.q0
    conv=>whnf
    have pY:l7.jF ⟨nk,pt,{yH with err:=gj},w7,t2,i+1,pG,nO,bf,cN,bA⟩<l7.jF ⟨gV,k5,eK,gk,t2,i,pG,nO,bf,cN,bA⟩:=Gm af (fun _=> .inl ⟨by show gk.aH<w7.aH;omega,by show w7.aH<=2000;omega⟩)
    refine cC ⟨nk,pt,{yH with err:=gj},w7,t2,i+1,pG,nO,bf,cN,bA⟩ pY ?_ ⟨rfl,rfl,rfl,rfl,rfl,rfl,rfl,rfl,rfl,rfl,trivial⟩ ⟨rfl,rfl,rfl,rfl,trivial⟩
    exact Gk (d':=yH) (e:=gj) (((Dh.trans dN).trans dA).trans hd) HP afp lk S NS zI (kQ.en.trans va) (Gl pY AX) ⟨kQ.bB.trans j4.bB,kQ.dO.trans j4.dO,kQ.ns.trans j4.ns,kQ.g8.trans j4.g8⟩ (by have:=kQ.qj;omega) (by have:=kQ.eE;omega) (by have:=kQ.np;omega) (by have:=kQ.aX;omega) (fun h=>x7 (kQ.dG.symm.trans h)) (fun h=>P3 (kQ.dG.symm.trans h)) (fun h=>⟨fun O=>kQ.dG.trans ((qN h).1 O),kQ.np.trans (qN h).2.1,fun _=>by(have:=(qN h).2.2 af;omega)⟩) (fun _=>⟨T.np.trans x1,by(rw[T.aM];exact fL),by omega,by omega⟩)
   ·conv=>whnf
    have pY:l7.jF ⟨iI,vi,yH,kB,t2,i+1,pG,nO,bf,cN,bA⟩<l7.jF ⟨gV,k5,eK,gk,t2,i,pG,nO,bf,cN,bA⟩:=Gm af (fun h=>absurd h HR)
    refine cC ⟨iI,vi,yH,kB,t2,i+1,pG,nO,bf,cN,bA⟩ pY ?_ ⟨rfl,rfl,rfl,rfl,rfl,rfl,rfl,rfl,rfl,rfl,trivial⟩ ⟨rfl,rfl,rfl,rfl,trivial⟩
    exact Gk (d':=yH) (e:=yH.err) ((Dh.trans dN).trans dA) HP m2 lk S NS zI (kQ.en.trans va) (Gl pY AX) ⟨kQ.bB.trans j4.bB,kQ.dO.trans j4.dO,kQ.ns.trans j4.ns,kQ.g8.trans j4.g8⟩ (by have:=kQ.qj;omega) (by have:=kQ.eE;omega) (by have:=kQ.np;omega) (by have:=kQ.aX;omega) (fun h=>x7 (kQ.dG.symm.trans h)) (fun h=>P3 (kQ.dG.symm.trans h)) (fun h=>⟨fun O=>kQ.dG.trans ((qN h).1 O),kQ.np.trans (qN h).2.1,fun ag=>absurd ag HR⟩) (fun ag=>absurd ag HR)
  ·conv=>whnf
   refine ba.eq (fun nY=>?_) (fun nY=>?_)
   ·have xt:gk.aH<kB.aH:=by rcases X.q0 with⟨O,_⟩|⟨_,V⟩<;>omega
    have rB:=X.nY nY
    conv=>whnf
    refine oh [IntKind.i64.wrap (eK.en+1)] (by simp) ?_
    intro iI eJ dA cw
    replace ga:=ga.mono dA
    replace lk:=lk.mono dA
    replace m2:=m2.mono dA
    replace CW:=CW.mono dA
    conv=>whnf
    refine ay.ku [eK.val,c.val,kB.val,k.val,J pG,J nO] XV.dg (Qc k5 eK t2) (fun w' ef jQ=>ad7 t2 (fun h=>cy t2 S h) k5 iI w' ef c B (aj.ex jQ) eZ eK ga ⟨va,zI,by have:=b.qj;omega,by have:=b.eE;omega,by have:=b.np;omega,by have:=b.aX;omega⟩ (by have:=b.np;omega) u4 kB m2 S k CW rB pG nO) ?_
    rintro pt nk v hd ⟨tg,u5,val,on,Hb,rfl,y0,px⟩
    replace lk:=lk.mono hd
    replace m2:=m2.mono hd
    replace cw:=cw.mono hd
    conv=>whnf
    refine oh [val] (by simp) ?_
    intro r6 oG ey fS
    replace y0:=y0.mono ey
    replace lk:=lk.mono ey
    replace m2:=m2.mono ey
    replace cw:=cw.mono ey
    conv=>whnf
    refine g3 .int lk fS (cN+1) rfl S ?_
    intro wL wG He hL hE
    replace y0:=y0.mono hL
    replace m2:=m2.mono hL
    replace cw:=cw.mono hL
    conv=>whnf
    refine ba.eq (fun h=>absurd h S) (fun _=>?_)
    conv=>whnf
    refine ba.eq (fun h=>absurd h S) (fun _=>?_)
    have m8:=px.b.qj
    have p8:=px.b.eE
    have wg:=px.b.np
    have Ji:=px.b.aX
    have ON:t2<=u5:=by rcases px.ok with⟨_,h,_⟩|⟨h,_⟩<;>omega
    have Ww:Ab d tg:=⟨px.n.bB.trans j4.bB,px.n.dO.trans j4.dO,px.n.ns.trans j4.ns,px.n.g8.trans j4.g8⟩
    have TV:G.le wL:=((((Dh.trans dN).trans dA).trans hd).trans ey).trans hL
    have Yh:pt.s=true->u5=t+1/\s3.s=true:=fun h=>by
     rcases px.ok with⟨_,O,V,_⟩|⟨_,O⟩
     ·rw[V] at h;rw[O];exact x7 h
     ·rw[O] at h;cases h
    have Yf:pt.s=true->on=0:=fun h=>by
     rcases px.ok with⟨_,_,_,_,O⟩|⟨_,O⟩
     ·exact O
     ·rw[O] at h;cases h
    have Ob:u5=t+1->tg.err=10/\(s3.s=true->pt.s=true)/\tg.np=d.np:=fun h=>by
     rcases px.ok with⟨aT,O,V,aa,_⟩|⟨O,_⟩
     ·rw[V,aa]
      have:=qN (O.symm.trans h)
      exact⟨aT,this.1,this.2.1⟩
     ·omega
    conv=>whnf
    refine ba.eq (fun CR=>?_) (fun CR=>?_)
    ·have CR:tg.err=0:=CR
     conv=>whnf
     refine ay.ku [kB.val,k.val,.slice eJ 1 1] J7.dg _ (fun w' ef _=>Py pt wL w' ef kB m2 S S S k eJ 1 1 cw S) ?_
     rintro DW ye v kI ⟨M1,vJ,w4,rfl,Ms,T⟩
     subst M1
     replace y0:=y0.mono kI
     replace hE:=hE.mono kI
     have J5:=T.a5
     have J6:=T.ns
     have DV:vJ.aH=kB.aH:=T.q0
     conv=>whnf
     have pY:l7.jF ⟨ye,DW,{tg with err:=w4},vJ,u5,i+1,on,Hb,wG,cN+1,He⟩<l7.jF ⟨gV,k5,eK,gk,t2,i,pG,nO,bf,cN,bA⟩:=Gm af (fun _=> .inl ⟨by show gk.aH<vJ.aH;omega,by show vJ.aH<=2000;omega⟩)
     refine cC ⟨ye,DW,{tg with err:=w4},vJ,u5,i+1,on,Hb,wG,cN+1,He⟩ pY ?_ ⟨rfl,rfl,rfl,rfl,rfl,rfl,rfl,rfl,rfl,rfl,trivial⟩ ⟨rfl,rfl,rfl,rfl,trivial⟩
     exact Gk (d':=tg) (e:=w4) (TV.trans kI) y0 Ms hE S S px.b.t64 px.b.n6 (Gl pY AX) Ww S S S S Yh Yf (fun h=>absurd (Ob h).1 S) (fun _=>⟨T.np.trans x1,by(rw[T.aM];exact fL),by omega,by omega⟩)
    ·conv=>whnf
     have pY:l7.jF ⟨wL,pt,tg,kB,u5,i+1,on,Hb,wG,cN+1,He⟩<l7.jF ⟨gV,k5,eK,gk,t2,i,pG,nO,bf,cN,bA⟩:=Gm af (fun h=>absurd h CR)
     refine cC ⟨wL,pt,tg,kB,u5,i+1,on,Hb,wG,cN+1,He⟩ pY ?_ ⟨rfl,rfl,rfl,rfl,rfl,rfl,rfl,rfl,rfl,rfl,trivial⟩ ⟨rfl,rfl,rfl,rfl,trivial⟩
     exact Gk (d':=tg) (e:=tg.err) TV y0 m2 hE S S px.b.t64 px.b.n6 (Gl pY AX) Ww S S S S Yh Yf (fun h=>⟨(Ob h).2.1,(Ob h).2.2,fun ag=>absurd ag CR⟩) (fun ag=>absurd ag CR)
   ·conv=>whnf
    refine ba.eq (fun rI=>?_) (fun rI=>?_)
    ·obtain⟨ov,xt⟩:0<gk.a5/\gk.aH<=kB.aH:=by rcases X.q0 with⟨_,O,V⟩|⟨O,_⟩<;>omega
     have zb:t2≠t+1:=fun h=>by have:=(qN h).2.2 af;omega
     conv=>whnf
     refine KW ?_
     intro iI eJ dA cw
     replace ga:=ga.mono dA
     replace lk:=lk.mono dA
     replace m2:=m2.mono dA
     conv=>whnf
     refine g3 .split ga.p cw (eK.np+1) rfl (by have:=b.np;omega) ?_
     intro nk gS gW hd fF
     replace ga:=ga.mono hd
     replace lk:=lk.mono hd
     replace m2:=m2.mono hd
     conv=>whnf
     refine ba.eq (fun h=>absurd h S) (fun _=>?_)
     conv=>whnf
     refine ba.eq (fun _=>?_) (fun h=>absurd af h)
     conv=>whnf
     refine ay.ku [kB.val,k.val,.slice bf cN bA] J7.dg _ (fun w' ef _=>Py k5 nk w' ef kB m2 S S S k bf cN bA lk S) ?_
     rintro DW ye v kI ⟨M1,vJ,w4,rfl,Ms,T⟩
     subst M1
     replace ga:=ga.mono kI
     replace fF:=fF.mono kI
     have J5:=T.Uw S
     have J6:=T.ns
     have DV:vJ.aH=kB.aH:=T.q0
     conv=>whnf
     have pY:l7.jF ⟨ye,DW,{eK with bW:=gS,np:=eK.np+1,bI:=gW,err:=w4},vJ,t2,i+1,nO,nO,none,0,0⟩<l7.jF ⟨gV,DW,eK,gk,t2,i,pG,nO,bf,cN,bA⟩:=Gm af (fun h=> .inr ⟨by show gk.aH<=vJ.aH;omega,by show gk.a5≠0;omega,T.alS rI h⟩)
     refine cC ⟨ye,DW,{eK with bW:=gS,np:=eK.np+1,bI:=gW,err:=w4},vJ,t2,i+1,nO,nO,none,0,0⟩ pY ?_ ⟨rfl,rfl,rfl,rfl,rfl,rfl,rfl,rfl,rfl,rfl,trivial⟩ ⟨rfl,rfl,rfl,rfl,trivial⟩
     exact Gk (d':={eK with bW:=gS,np:=eK.np+1,bI:=gW}) (e:=w4) ((((Dh.trans dN).trans dA).trans hd).trans kI) ⟨ga.c,ga.m,ga.s,ga.h,ga.u,fF,ga.f⟩ Ms (bL.nil _ _) S NS zI va (Gl pY AX) ⟨j4.bB,j4.dO,j4.ns,j4.g8⟩ S (by show eK.eE+_<=_;omega) (by show eK.np+1+_<=_;omega) (by show eK.aX+_<=_;omega) (fun h=>absurd (x7 h).1 zb) (fun h=>absurd (x7 h).1 zb) (fun h=>absurd h zb) (fun _=>⟨T.np.trans x1,by(rw[T.aM];exact fL),by omega,by omega⟩)
    ·conv=>whnf
     refine ba.eq (fun oz=>?_) (fun oz=>absurd PX S)
     conv=>whnf
     refine ba.intro (fun sv=>?_) (fun sv=>?_)
     ·conv=>whnf
      refine ay.ku [.slice eK.bS eK.aX eK.bb,.slice bW np bI] XW.dg _ (fun w' ef _=>anS k5 j5 w' ef eK.bS eK.aX eK.bb ga.f (by have:=b.aX;omega) bW np bI ((bh.mono Dh).mono dN) S) ?_
      rintro vi iI v dA ⟨agI,eJ,pa,fa,rfl,cw,CY⟩
      subst agI
      replace ga:=ga.mono dA
      conv=>whnf
      intro w' bj
      exact⟨vi,_,_,rfl,bj.1,bj.2,{eK with steps:=IntKind.i64.wrap (eK.steps+kB.aH),bS:=eJ,aX:=pa,bb:=fa},t2,_,_,rfl,⟨ga.c,ga.m,ga.s,ga.h,ga.u,ga.p,cw⟩,⟨⟨va,zI,by omega,by show eK.eE+_<=_;omega,by show eK.np+_<=_;omega,by show pa+_<=_;omega⟩,⟨j4.bB,j4.dO,j4.ns,j4.g8⟩,by omega,fun h=>(x7 h).2,fun h=>⟨(qN h).1,(qN h).2.1⟩⟩⟩
     ·conv=>whnf
      intro w' bj
      exact⟨k5,_,_,rfl,bj.1,bj.2,{eK with steps:=IntKind.i64.wrap (eK.steps+kB.aH)},t2,_,_,rfl,⟨ga.c,ga.m,ga.s,ga.h,ga.u,ga.p,ga.f⟩,⟨⟨va,zI,by omega,by show eK.eE+_<=_;omega,by show eK.np+_<=_;omega,by show eK.aX+_<=_;omega⟩,⟨j4.bB,j4.dO,j4.ns,j4.g8⟩,by omega,fun h=>(x7 h).2,fun h=>⟨(qN h).1,(qN h).2.1⟩⟩⟩
 ·have hi:i<=4010:=jr (Nat.le_add_right _ _) AX
  conv=>whnf
  intro w' bj
  exact⟨q4,_,_,rfl,bj.1,bj.2,eK,t2,0,0,rfl,ga,⟨⟨va,zI,by omega,by omega,by omega,by omega⟩,j4,by omega,fun h=>(x7 h).2,fun h=>⟨(qN h).1,(qN h).2.1⟩⟩⟩
theorem arp:∀(n t:Nat),t+n=64->Ey t:=fun n=>by
 induction n using Nat.strongRecOn with
 |ind n cy=>
  intro t h
  exact art t S fun t1 O V=>cy (64-t1) S t1 S
theorem ars:Ey 0:=arp 64 0 rfl
end Go.Proofs.YtcflcebplhdcpaaGreat
