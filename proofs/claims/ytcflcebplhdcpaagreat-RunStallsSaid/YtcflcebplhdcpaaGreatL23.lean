/- Lemmas, part 23; each states its own conditions. -/
import Derived.Test.YtcflcebplhdcpaaGreatL22
namespace Go.Proofs.YtcflcebplhdcpaaGreat
open Go.RowKit
set_option linter.unusedSimpArgs false
set_option linter.unusedVariables false
set_option maxRecDepth 100000
set_option maxHeartbeats 16000000
variable{H w0:World}{X:Nat->Prop}{M:aw}{K:Value->an->Prop}{Z:bF}
theorem XG {P:Prop} (h:P:=by
 repeat'((first
  |(refine Ra aK fun bW bI bK bD b4 cs bq bZ oZ=>?_)
  |(refine rG b o b0 c3.f0 c3.f1 ?_)
  |(refine iZ (b8 c f.fn).l im aD W W ?_)
  |(refine hT aD _ rfl fun bm=>?_)
  |(refine eB.imp (aJ.toA _) ?_;refine tV aD h8.here ?_)
  |(refine eB.imp (aJ.toB _) ?_;refine tV aD h8.here ?_)
  |(exact hA.on (X:=Nat×Option Addr×Nat×Option Addr×Nat×Option Addr×Nat×Option Addr×Nat) (bm,bW,bI,bK,bD,b4,cs,bq,bZ) oZ ⟨rfl,rfl,rfl,rfl,rfl,trivial⟩ trivial)
  |(refine cd.drop (K:=K) M ua (O aP 1 (at9 af)))
  |(refine h0.imp (aJ.sub ua) (VJ (f:=f) (g:=ub) (a:=qs) rfl ?_))
  |(refine p9 b7 aD W ?_)
  |(refine sR b7 aD W W ?_)
  |refine eg ?_
  |(refine eh ?_ ?_)
  |with_reducible intro r)<;>(try conv=>whnf))):P:=h
section
structure aaO(c:cr)(f:a3):Prop where
 task:1<=f.task
 f0:0<=f.fn
 f1:f.fn<c.aX
 aA:0<=f.aA/\f.aA<=(b8 c f.fn).b6
 aM:(f.aM:Int)=(b8 c f.fn).locals
 ns:f.ns<=100
 kids:f.kids.all (tz (b8 c f.fn).locals)=true
 loc:kL f.loc=true
 aO:kL f.aO=true
 many:0<=f.many
 aH:0<=f.aH/\f.aH<=2000
theorem Jm{c:cr}{f:a3}(h:iB c f=true):aaO c f:=by
 unfold iB at h
 split at h
 ·cases h
 ·rename_i O
  split at h
  ·cases h
  ·rename_i V
   split at h
   ·cases h
   ·rename_i aa
    simp only[e3,decide_eq_true_eq] at h
    obtain⟨ag,a6,bU,dh,cT⟩:=h
    exact⟨by omega,by omega,by omega,by omega,by omega,by omega,by simpa using aa,ag,a6,bU,by omega⟩
def PG(f:a3)(bK:Option Addr)(bD:Nat)(b4:Option Addr)(cs:Nat):mS:=⟨f.aA,f.aH,f.fail,bK,f.aM,bD,f.loc,b4,f.ns,cs,f.aO⟩
abbrev ub:a3:=⟨0,none,0,0,[],0,0,none,0,0,[],none,0,0,[],none,0,0,[],0,0,false⟩
def RF(k:hg)(v:mS):List Value:=[J k.task,.slice k.bW k.np k.bI,J k.fn,J v.aA,.slice v.bK v.aM v.bD,.slice v.b4 v.ns v.cs,.slice k.bq k.a5 k.bZ,J k.many,J v.aH,.bool v.fail]
def abg(q:l5):List Value:=[J q.kind,J q.a,J q.b,J q.o0,J q.o1,J q.aQ,J q.bl,.slice q.ed q.ev q.bp]
def tR(k:hg)(v:mS)(q:l5)(M:aw):aw:=(.slice v.b4 v.ns v.cs,.row 3 1 (is v.aO))::(.slice v.bK v.aM v.bD,.row 3 1 (is v.loc))::(.slice q.ed q.ev q.bp,.row 3 1 (is q.got))::(.slice k.bq k.a5 k.bZ,.row 252 2 (ks k.kids))::(.slice k.bW k.np k.bI,.row 3 1 (is k.path))::M
theorem S1:∀(l:List fe) (i:Nat) (h:i<l.length),((xy l).drop (i*4)).take 4=[J l[i].op,J l[i].a,J l[i].b,J l[i].c]
 |k::l,0,h=>rfl
 |k::l,i+1,h=>by
  have:(i+1)*4=i*4+4:=by omega
  rw[this]
  simp only[xy,List.drop_succ_cons,GR]
  exact S1 l i (by simpa using h)
theorem ag9{A:Option Addr}{n:Nat}{xs:List fe}(rC:dU H H.heap.size A (xy xs))(aB:n=xs.length){i:Int}(aT:0<=i)(O:i<n){K:Value->Prop}(U:∀b off,(∀q v,[J (xs.getD i.toNat ⟨0,0,0,0⟩).op,J (xs.getD i.toNat ⟨0,0,0,0⟩).a,J (xs.getD i.toNat ⟨0,0,0,0⟩).b,J (xs.getD i.toNat ⟨0,0,0,0⟩).c][q]?=some v->H.cell? ⟨b,off+q,none⟩=some v)->K (.pointer (some ⟨b,off,none⟩))):gn A n i 4 K:=by
 have hi:i.toNat<xs.length:=by omega
 have e:xs.getD i.toNat ⟨0,0,0,0⟩=xs[i.toNat]:=by simp[List.getD,hi]
 rw[e] at U
 have key:∀q v,[J xs[i.toNat].op,J xs[i.toNat].a,J xs[i.toNat].b,J xs[i.toNat].c][q]?=some v->(xy xs)[i.toNat*4+q]?=some v:=fun q v ah=>by
  have:=S1 xs i.toNat hi
  rw[<-this] at ah
  have bd:=(l0.1 ah).1
  rw[py,if_pos (by simp at bd;omega),qo] at ah
  exact ah
 obtain⟨b,off,b0,ab,_⟩:=rC.at_ (key 0 _ rfl)
 refine⟨_,b0,aT,O,?_⟩
 rw[Addr.add_lit]
 refine U b _ fun q v ah=>?_
 obtain⟨cu,FK,fE,_,aj⟩:=rC.at_ (key q v ah)
 rw[b0] at fE
 injection fE with fE
 injection fE with e1 e2
 subst e1 e2
 rw[yl]
 exact aj
theorem aqF{c:cr}{f:a3}{bW:Option Addr}{bI:Nat}{bq:Option Addr}{bZ:Nat}{cW:Int->Int}{b:nj}{g:bR}:qd (gh c f bW bI bq bZ) cW b g=qd (gh c f none 0 none 0) cW b g:=rfl
theorem V3{c:cr}{f:a3}{bW:Option Addr}{bI:Nat}{bq:Option Addr}{bZ:Nat}{cW:Int->Int}{b:nj}:∀(n:Nat) (g:bR),nb (gh c f bW bI bq bZ) cW b n g=nb (gh c f none 0 none 0) cW b n g
 |0,_=>rfl
 |n+1,g=>by
  simp only[nb,aqF]
  split
  ·exact V3 n _
  ·rfl
  ·rfl
theorem amO{g p k s l a:Value×aY}{R:aw}:List.Perm (g::p::k::s::l::a::R) (p::s::l::g::k::a::R):=
 (kO p g _).trans (.cons p ((yj (l₁:=[g,k]) (l₂:=[s,l])).append_right (a::R)))
theorem aJ.toA{p k s l a:Value×aY}(R:aw):aJ (p::k::s::l::a::R) (p::s::l::(.slice none 0 0,.row 3 1 (is []))::k::a::R):=
 aJ.trans (aJ.nil _ none 3 1) (aJ.perm amO)
theorem aJ.toB{p k s l a:Value×aY}(R:aw):aJ (k::s::l::a::p::R) (p::s::l::(.slice none 0 0,.row 3 1 (is []))::k::a::R):=
 aJ.trans (aJ.perm (vo (l₁:=[k,s,l,a]) (a:=p) (l₂:=R))) (aJ.toA R)
theorem aJ.abB{s9 ri sd Af uo uq yu e1 e2 cR dR gj Aq:Value×aY}(R:aw):aJ (s9::ri::sd::Af::uo::uq::yu::e1::e2::cR::dR::gj::Aq::R) (e1::e2::cR::dR::gj::Aq::s9::ri::sd::Af::uo::uq::yu::R):=
 aJ.perm ((yj (l₁:=[s9,ri,sd,Af,uo,uq,yu]) (l₂:=[e1,e2,cR,dR,gj,Aq])).append_right R)
theorem aqE{k:hg}{cW:Int->Int}{b:nj}{f:bR}(O:¬f.aH=2000)(V:0<=f.aA/\f.aA<b.b6)(aa:1<=(iQ b f.aA).op/\(iQ b f.aA).op<20):qd k cW b f=gD k cW f (iQ b f.aA):=by
 rw[qd,if_neg O,if_neg (fun h=>h V),if_neg (fun h=>h aa)]
theorem adJ(c:cr)(a:Int):(fun a=>(b8 c a).args) a=(c.dC.map (·.args)).getD a.toNat 0:=by
 simp only[b8,List.getD,oc]
 cases c.dC[a.toNat]?<;>rfl
theorem aec{c:cr}{f:a3}{bW:Option Addr}{bI:Nat}{bq:Option Addr}{bZ:Nat}(aj:hP H c):∀i,i<(gh c f bW bI bq bZ).aX->∃dK o,(gh c f bW bI bq bZ).bS=some ⟨dK,o,none⟩/\H.cell? ⟨dK,o+i*3,none⟩=some (J ((c.dC.map (·.args)).getD i 0)):=fun i hi=>by
 have o4:i<c.dC.length:=by have:=aj.aX;have:(gh c f bW bI bq bZ).aX=c.aX:=rfl;omega
 obtain⟨b,o,O,V⟩:=aj.body i o4
 have e:(c.dC.map (·.args)).getD i 0=c.dC[i].args:=by simp[List.getD,o4]
 rw[e]
 exact⟨b,o,O,V 0 _ rfl⟩
theorem n5 {P:Prop} (h:P:=by
 conv=>whnf
 repeat'(first
  |(refine agN (i:=(b8 c f.fn).ins.getD v.aA.toNat ⟨0,0,0,0⟩) (cW:=fun a=>(b8 c a).args) ad kW cO ⟨fun dw dY kG af=>?_,fun dw lr dY mm ir af=>?_,fun af=>?_⟩)
  |(refine agY (i:=(b8 c f.fn).ins.getD v.aA.toNat ⟨0,0,0,0⟩) (cW:=fun a=>(b8 c a).args) ad kW cO ⟨fun dw dY kG af=>?_,fun dw lr dY mm ir af=>?_,fun af=>?_⟩)
  |(refine agZ (i:=(b8 c f.fn).ins.getD v.aA.toNat ⟨0,0,0,0⟩) (cW:=fun a=>(b8 c a).args) ad kW cO ⟨fun dw dY kG af=>?_,fun dw lr dY mm ir af=>?_,fun af=>?_⟩)
  |(refine ag0 (i:=(b8 c f.fn).ins.getD v.aA.toNat ⟨0,0,0,0⟩) (cW:=fun a=>(b8 c a).args) ad kW cO ⟨fun dw dY kG af=>?_,fun dw lr dY mm ir af=>?_,fun af=>?_⟩)
  |(refine ag1 (i:=(b8 c f.fn).ins.getD v.aA.toNat ⟨0,0,0,0⟩) (cW:=fun a=>(b8 c a).args) ad kW cO ⟨fun dw dY kG af=>?_,fun dw lr dY mm ir af=>?_,fun af=>?_⟩)
  |(refine ag2 (i:=(b8 c f.fn).ins.getD v.aA.toNat ⟨0,0,0,0⟩) (cW:=fun a=>(b8 c a).args) ad kW cO b1 jY ⟨fun dw dY kG af=>?_,fun dw lr dY mm ir af=>?_,fun af=>?_⟩)
  |(refine ag3 (i:=(b8 c f.fn).ins.getD v.aA.toNat ⟨0,0,0,0⟩) (cW:=fun a=>(b8 c a).args) ad kW cO b2 jY ⟨fun dw dY kG af=>?_,fun dw lr dY mm ir af=>?_,fun af=>?_⟩)
  |(refine ag4 (i:=(b8 c f.fn).ins.getD v.aA.toNat ⟨0,0,0,0⟩) (cW:=fun a=>(b8 c a).args) ad kW cO du jY ⟨fun dw dY kG af=>?_,fun dw lr dY mm ir af=>?_,fun af=>?_⟩)
  |(refine ag5 (i:=(b8 c f.fn).ins.getD v.aA.toNat ⟨0,0,0,0⟩) (cW:=fun a=>(b8 c a).args) ad kW cO dv jY ⟨fun dw dY kG af=>?_,fun dw lr dY mm ir af=>?_,fun af=>?_⟩)
  |(refine agO (i:=(b8 c f.fn).ins.getD v.aA.toNat ⟨0,0,0,0⟩) (cW:=fun a=>(b8 c a).args) ad kW cO eu jY ⟨fun dw dY kG af=>?_,fun dw lr dY mm ir af=>?_,fun af=>?_⟩)
  |(refine agP (i:=(b8 c f.fn).ins.getD v.aA.toNat ⟨0,0,0,0⟩) (cW:=fun a=>(b8 c a).args) ad kW cO ⟨fun dw dY kG af=>?_,fun dw lr dY mm ir af=>?_,fun af=>?_⟩)
  |(refine agQ (i:=(b8 c f.fn).ins.getD v.aA.toNat ⟨0,0,0,0⟩) (cW:=fun a=>(b8 c a).args) ad kW cO ⟨fun dw dY kG af=>?_,fun dw lr dY mm ir af=>?_,fun af=>?_⟩)
  |(refine agR (i:=(b8 c f.fn).ins.getD v.aA.toNat ⟨0,0,0,0⟩) (cW:=fun a=>(b8 c a).args) ad kW (c.dC.map (·.args)) gY (adJ c) cO ⟨fun dw dY kG af=>?_,fun dw lr dY mm ir af=>?_,fun af=>?_⟩)
  |(refine agS (i:=(b8 c f.fn).ins.getD v.aA.toNat ⟨0,0,0,0⟩) (cW:=fun a=>(b8 c a).args) ad kW cO ⟨fun dw dY kG af=>?_,fun dw lr dY mm ir af=>?_,fun af=>?_⟩)
  |(refine agT (i:=(b8 c f.fn).ins.getD v.aA.toNat ⟨0,0,0,0⟩) (cW:=fun a=>(b8 c a).args) ad kW cO ⟨fun dw dY kG af=>?_,fun dw lr dY mm ir af=>?_,fun af=>?_⟩)
  |(refine agU (i:=(b8 c f.fn).ins.getD v.aA.toNat ⟨0,0,0,0⟩) (cW:=fun a=>(b8 c a).args) ad kW cO ⟨fun dw dY kG af=>?_,fun dw lr dY mm ir af=>?_,fun af=>?_⟩)
  |(refine agV (i:=(b8 c f.fn).ins.getD v.aA.toNat ⟨0,0,0,0⟩) (cW:=fun a=>(b8 c a).args) ad kW cO ⟨fun dw dY kG af=>?_,fun dw lr dY mm ir af=>?_,fun af=>?_⟩)
  |(refine agW (i:=(b8 c f.fn).ins.getD v.aA.toNat ⟨0,0,0,0⟩) (cW:=fun a=>(b8 c a).args) ad kW cO ⟨fun dw dY kG af=>?_,fun dw lr dY mm ir af=>?_,fun af=>?_⟩)
  |(refine agX (i:=(b8 c f.fn).ins.getD v.aA.toNat ⟨0,0,0,0⟩) (cW:=fun a=>(b8 c a).args) ad kW cO i2 jY ⟨fun dw dY kG af=>?_,fun dw lr dY mm ir af=>?_,fun af=>?_⟩)
  |(refine fv b7 aD W W ?_;conv=>whnf)
  |(refine iZ _ av aD W W ?_;conv=>whnf))
 ·conv=>whnf
  refine cC (X:=mS×l5) (dw,bJ) (by have:=dY.aH;simp only[dm,bJ];show 2001-dw.aH.toNat<2001-v.aH.toNat;omega) ⟨dY,bd,.inl ⟨rfl,aua dw kG af⟩⟩ ⟨rfl,rfl,rfl,rfl,rfl,rfl,trivial⟩ trivial
 ·conv=>whnf
  refine cC (X:=mS×l5) (dw,lr) (by show(if lr.kind=0 then _ else 0)<(2001-v.aH.toNat);rw[if_neg ir];omega) ⟨dY,mm,.inr ⟨ir,at6 dw lr af⟩⟩ ⟨rfl,rfl,rfl,rfl,rfl,rfl,trivial⟩ trivial
 ·conv=>whnf
  exact XG
):P:=h
theorem alR {c:cr} {f:a3} (aj:hP H c) (aK:i1 H f)
  (aT:iB c f=false->K (.tuple #[.agg f.l.toArray,.agg qs.toArray,J 1]) (Y H w0 X M))
  (O:iB c f=true->∀e,jh c f= .err e->K (.tuple #[.agg f.l.toArray,.agg qs.toArray,J e]) (Y H w0 X M))
  (V:iB c f=true->∀bW bI bq bZ v q,eO (gh c f bW bI bq bZ) v->ys q->q.kind≠0->jh c f= .ok (ez v) (gL q)->K (.tuple #[.agg (RF (gh c f bW bI bq bZ) v).toArray,.agg (abg q).toArray,J 0]) (Y H w0 X (tR (gh c f bW bI bq bZ) v q M))):
  ay Tryz.prog (Y H w0 X M) 91 #[.agg c.l.toArray,.agg f.l.toArray] K Z:=by
 refine sH e8 i6 aj9 W ?_
 intro az aF
 conv=>whnf
 refine h2 f.l rfl fun p3=>?_
 conv=>whnf
 refine hT aD _ rfl fun lq=>?_
 conv=>whnf
 refine hT aD _ rfl fun lR=>?_
 conv=>whnf
 refine hT aD _ rfl fun lS=>?_
 conv=>whnf
 refine ke b7 aD W ?_
 conv=>whnf
 refine ao1 aj aK ?_
 cases aP:iB c f with
 |false=>
  conv=>whnf
  repeat'(first
   |(refine ke b7 aD W ?_;conv=>whnf)
   |(refine tV aD mw ?_;conv=>whnf)
   |(refine p9 b7 aD W ?_;conv=>whnf)
   |(refine sR b7 aD W W ?_;conv=>whnf))
  exact cd.drop (K:=K) M (.cons _ (.cons _ (.cons _ (.cons _ (.refl _))))) (aT aP)
 |true=>
  have c3:=Jm aP
  obtain⟨b,o,b0,im⟩:=aj.at_ c3.f0 c3.f1
  conv=>whnf
  refine kZ W ?_
  conv=>whnf
  refine eS.on (X:=Nat×Option Addr×Nat×Option Addr×Nat×Option Addr×Nat×Option Addr×Nat) (fun(bm,_)=> [(3,.v (ae p3)),(4,.v (ae lq)),(5,.v (ae lR)),(6,.v (ae lS)),(7,.v (ae bm))]) (fun _=> []) (fun(bm,bW,bI,bK,bD,b4,cs,bq,bZ)=>Y H az aF (cb (gh c f bW bI bq bZ) (PG f bK bD b4 cs) bJ bm (tI f ub qs 0 p3 lq lR lS M))) (fun(bm,bW,bI,bK,bD,b4,cs,bq,bZ)=>GI f bW bI bK bD b4 cs bq bZ) ?_ ?_
  ·conv=>whnf
   exact XG
  ·rintro⟨bm,bW,bI,bK,bD,b4,cs,bq,bZ⟩ r oZ
   replace oZ:GI f bW bI bK bD b4 cs bq bZ:=oZ
   show ay _ (Y H az aF (cb (gh c f bW bI bq bZ) (PG f bK bD b4 cs) bJ bm (tI f ub qs 0 p3 lq lR lS M))) _ _ _ _
   refine aqJ fun b1 b2 du dv eu i2=>?_
   conv=>whnf
   refine hT aD _ rfl fun g5=>?_
   conv=>whnf
   refine eB.imp (aJ.abB _) ?_
   refine tV aD mw ?_
   conv=>whnf
   have lK:=aj.b6 c3.f0 c3.f1
   refine c9.on (X:=mS×l5) (fun _=> [(3,.v (ae p3)),(4,.v (ae lq)),(5,.v (ae lR)),(6,.v (ae lS)),(7,.v (ae bm)),(8,.v (ae g5))]) (fun _=> []) (fun(v,q)=>Y H az aF (cb (gh c f bW bI bq bZ) v q bm ((ae g5,.cs 213 (x2 b1 b2 du dv eu i2))::xE b1 b2 du dv eu i2 (tI f ub qs 0 p3 lq lR lS M)))) (fun(v,q)=>eO (gh c f bW bI bq bZ) v/\ys q/\(q=bJ/\jh c f=nb (gh c f bW bI bq bZ) (fun a=>(b8 c a).args) (b8 c f.fn) (2001-v.aH.toNat) (ez v)\/q.kind≠0/\jh c f= .ok (ez v) (gL q))) (fun(v,q)=>if q.kind=0 then 2001-v.aH.toNat else 0) (PG f bK bD b4 cs,bJ) ⟨⟨by have:=c3.aA;have:=lK.2.2;show 0<=f.aA/\f.aA<=1000000;omega,c3.aH,aK.aO.len,aK.loc.len,c3.ns,oZ.aeJ,oZ.jV,oZ.L7,oZ.gw,aK.kids.len,oZ.E4,oZ.yZ,aK.kids.dB⟩,qT _ rfl rfl rfl,.inl ⟨rfl,(V3 _ _).symm⟩⟩ ⟨rfl,rfl,rfl,rfl,rfl,rfl,trivial⟩ trivial ?_
   rintro⟨v,q⟩ r ⟨ad,bd,fI⟩
   replace ad:eO (gh c f bW bI bq bZ) v:=ad
   replace bd:ys q:=bd
   replace fI:q=bJ/\jh c f=nb (gh c f bW bI bq bZ) (fun a=>(b8 c a).args) (b8 c f.fn) (2001-v.aH.toNat) (ez v)\/q.kind≠0/\jh c f= .ok (ez v) (gL q):=fI
   conv=>whnf
   show bk _ (Y H az aF (cb (gh c f bW bI bq bZ) v q bm ((ae g5,.cs 213 (x2 b1 b2 du dv eu i2))::xE b1 b2 du dv eu i2 (tI f ub qs 0 p3 lq lR lS M)))) _ _
   refine fv b7 aD W W ?_
   conv=>whnf
   refine ba.sk (fun y6=>?_) (fun y6=>?_)
   ·rcases fI with⟨Fj,fI⟩|⟨kr,_⟩
    ·subst Fj
     have xt:=ad.aH
     have cc:2001-v.aH.toNat=(2000-v.aH.toNat)+1:=by omega
     rw[cc] at fI
     have AL:∀e,qd (gh c f bW bI bq bZ) (fun a=>(b8 c a).args) (b8 c f.fn) (ez v)= .err e->jh c f= .err e:=fun e h=>by rw[fI];exact ape h
     have aqo:v.aH=2000->jh c f= .err 11:=fun h=>AL _ (by rw[qd,if_pos (show(ez v).aH=2000 from h)])
     have aqp:v.aH≠2000->¬(0<=v.aA/\v.aA<(b8 c f.fn).b6)->jh c f= .err 1:=fun h V=>AL _ (by rw[qd,if_neg (show ¬(ez v).aH=2000 from h),if_pos (show ¬(0<=(ez v).aA/\(ez v).aA<(b8 c f.fn).b6) from V)])
     have aqq:v.aH≠2000->(0<=v.aA/\v.aA<(b8 c f.fn).b6)->¬(1<=(iQ (b8 c f.fn) v.aA).op/\(iQ (b8 c f.fn) v.aA).op<20)->jh c f= .err 1:=fun h V aa=>AL _ (by rw[qd,if_neg (show ¬(ez v).aH=2000 from h),if_neg (show ¬ ¬(0<=(ez v).aA/\(ez v).aA<(b8 c f.fn).b6) from fun h=>h V),if_pos (show ¬(1<=(iQ (b8 c f.fn) (ez v).aA).op/\(iQ (b8 c f.fn) (ez v).aA).op<20) from aa)])
     have awD:(gh c f bW bI bq bZ).b6=(b8 c f.fn).b6:=rfl
     have awa:(iQ (b8 c f.fn) v.aA).op=((b8 c f.fn).ins.getD v.aA.toNat ⟨0,0,0,0⟩).op:=rfl
     conv=>whnf
     repeat'(first
      |(refine cd.drop (K:=K) M ua (O aP 11 (aqo av)))
      |(refine cd.drop (K:=K) M ua (O aP 1 (aqp av S)))
      |(refine cd.drop (K:=K) M ua (O aP 1 (aqq av S S)))
      |(refine h0.imp (aJ.sub ua) (VJ (f:=f) (g:=ub) (a:=qs) rfl ?_);conv=>whnf)
      |(refine p9 b7 aD W ?_;conv=>whnf)
      |(refine sR b7 aD W W ?_;conv=>whnf)
      |(refine eS.go ?_;conv=>whnf)
      |(refine hy.go ?_;conv=>whnf)
      |(refine pE.go ?_;conv=>whnf)
      |(refine fv b7 aD W W ?_;conv=>whnf)
      |(refine ag9 lK.1 lK.2.1 S S (fun cu fX gw=>?_);conv=>whnf)
      |(refine iZ _ av aD W W ?_;conv=>whnf)
      |(refine gd sI ?_;intro be bM;conv=>whnf)
      |(refine gd Dc ?_;intro be bM;conv=>whnf)
      |(refine Oc W aD W ?_;conv=>whnf)
      |(refine Od W W ?_;conv=>whnf)
      |(refine ba.dec (fun ab=>?_) (fun ab=>?_)<;>conv=>whnf)
      |(refine ba.v7 (fun ab=>?_) (fun ab=>?_)<;>conv=>whnf)
      |(refine ba.sk (fun ab=>?_) (fun ab=>?_)<;>conv=>whnf))
     all_goals
      have abI:¬v.aH=2000:=by assumption
      have ml:0<=v.aA/\v.aA<(b8 c f.fn).b6:=by omega
      have cO:(iQ (b8 c f.fn) v.aA).op=1\/(iQ (b8 c f.fn) v.aA).op=2\/(iQ (b8 c f.fn) v.aA).op=3\/(iQ (b8 c f.fn) v.aA).op=4\/(iQ (b8 c f.fn) v.aA).op=5\/(iQ (b8 c f.fn) v.aA).op=6\/(iQ (b8 c f.fn) v.aA).op=7\/(iQ (b8 c f.fn) v.aA).op=8\/(iQ (b8 c f.fn) v.aA).op=9\/(iQ (b8 c f.fn) v.aA).op=10\/(iQ (b8 c f.fn) v.aA).op=11\/(iQ (b8 c f.fn) v.aA).op=12\/(iQ (b8 c f.fn) v.aA).op=13\/(iQ (b8 c f.fn) v.aA).op=14\/(iQ (b8 c f.fn) v.aA).op=15\/(iQ (b8 c f.fn) v.aA).op=16\/(iQ (b8 c f.fn) v.aA).op=17\/(iQ (b8 c f.fn) v.aA).op=18\/(iQ (b8 c f.fn) v.aA).op=19:=by omega
      have Fm:=aqE (k:=gh c f bW bI bq bZ) (cW:=fun a=>(b8 c a).args) (b:=b8 c f.fn) (f:=ez v) abI ml (show 1<=(iQ (b8 c f.fn) v.aA).op/\(iQ (b8 c f.fn) v.aA).op<20 from by omega)
      have kW:lE (gh c f bW bI bq bZ) v:=⟨by have:=lK.2.2;omega,by omega,lK.2.2⟩
      have aua:∀dw,dw.aH=v.aH+1->gD (gh c f bW bI bq bZ) (fun a=>(b8 c a).args) (ez v) (iQ (b8 c f.fn) v.aA)= .go (ez dw)->jh c f=nb (gh c f bW bI bq bZ) (fun a=>(b8 c a).args) (b8 c f.fn) (2001-dw.aH.toNat) (ez dw):=fun dw ar af=>by
       have e:2001-dw.aH.toNat=2000-v.aH.toNat:=by rw[ar];omega
       rw[fI,apf (Fm.trans af),e]
      have at6:∀dw lr,gD (gh c f bW bI bq bZ) (fun a=>(b8 c a).args) (ez v) (iQ (b8 c f.fn) v.aA)= .ask (ez dw) (gL lr)->jh c f= .ok (ez dw) (gL lr):=fun dw lr af=>by
       rw[fI,apd (Fm.trans af)]
      have at9:gD (gh c f bW bI bq bZ) (fun a=>(b8 c a).args) (ez v) (iQ (b8 c f.fn) v.aA)= .err 1->jh c f= .err 1:=fun af=>AL 1 (Fm.trans af)
      have gY:=aec (f:=f) (bW:=bW) (bI:=bI) (bq:=bq) (bZ:=bZ) aj
      rcases cO with cO|cO|cO|cO|cO|cO|cO|cO|cO|cO|cO|cO|cO|cO|cO|cO|cO|cO|cO
      ·have iu:((b8 c f.fn).ins.getD v.aA.toNat ⟨0,0,0,0⟩).op=((1:Nat):Int):=cO
       refine lN 1 iu (n:=20) (e:=212) bP aD bC ?_
       exact n5
      ·have iu:((b8 c f.fn).ins.getD v.aA.toNat ⟨0,0,0,0⟩).op=((2:Nat):Int):=cO
       refine lN 2 iu (n:=20) (e:=212) bP aD bC ?_
       exact n5
      ·have iu:((b8 c f.fn).ins.getD v.aA.toNat ⟨0,0,0,0⟩).op=((3:Nat):Int):=cO
       refine lN 3 iu (n:=20) (e:=212) bP aD bC ?_
       exact n5
      ·have iu:((b8 c f.fn).ins.getD v.aA.toNat ⟨0,0,0,0⟩).op=((4:Nat):Int):=cO
       refine lN 4 iu (n:=20) (e:=212) bP aD bC ?_
       exact n5
      ·have iu:((b8 c f.fn).ins.getD v.aA.toNat ⟨0,0,0,0⟩).op=((5:Nat):Int):=cO
       refine lN 5 iu (n:=20) (e:=212) bP aD bC ?_
       exact n5
      ·have iu:((b8 c f.fn).ins.getD v.aA.toNat ⟨0,0,0,0⟩).op=((6:Nat):Int):=cO
       refine lN 6 iu (n:=20) (e:=212) bP aD bC ?_
       have jY:(ae b1,aY.cs 164 [.func (.func 176) #[] #[]])∈(((ae g5,.cs 213 (x2 b1 b2 du dv eu i2))::xE b1 b2 du dv eu i2 (tI f ub qs 0 p3 lq lR lS M)):aw):=b7
       exact n5
      ·have iu:((b8 c f.fn).ins.getD v.aA.toNat ⟨0,0,0,0⟩).op=((7:Nat):Int):=cO
       refine lN 7 iu (n:=20) (e:=212) bP aD bC ?_
       have jY:(ae b2,aY.cs 164 [.func (.func 178) #[] #[]])∈(((ae g5,.cs 213 (x2 b1 b2 du dv eu i2))::xE b1 b2 du dv eu i2 (tI f ub qs 0 p3 lq lR lS M)):aw):=b7
       exact n5
      ·have iu:((b8 c f.fn).ins.getD v.aA.toNat ⟨0,0,0,0⟩).op=((8:Nat):Int):=cO
       refine lN 8 iu (n:=20) (e:=212) bP aD bC ?_
       have jY:(ae du,aY.cs 164 [.func (.func 179) #[] #[]])∈(((ae g5,.cs 213 (x2 b1 b2 du dv eu i2))::xE b1 b2 du dv eu i2 (tI f ub qs 0 p3 lq lR lS M)):aw):=b7
       exact n5
      ·have iu:((b8 c f.fn).ins.getD v.aA.toNat ⟨0,0,0,0⟩).op=((9:Nat):Int):=cO
       refine lN 9 iu (n:=20) (e:=212) bP aD bC ?_
       have jY:(ae dv,aY.cs 164 [.func (.func 180) #[] #[]])∈(((ae g5,.cs 213 (x2 b1 b2 du dv eu i2))::xE b1 b2 du dv eu i2 (tI f ub qs 0 p3 lq lR lS M)):aw):=b7
       exact n5
      ·have iu:((b8 c f.fn).ins.getD v.aA.toNat ⟨0,0,0,0⟩).op=((10:Nat):Int):=cO
       refine lN 10 iu (n:=20) (e:=212) bP aD bC ?_
       have jY:(ae eu,aY.cs 164 [.func (.func 182) #[] #[]])∈(((ae g5,.cs 213 (x2 b1 b2 du dv eu i2))::xE b1 b2 du dv eu i2 (tI f ub qs 0 p3 lq lR lS M)):aw):=b7
       exact n5
      ·have iu:((b8 c f.fn).ins.getD v.aA.toNat ⟨0,0,0,0⟩).op=((11:Nat):Int):=cO
       refine lN 11 iu (n:=20) (e:=212) bP aD bC ?_
       exact n5
      ·have iu:((b8 c f.fn).ins.getD v.aA.toNat ⟨0,0,0,0⟩).op=((12:Nat):Int):=cO
       refine lN 12 iu (n:=20) (e:=212) bP aD bC ?_
       exact n5
      ·have iu:((b8 c f.fn).ins.getD v.aA.toNat ⟨0,0,0,0⟩).op=((13:Nat):Int):=cO
       refine lN 13 iu (n:=20) (e:=212) bP aD bC ?_
       exact n5
      ·have iu:((b8 c f.fn).ins.getD v.aA.toNat ⟨0,0,0,0⟩).op=((14:Nat):Int):=cO
       refine lN 14 iu (n:=20) (e:=212) bP aD bC ?_
       exact n5
      ·have iu:((b8 c f.fn).ins.getD v.aA.toNat ⟨0,0,0,0⟩).op=((15:Nat):Int):=cO
       refine lN 15 iu (n:=20) (e:=212) bP aD bC ?_
       exact n5
      ·have iu:((b8 c f.fn).ins.getD v.aA.toNat ⟨0,0,0,0⟩).op=((16:Nat):Int):=cO
       refine lN 16 iu (n:=20) (e:=212) bP aD bC ?_
       exact n5
      ·have iu:((b8 c f.fn).ins.getD v.aA.toNat ⟨0,0,0,0⟩).op=((17:Nat):Int):=cO
       refine lN 17 iu (n:=20) (e:=212) bP aD bC ?_
       exact n5
      ·have iu:((b8 c f.fn).ins.getD v.aA.toNat ⟨0,0,0,0⟩).op=((18:Nat):Int):=cO
       refine lN 18 iu (n:=20) (e:=212) bP aD bC ?_
       exact n5
      ·have iu:((b8 c f.fn).ins.getD v.aA.toNat ⟨0,0,0,0⟩).op=((19:Nat):Int):=cO
       refine lN 19 iu (n:=20) (e:=212) bP aD bC ?_
       have jY:(ae i2,aY.cs 164 [.func (.func 191) #[] #[]])∈(((ae g5,.cs 213 (x2 b1 b2 du dv eu i2))::xE b1 b2 du dv eu i2 (tI f ub qs 0 p3 lq lR lS M)):aw):=b7
       exact n5
    ·exact absurd y6 kr
   ·conv=>whnf
    rcases fI with⟨Fj,_⟩|⟨kr,aC⟩
    ·exact absurd (by rw[Fj];rfl) y6
    ·repeat'(first
      |(refine eS.go ?_;conv=>whnf)
      |(refine hy.go ?_;conv=>whnf)
      |(refine fv b7 aD W W ?_;conv=>whnf)
      |(refine ke b7 aD W ?_;conv=>whnf)
      |(refine tV aD mw ?_;conv=>whnf)
      |(refine aoD ?_;conv=>whnf)
      |(refine p9 b7 aD W ?_;conv=>whnf)
      |(refine sR b7 aD W W ?_;conv=>whnf)
      |(refine Oc W aD W ?_;conv=>whnf)
      |(refine And.intro ?_ ?_<;>conv=>whnf))
     all_goals
      exact cd.imp (K:=K) (tR (gh c f bW bI bq bZ) v q M) (aJ.sub cn) (V aP bW bI bq bZ v q ad bd kr aC)
end
theorem Xs {P:Prop} (h:P:=by
 repeat'((first
  |(refine cd.drop (K:=K) (tR (gh c f bW bI bq bZ) v q M) cn (V aP bW bI bq bZ v q ad bd U af _ _ _ _ _ (by simp only[kC];repeat(first|rfl|refine(if_pos av).trans ?_|refine(if_neg av).trans ?_))))
  |(exact rfl)
  |(exact trivial)
  |(apply amj)
  |refine eg ?_
  |(refine eh ?_ ?_<;>(try with_reducible intro ab))
  |with_reducible intro r)<;>(try conv=>whnf))):P:=h
structure Kw where
 dE:Int
 o0:Int
 o1:Int
 aQ:Int
 bl:Int
def kC(s:cm)(q:l5)(task:Int):Kw:=
 if q.kind=1 then⟨1,17,0,q.a,0⟩ else if q.kind=2 then⟨1,18,0,q.a,q.b⟩ else if q.kind=3 then⟨1,q.o0,q.o1,q.aQ,q.bl⟩
 else if q.kind=4 then⟨2,11,0,task,0⟩ else if q.kind=5 then⟨4,13,0,task,0⟩ else if q.kind=6 then⟨5,14,0,task,q.a⟩ else⟨s.phase,s.o0,s.o1,s.aQ,s.bl⟩
def kD(s:cm)(q:l5)(p:Kw):cm:={s with phase:=p.dE,at_:=0,hN:=q.kind,iA:=q.a,gZ:=q.b,gG:=q.o0,hl:=q.o1,j1:=q.aQ,p3:=q.bl,gA:=q.ed,eM:=q.ev,gJ:=q.bp,o0:=p.o0,o1:=p.o1,aQ:=p.aQ,bl:=p.bl,bK:=none,aM:=0,bD:=0,b4:=none,ns:=0,cs:=0}
def ui.I6:ui->Prop
 | .err e=>e=1
 |_=>True
theorem amj{c:Prop}[Decidable c]{a b:ui}(O:a.I6)(V:b.I6):(if c then a else b).I6:=by
 split
 ·exact O
 ·exact V
theorem ahl{k:hg}{cW:Int->Int}{f:bR}{i:fe}:(gD k cW f i).I6:=by
 unfold gD ij bR.two
 exact Xs
theorem ahk{k:hg}{cW:Int->Int}{f:bR}{i:fe}{e:Int}(h:gD k cW f i= .err e):e=1:=by
 have:=ahl (k:=k) (cW:=cW) (f:=f) (i:=i)
 rw[h] at this
 exact this
theorem aqD{k:hg}{cW:Int->Int}{b:nj}{f:bR}{e:Int}(h:qd k cW b f= .err e):e=1\/e=11:=by
 unfold qd at h
 repeat' split at h
 ·injection h with h;exact .inr h.symm
 ·injection h with h;exact .inl h.symm
 ·injection h with h;exact .inl h.symm
 ·exact .inl (ahk h)
theorem V2{k:hg}{cW:Int->Int}{b:nj}:∀(n:Nat) (f:bR) {e:Int},nb k cW b n f= .err e->e=1\/e=11
 |0,f,e,h=>by simp only[nb] at h;injection h with h;exact .inr h.symm
 |n+1,f,e,h=>by
  simp only[nb] at h
  split at h
  ·exact V2 n _ h
  ·cases h
  ·rename_i hJ af
   injection h with h
   subst h
   exact aqD af
theorem N4{c:cr}{f:a3}{e:Int}(h:jh c f= .err e):e≠0:=by
 rcases V2 _ _ h with h|h<;>omega
section
theorem RO {c:cr} {s:cm} {f:a3} (aj:hP H c) (aK:i1 H f)
  (aT:iB c f=false->K (.tuple #[.agg s.l.toArray,.agg f.l.toArray,J 1]) (Y H w0 X M))
  (O:iB c f=true->∀e,jh c f= .err e->K (.tuple #[.agg s.l.toArray,.agg f.l.toArray,J e]) (Y H w0 X M))
  (V:iB c f=true->∀bW bI bq bZ v q,eO (gh c f bW bI bq bZ) v->ys q->q.kind≠0->jh c f= .ok (ez v) (gL q)->∀dE o0 o1 aQ bl,kC s q f.task=⟨dE,o0,o1,aQ,bl⟩->K (.tuple #[.agg (kD s q ⟨dE,o0,o1,aQ,bl⟩).l.toArray,.agg (RF (gh c f bW bI bq bZ) v).toArray,J 0]) (Y H w0 X (tR (gh c f bW bI bq bZ) v q M))):
  ay Tryz.prog (Y H w0 X M) 41 #[.agg c.l.toArray,.agg s.l.toArray,.agg f.l.toArray] K Z:=by
 refine a7 Nw ?_
 intro az aF
 conv=>whnf
 repeat'(first
  |(show ay _ _ _ _ _ _;first|(refine alR aj aK (fun aP=>?_) (fun aP e af=>?_) (fun aP bW bI bq bZ v q ad bd U af=>?_)))
  |(show bk _ _ _ _;first|(refine h2 _ rfl fun jN=>?_;conv=>whnf)))
 ·conv=>whnf
  exact cd.drop (K:=K) M ua (aT aP)
 ·have kr:=N4 af
  conv=>whnf
  refine ba.sM (fun ab=>?_) (fun ab=>absurd ab kr)
  conv=>whnf
  exact cd.drop (K:=K) M ua (O aP e af)
 ·conv=>whnf
  exact Xs
end
end Go.Proofs.YtcflcebplhdcpaaGreat
