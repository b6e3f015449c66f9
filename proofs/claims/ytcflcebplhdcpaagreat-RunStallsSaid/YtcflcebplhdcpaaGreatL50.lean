/- Lemmas, part 50; each states its own conditions. -/
import Derived.Test.YtcflcebplhdcpaaGreatL47
import Derived.Test.YtcflcebplhdcpaaGreatL49
namespace Go.Proofs.YtcflcebplhdcpaaGreat
open Go.RowKit
set_option linter.unusedSimpArgs false
set_option linter.unusedVariables false
set_option maxRecDepth 100000
set_option maxHeartbeats 16000000
variable{H w0:World}{X:Nat->Prop}{M:aw}{K:Value->an->Prop}{Z:bF}
theorem ay.amb{P:Program}{C:an}{f:FuncId}{args:Array Value}{K:Value->an->Prop}{Z:bF}(af:oa P f)(hn:Value->Prop)(aj:∀w,C.R w->Calls P f args w (lC w hn))(U:∀v,hn v->K v C):ay P C f args K Z:=by
 constructor
 refine⟨af,fun w au=>(aj w au).mono fun e w' ⟨v,O,V,aa⟩=> .inl ⟨v,_,O,⟨V.size,fun k U _=>V.block k U,fun k U=> .inl U⟩,C.wt w w' au (fun k U=>V.block k (C.lt w au k U)) V.size V.os V.tape V.output,U v aa⟩⟩
theorem lb.yA{z:dk}{w:World}{hn:Value->Prop}{e:Ending}{w':World}(h:lb z bY.none w (fun _ _ v=>hn v) e w'):lC w hn e w':=by
 obtain⟨dt,bG,v,O,V,aa,ag⟩:=h
 exact⟨v,O,aa.yA,ag⟩
section
theorem dc.si{E:World}{c:cr}{cs:List Int}(h:dc H M E)(aj:nG H c cs):nG E c cs:=
 ⟨⟨aj.b.aX,aj.b.FF,fun i hi=>by
  obtain⟨b,o,O,V⟩:=aj.b.body i hi
  exact⟨b,o,O,fun q v ah=>h.cell _ _ (V q v ah)⟩,fun i hi=>⟨h.rd (aj.b.ins i hi).1,(aj.b.ins i hi).2⟩⟩,h.rd aj.rd,aj.bB,aj.I0,aj.cap⟩
theorem adR{c:cr}{cs:List Int}(au:nG H c cs){s:Int}(ar:0<=s/\s<=255){bK:Option Addr}{aM bD:Nat}{r0:Int}(aS:r0<=100)(U:∀(d:fg) (bb:h9) (b:Bool),(b=true->l6 c cs/\yd c (wm s) bb/\aM<=200)->K (.tuple #[d.e,.agg bb.l.toArray,.bool b]) (Y H w0 X M)):
  a4 H w0 X M 4 #[.agg c.l.toArray,.int .u8 s,.slice bK aM bD,J r0] K Z:=
 ay.amb vi.dg (Qa c cs s aM) (fun w c3=>(adQ ((dJ.mn c3).si au) ar aS).mono fun e w' h=>h.yA) (fun v ⟨d,bb,b,e,h⟩=>e▸U d bb b h)
theorem nG.ok{w:World}{c:cr}{cs:List Int}(h:nG w c cs)(c3:l6 c cs):hP w c/\fG w c.fY c.bB c.dD cs:=by
 have O:=c3.aX
 have V:=c3.bB
 exact⟨h.b.ok S S fun b ab=>by have:=(c3.body b ab).b6;omega,⟨h.rd,h.bB,h.cap,by omega⟩⟩
theorem WH{c:cr}{cs:List Int}{bb:h9}{n:Nat}(au:nG H c cs)(c3:l6 c cs)(gY:yd c (n:Int) bb):Qv H c (fJ bb) bb.l none n 0 0 (tU c (fJ bb) cs n):=fun w0 X M K Z _ U=>
 aqu (au.ok c3).1 (au.ok c3).2 c3 gY.ok gY.bt ⟨gY.cells,gY.maps,gY.dj,gY.cF⟩ (fun x L O V aa ag=>U x L rfl O V aa ag)
theorem FW {R:aw} {c:cr} {cs:List Int} {bb:h9} {n:Nat} {most:Int} {fc:List e5} {uU:Value} (au:nG H c cs) (c3:l6 c cs) (gY:yd c (n:Int) bb) (zc:Er H R n uU fc) (E6:∀e∈R,e∈M) (ad:0<=most/\most<=8000) (SB:fc.length<=1000)
  (U:∀x pm L pA bG,iV H L n pA bG x->x.m.c=c->x.m.la=fJ bb->oN c (fJ bb) n most (fc.map fun p=>(p.kind,p.a)) 0 (-1) (tU c (fJ bb) cs n) x.c->K (.tuple #[.agg x.m.dL.l.toArray,J 0]) (Y H w0 X (g9 x pm L M))):
  a4 H w0 X M 6 #[.agg c.l.toArray,.agg bb.l.toArray,uU,J most] K Z:=
 anl (WH au c3 gY) zc E6 (by have:=gY.ok.KT.bt;have:=gY.bt;omega) ⟨by rw[<-gY.bt];rfl,rfl⟩ ad SB bC bC (fun e af=>by cases af) (fun x pm L pA bG _ O aa ag V=>U x pm L pA bG O aa ag V)
end
theorem Gs {P:Prop} (h:P:=by
 repeat'((first
  |(refine Iz O V ?_)
  |(refine je kX (fun _=>rfl) O.rd gb i rfl o4 bC (fun b o aj=>?_))
  |(refine je kX (fun _=>rfl) V.rd dd i rfl o4 bC (fun b o aj=>?_))
  |(exact cA U)
  |(refine ba.IA ?_ ?_;(focus(simp only[mF,beq_self_eq_true,Bool.and_self];done)))
  |(refine je _ (by intro _;rfl) O.rd gb i rfl o4 bC (fun b o aj=>?_))
  |(refine je _ (by intro _;rfl) V.rd dd i rfl o4 bC (fun b o aj=>?_))
  |(refine tB (l:=kX xs[i]) av 0 rfl rfl aD W ?_)
  |(refine FC (l:=kX xs[i]) av 0 rfl rfl aD W ?_)
  |(refine iZ _ av aD W W ?_)
  |(refine tC _ av aD W W ?_)
  |(refine apF ?_)
  |(refine ba.Tc ?_ ?_;(focus(simp only[Fv,hs,vI,w1,mF,beq_self_eq_true,Bool.and_self,BP,bne_self_eq_false];done)))
  |(exact cC (X:=Nat) (i+1) (by show dI-(i+1)<dI-i;omega) (by show i+1<=dI;omega) ⟨rfl,rfl,eD S,trivial⟩ ⟨rfl,rfl,trivial⟩)
  |(exact cC (X:=Nat) (i+1) (by show dI-(i+1)<dI-i;omega) (by show i+1<=dI;omega) ⟨rfl,rfl,eD S,trivial⟩ trivial)
  |refine eg ?_
  |(refine eh ?_ ?_<;>(try with_reducible intro ab)<;>(try(exfalso;omega)))
  |with_reducible intro r)<;>(try conv=>whnf))):P:=h
theorem ba.Tc{b:Bool}{A B:Prop}(h:b=false)(V:B):ba b A B:=by subst h;exact V
theorem ba.IA{b:Bool}{A B:Prop}(h:b=true)(V:A):ba b A B:=by subst h;exact V
structure hS{ck:Type}(H:World)(fZ:ck->List Value)(A:Option Addr)(n:Nat)(l:List ck):Prop where
 rd:dU H H.heap.size A (l.flatMap fZ)
 len:n=l.length
 dB:n<=1000000
def kX(x:Int):List Value:=[J x]
def Fv(k:jq):List Value:=[J k.task,J k.dst]
structure D5 where
 ng:Int
 o0:Int
 o1:Int
 aQ:Int
 bl:Int
 val:Int
 eG:Bool
 first:Int
 last:Int
 c0:Int
def w1(c:D5):List Value:=[J c.ng,J c.o0,J c.o1,J c.aQ,J c.bl,J c.val,.bool c.eG,J c.first,J c.last,J c.c0]
theorem Wd{w:World}{cs:Array Value}{off:Nat}{v:Value}(h:cs[off]?=some v):(part 3 cs off).run Tryz.prog w= .ok v w:=by
 have O:∀w,(isAgg 3).run Tryz.prog w= .ok false w:=fun w=>(e8 3 _ W).rR
 simp[part,O,h]
theorem apj{w:World}{d:Nat}{a b c e:Int}:(Op.equalIn (d+2) 187 (.agg #[J a,J b]) (.agg #[J c,J e])).run Tryz.prog w= .ok (a==c&&b==e) w:=by
 have aS:Tryz.prog.underlying 187=some (.array 2 3):=by kernel_rfl
 have hi:Tryz.prog.underlying 3=some (.int .i64):=by kernel_rfl
 have ar:∀w,(sizeOf 3).run Tryz.prog w= .ok 1 w:=fun w=>(e8 3 _ W).u0
 have gG:∀(x y:Int) w,(part 3 #[J x,J y] 0).run Tryz.prog w= .ok (J x) w:=fun x y w=>Wd rfl
 have hl:∀(x y:Int) w,(part 3 #[J x,J y] 1).run Tryz.prog w= .ok (J y) w:=fun x y w=>Wd rfl
 have e1:∀(x y:Int) w,(Op.equalIn (d+1) 3 (J x) (J y)).run Tryz.prog w= .ok (x==y) w:=fun x y w=>by simp[Op.equalIn,run_underlying hi]
 rw[Op.equalIn]
 simp only[Sem.run_bind,run_underlying aS,Result.andThen_ok,ar,Std.Legacy.Range.forIn_eq_forIn_range',Std.Legacy.Range.size,List.range',List.forIn_cons,List.forIn_nil,gG,hl,e1,h1]
 cases O:(a==c)<;>cases V:(b==e)<;>simp[O,V,gG,hl,e1,List.range']
theorem apF{x y:Operand}{a b:Int}{C:an}{K:Value->an->Prop}(h:K (.bool false) C):bk Tryz.prog C (do eqGuard .neq 187 x y (.agg #[J a,J b]) (.agg #[J a,J b]);binOp .neq 187 (.agg #[J a,J b]) (.agg #[J a,J b])) K:=by
 have ad:Tryz.prog.eqGuardType Tryz.prog.depth 187=false:=by kernel_rfl
 refine nc (fun w=>?_) h
 have V:∀w,(Op.equalIn 10000 187 (.agg #[J a,J b]) (.agg #[J a,J b])).run Tryz.prog w= .ok (a==a&&b==b) w:=fun w=>apj (d:=9998)
 simp[run_eqGuard_agg,ad,run_neq_struct,V]
section
theorem zu {P:Prop} (h:P:=by
 have gb:=O.len
 have dd:=V.len
 have ar:=O.dB
 refine a7 (by first|exact atx|exact atL|exact atX|exact atY|exact atK|exact atz|exact atA|exact at1) ?_
 intro az aF
 conv=>whnf
 repeat'((first
  |refine ea ?_
  |(refine gs ?_ ?_<;>(try with_reducible intro ab)<;>(try(exfalso;omega)))
  |with_reducible intro r)<;>(try conv=>whnf))
 refine c9.on (X:=Nat) (fun i=> [(0,.v (.slice br dI bz)),(1,.v (.slice bf cN bA)),(5,.v (J (i:Int)))]) (fun _=> []) (fun _=>Y H az aF M) (fun i=>i<=dI) (fun i=>dI-i) 0 (cY _) ⟨rfl,rfl,rfl,trivial⟩ trivial ?_
 intro i r hi
 replace hi:i<=dI:=hi
 conv=>whnf
 refine ba.dec (fun cc=>?_) (fun cc=>?_)
 ·have o4:i<xs.length:=by omega
  conv=>whnf
  exact Gs
 ·conv=>whnf
  exact Gs
):P:=h
theorem ahn{br bf:Option Addr}{dI cN bz bA:Nat}{xs:List Int}(O:hS H kX br dI xs)(V:hS H kX bf cN xs)(U:K (.bool true) (Y H w0 X M)):a4 H w0 X M 27 #[.slice br dI bz,.slice bf cN bA] K Z:=by
 exact zu
theorem aho{br bf:Option Addr}{dI cN bz bA:Nat}{xs:List Int}(O:hS H kX br dI xs)(V:hS H kX bf cN xs)(U:K (.bool true) (Y H w0 X M)):a4 H w0 X M 69 #[.slice br dI bz,.slice bf cN bA] K Z:=by
 exact zu
theorem Iz{br bf:Option Addr}{dI cN bz bA:Nat}{xs:List Int}(O:hS H kX br dI xs)(V:hS H kX bf cN xs)(U:K (.bool true) (Y H w0 X M)):a4 H w0 X M 105 #[.slice br dI bz,.slice bf cN bA] K Z:=by
 exact zu
theorem akh{br bf:Option Addr}{dI cN bz bA:Nat}{xs:List jq}(O:hS H Fv br dI xs)(V:hS H Fv bf cN xs)(U:K (.bool true) (Y H w0 X M)):a4 H w0 X M 106 #[.slice br dI bz,.slice bf cN bA] K Z:=by
 exact zu
theorem aoQ{br bf:Option Addr}{dI cN bz bA:Nat}{xs:List oP}(O:hS H hs br dI xs)(V:hS H hs bf cN xs)(U:K (.bool true) (Y H w0 X M)):a4 H w0 X M 68 #[.slice br dI bz,.slice bf cN bA] K Z:=by
 exact zu
theorem adH{br bf:Option Addr}{dI cN bz bA:Nat}{xs:List k7}(O:hS H vI br dI xs)(V:hS H vI bf cN xs)(U:K (.bool true) (Y H w0 X M)):a4 H w0 X M 29 #[.slice br dI bz,.slice bf cN bA] K Z:=by
 exact zu
theorem acf{br bf:Option Addr}{dI cN bz bA:Nat}{xs:List D5}(O:hS H w1 br dI xs)(V:hS H w1 bf cN xs)(U:K (.bool true) (Y H w0 X M)):a4 H w0 X M 30 #[.slice br dI bz,.slice bf cN bA] K Z:=by
 exact zu
theorem alh{br bf:Option Addr}{dI cN bz bA:Nat}{xs:List Int}(O:hS H kX br dI xs)(V:hS H kX bf cN xs)(U:K (.bool true) (Y H w0 X M)):a4 H w0 X M 26 #[.agg #[.slice br dI bz],.agg #[.slice bf cN bA]] K Z:=by
 have gb:=O.len
 have dd:=V.len
 have ar:=O.dB
 refine a7 atw ?_
 intro az aF
 conv=>whnf
 repeat'((first
  |refine ea ?_
  |(refine gs ?_ ?_<;>(try with_reducible intro ab)<;>(try(exfalso;omega)))
  |with_reducible intro r)<;>(try conv=>whnf))
 refine c9.on (X:=Nat) (fun i=> [(2,.p 2 0),(3,.p 3 0),(5,.v (J (i:Int)))]) (fun _=> [(2,42,[.slice br dI bz]),(3,42,[.slice bf cN bA])]) (fun _=>Y H az aF M) (fun i=>i<=dI) (fun i=>dI-i) 0 (cY _) ⟨rfl,rfl,rfl,trivial⟩ ⟨rfl,rfl,trivial⟩ ?_
 intro i r hi
 replace hi:i<=dI:=hi
 conv=>whnf
 refine ba.dec (fun cc=>?_) (fun cc=>?_)
 ·have o4:i<xs.length:=by omega
  conv=>whnf
  exact Gs
 ·conv=>whnf
  exact Gs
theorem aen{br bf:Option Addr}{dI cN bz bA:Nat}{xs:List cz}(O:hS H ft br dI xs)(V:hS H ft bf cN xs)(U:K (.bool true) (Y H w0 X M)):a4 H w0 X M 70 #[.slice br dI bz,.slice bf cN bA] K Z:=by
 exact zu
theorem abh{k a b gG hl j1 p3:Int}{br bf:Option Addr}{dI cN bz bA:Nat}{xs:List Int}(O:hS H kX br dI xs)(V:hS H kX bf cN xs)(U:K (.bool true) (Y H w0 X M)):a4 H w0 X M 67 #[.agg #[J k,J a,J b,J gG,J hl,J j1,J p3,.slice br dI bz],.agg #[J k,J a,J b,J gG,J hl,J j1,J p3,.slice bf cN bA]] K Z:=by
 refine a7 at0 ?_
 intro az aF
 conv=>whnf
 exact Gs
end
theorem JX {P:Prop} (h:P:=by
 repeat'((first
  |(refine je (A:=mx.gm) cm.l (fun _=>rfl) O.rd akn i rfl afH bC (fun b o aj=>?_);rw[e1] at aj)
  |(refine je (A:=fp.gm) cm.l (fun _=>rfl) iY.rd ako i rfl o5 bC (fun b o aj=>?_);rw[e2] at aj)
  |(refine je (A:=mx.ed) (fun b:Bool=> [Value.bool b]) (fun _=>rfl) ag.rd dN i rfl H0 bC (fun b o aj=>?_))
  |(refine je (A:=fp.ed) (fun b:Bool=> [Value.bool b]) (fun _=>rfl) nY.rd dA i rfl H0 bC (fun b o aj=>?_))
  |(refine iZ zF[i].s.l av aD W W ?_)
  |(refine iZ zG[i].s.l av aD W W ?_)
  |(refine tC zF[i].s.l av aD W W ?_)
  |(refine tC zG[i].s.l av aD W W ?_)
  |(refine tB (l:=[Value.bool KO[i]]) av 0 rfl rfl aD W ?_)
  |(refine FC (l:=[Value.bool KO[i]]) av 0 rfl rfl aD W ?_)
  |(refine apt aK aZ Mt ?_)
  |(refine je a3.l (fun _=>rfl) O.rd gb i rfl uH bC (fun b o aj=>?_))
  |(refine je a3.l (fun _=>rfl) V.rd dd i rfl y4 bC (fun b o aj=>?_))
  |(refine iZ fs[i].l av aD W W ?_)
  |(refine iZ cL[i].l av aD W W ?_)
  |(refine tC fs[i].l av aD W W ?_)
  |(refine tC cL[i].l av aD W W ?_)
  |(refine aps aK aZ Mt ?_)
  |(exact cC (X:=Nat) (i+1) (by show dI-(i+1)<dI-i;omega) (by show i+1<=dI;omega) ⟨rfl,rfl,eD S,trivial⟩ trivial)
  |(refine Iz (.Bf aK.path) (.Bf aZ.path) ?_)
  |(refine Iz (.Bf aK.loc) (.Bf aZ.loc) ?_)
  |(refine Iz (.Bf aK.aO) (.Bf aZ.aO) ?_)
  |(refine akh (.UC aK.kids) (.UC aZ.kids) ?_)
  |(refine apG ?_)
  |(exact cC (X:=Nat) (i+1) (by show mx.ec-(i+1)<mx.ec-i;omega) (by show i+1<=mx.ec;omega) ⟨rfl,rfl,eD S,trivial⟩ ⟨rfl,rfl,trivial⟩)
  |(exact cA U)
  |refine eg ?_
  |(refine eh ?_ ?_<;>(try with_reducible intro ab)<;>(try(exfalso;first|contradiction|omega)))
  |with_reducible intro r)<;>(try conv=>whnf))):P:=h
theorem apG{x y:Operand}{b:Bool}{C:an}{K:Value->an->Prop}(h:K (.bool false) C):bk Tryz.prog C (do eqGuard .neq 4 x y (.bool b) (.bool b);binOp .neq 4 (.bool b) (.bool b)) K:=by
 have aS:Tryz.prog.underlying 4=some .bool:=by kernel_rfl
 have e:Op.maxDepth=(Op.maxDepth-1)+1:=rfl
 refine nc (fun w=>?_) h
 simp[eqGuard,binOp,Op.equal]
 rw[e]
 simp[Op.equalIn,run_underlying aS]
theorem apE{x y:Operand}{b:Bool}{C:an}{K:Value->an->Prop}(h:K (.bool true) C):bk Tryz.prog C (do eqGuard .eql 4 x y (.bool b) (.bool b);binOp .eql 4 (.bool b) (.bool b)) K:=by
 have aS:Tryz.prog.underlying 4=some .bool:=by kernel_rfl
 have e:Op.maxDepth=(Op.maxDepth-1)+1:=rfl
 refine nc (fun w=>?_) h
 simp[eqGuard,binOp,Op.equal]
 rw[e]
 simp[Op.equalIn,run_underlying aS]
theorem hS.Bf{w:World}{A:Option Addr}{n c:Nat}{xs:List Int}(h:fG w A n c xs):hS w kX A n xs:=⟨by have:=h.rd;rw[Fs] at this;exact this,h.len,h.dB⟩
theorem TF:∀(l:List jq),ks l=l.flatMap Fv
 |[]=>rfl
 |x::l=>by rw[qn,<-TF l];rfl
theorem hS.UC{w:World}{A:Option Addr}{n c:Nat}{xs:List jq}(h:vr w A n c xs):hS w Fv A n xs:=⟨by have:=h.rd;rw[TF] at this;exact this,h.len,h.dB⟩
structure KC(w:World)(y:eP):Prop where
 got:hS w kX y.s.gA y.s.eM y.got
 log:hS w hs y.s.bK y.s.aM y.log
 steps:hS w kX y.s.b4 y.s.ns y.steps
 gone:hS w ft y.s.ho y.s.ew y.gone
section
theorem aps{f g:a3}(aK:i1 H f)(aZ:i1 H g)(af:f.bE=g.bE)(U:K (.bool true) (Y H w0 X M)):a4 H w0 X M 71 #[.agg f.l.toArray,.agg g.l.toArray] K Z:=by
 obtain⟨task,bW,np,bI,path,fn,aA,bK,aM,bD,loc,b4,ns,cs,aO,bq,a5,bZ,kids,many,aH,fail⟩:=f
 obtain⟨ari,aud,awP,au1,axn,avC,axo,Ym,alT,K5,awG,Yn,alW,gp,axC,GG,awO,EK,awC,awI,axz,avB⟩:=g
 simp only[a3.bE,a3.mk.injEq,true_and] at af
 obtain⟨rfl,rfl,rfl,rfl,rfl,rfl,rfl,rfl,rfl,rfl,rfl,rfl,rfl,rfl⟩:=af
 refine a7 at2 ?_
 intro az aF
 conv=>whnf
 exact JX
theorem apt{y z:eP}(bV:KC H y)(b3:KC H z)(af:y.bE=z.bE)(U:K (.bool true) (Y H w0 X M)):a4 H w0 X M 25 #[.agg y.s.l.toArray,.agg z.s.l.toArray] K Z:=by
 obtain⟨⟨phase,at_,task,hN,iA,gZ,gG,hl,j1,p3,gA,eM,gJ,o0,o1,aQ,bl,bK,aM,bD,b4,ns,cs,ho,ew,h3,hold⟩,got,log,steps,gone⟩:=y
 obtain⟨⟨axp,auP,ari,axv,axt,axu,aw0,zt,aw1,aw2,aue,awR,au2,awT,awU,awV,awW,Ym,alT,K5,Yn,alW,gp,auc,awN,auY,aws⟩,gu,awH,axB,avF⟩:=z
 simp only[eP.bE,cm.bE,eP.mk.injEq,cm.mk.injEq,true_and] at af
 obtain⟨⟨rfl,rfl,rfl,rfl,rfl,rfl,rfl,rfl,rfl,rfl,rfl,rfl,rfl,rfl,rfl,rfl,rfl,rfl,rfl⟩,rfl,rfl,rfl,rfl⟩:=af
 refine a7 atv ?_
 intro az aF
 conv=>whnf
 repeat'((first
  |refine abh bV.got b3.got ?_
  |refine aoQ bV.log b3.log ?_
  |refine aho bV.steps b3.steps ?_
  |refine aen bV.gone b3.gone ?_
  |exact cA U
  |(refine ba.IA ?_ ?_;(focus(simp only[mF,beq_self_eq_true,Bool.and_self];done)))
  |refine ea ?_
  |(refine gs ?_ ?_<;>(try with_reducible intro ab)<;>(try(exfalso;first|contradiction|omega)))
  |with_reducible intro r)<;>(try conv=>whnf))
 exact lV U (beq_self_eq_true _)
theorem ad8{br bf:Option Addr}{dI cN bz bA:Nat}{fs cL:List a3}(O:gM H br dI bz fs)(V:gM H bf cN bA cL)(af:fs.map a3.bE=cL.map a3.bE)(U:K (.bool true) (Y H w0 X M)):a4 H w0 X M 28 #[.slice br dI bz,.slice bf cN bA] K Z:=by
 have gb:=O.len
 have dd:=V.len
 have ar:=O.dB
 have ai:fs.length=cL.length:=by have:=congrArg List.length af;simpa using this
 refine a7 aty ?_
 intro az aF
 conv=>whnf
 repeat'((first
  |refine ea ?_
  |(refine gs ?_ ?_<;>(try with_reducible intro ab)<;>(try(exfalso;omega)))
  |with_reducible intro r)<;>(try conv=>whnf))
 refine c9.on (X:=Nat) (fun i=> [(0,.v (.slice br dI bz)),(1,.v (.slice bf cN bA)),(5,.v (J (i:Int)))]) (fun _=> []) (fun _=>Y H az aF M) (fun i=>i<=dI) (fun i=>dI-i) 0 (cY _) ⟨rfl,rfl,rfl,trivial⟩ trivial ?_
 intro i r hi
 replace hi:i<=dI:=hi
 conv=>whnf
 refine ba.dec (fun cc=>?_) (fun cc=>?_)
 ·have uH:i<fs.length:=by omega
  have y4:i<cL.length:=by omega
  have Mt:fs[i].bE=cL[i].bE:=by
   have:=congrArg (fun l=>l[i]?) af
   simp only[oc,List.getElem?_eq_getElem uH,List.getElem?_eq_getElem y4,sb,pD] at this
   exact this
  have aK:=O.each _ (fM uH)
  have aZ:=V.each _ (fM y4)
  conv=>whnf
  exact JX
 ·conv=>whnf
  exact JX
end
structure vu(w:World)(x:gi):Prop where
 at_:hS w cm.l x.m.gm x.m.ec (x.ct.map eP.s)
 ct:∀y∈x.ct,KC w y
 cf:hS w kX x.m.eU x.m.b6 x.cf
 al:hS w (fun b:Bool=> [Value.bool b]) x.m.ed x.m.ev x.al
 mem:hS w kX x.m.gT x.m.dO x.mem
 fs:gM w x.m.bS x.m.aX x.m.bb x.fs
 ao:hS w vI x.m.hO x.m.ne x.ao
 bp:∃l:List D5,x.bp=l.map w1/\hS w w1 x.m.fY x.m.bB l
theorem abJ{l k:List D5}(h:l.map w1=k.map w1):l=k:=by
 refine(List.map_inj_right fun a b xh=>?_).1 h
 obtain⟨s8,s9,ri,sd,Af,uo,uq,yu,aaW,GZ⟩:=a
 obtain⟨wY,b1,b2,du,dv,eu,i2,ha,g5,mC⟩:=b
 simp only[w1,List.cons.injEq,Value.int.injEq,Value.bool.injEq,true_and,and_true] at xh
 obtain⟨rfl,rfl,rfl,rfl,rfl,rfl,rfl,rfl,rfl,rfl⟩:=xh
 rfl
section
theorem aqz{x y:gi}(aW:vu H x)(bV:vu H y)(af:x.c=y.c)(so:x.al.length=x.ct.length)(U:K (.bool true) (Y H w0 X M)):a4 H w0 X M 8 #[.agg x.m.dL.l.toArray,.agg y.m.dL.l.toArray] K Z:=by
 obtain⟨mx,zF,awz,KO,ex,asF,au5,Hy⟩:=x
 obtain⟨fp,zG,awA,auQ,Rp,axI,au6,Hz⟩:=y
 simp only[gi.c,hG.mk.injEq] at af
 obtain⟨lL,rfl,rfl,rfl,rfl,rfl,dM,eI,agC,HT⟩:=af
 obtain⟨O,V,aa,ag,a6,bU,dh,bD,cT,fz⟩:=aW
 obtain⟨iY,hV,oy,nY,rI,oz,A0,K5,De,A1⟩:=bV
 obtain rfl:bD=K5:=abJ (cT.symm.trans De)
 dsimp only at O V aa ag a6 bU dh fz iY hV oy nY rI oz A0 A1 so
 have gb:=O.len
 have dd:=iY.len
 have hk:=O.dB
 have dN:=ag.len
 have dA:=nY.len
 have afX:zF.length=zG.length:=by have:=congrArg List.length lL;simpa using this
 rw[kz] at gb dd
 refine a7 XQ ?_
 intro az aF
 conv=>whnf
 repeat'((first
  |refine ea ?_
  |(refine gs ?_ ?_<;>(try with_reducible intro ab)<;>(try(exfalso;dsimp only[hz.dL] at ab;omega)))
  |with_reducible intro r)<;>(try conv=>whnf))
 refine c9.on (X:=Nat) (fun i=> [(2,.p 2 0),(3,.p 3 0),(5,.v (J (i:Int)))]) (fun _=> [(2,49,mx.dL.l),(3,49,fp.dL.l)]) (fun _=>Y H az aF M) (fun i=>i<=mx.ec) (fun i=>mx.ec-i) 0 (cY _) ⟨rfl,rfl,rfl,trivial⟩ ⟨rfl,rfl,trivial⟩ ?_
 intro i r hi
 replace hi:i<=mx.ec:=hi
 conv=>whnf
 refine ba.dec (fun cc=>?_) (fun cc=>?_)
 ·dsimp only[hz.dL] at cc
  have uH:i<zF.length:=by omega
  have y4:i<zG.length:=by omega
  have H0:i<KO.length:=by omega
  have afH:i<(zF.map eP.s).length:=by rw[kz];exact uH
  have o5:i<(zG.map eP.s).length:=by rw[kz];exact y4
  have e1:(zF.map eP.s)[i]=zF[i].s:=List.getElem_map ..
  have e2:(zG.map eP.s)[i]=zG[i].s:=List.getElem_map ..
  have akn:=O.len
  have ako:=iY.len
  have Mt:zF[i].bE=zG[i].bE:=by
   have:=congrArg (fun l=>l[i]?) lL
   simp only[oc,List.getElem?_eq_getElem uH,List.getElem?_eq_getElem y4,sb,pD] at this
   exact this
  have aK:=V _ (fM uH)
  have aZ:=hV _ (fM y4)
  conv=>whnf
  exact JX
 have e1:fp.dL.cP=mx.dL.cP:=eI.symm
 have e2:fp.dL.value=mx.dL.value:=agC.symm
 have cR:fp.dL.err=mx.dL.err:=HT.symm
 rw[show fp.dL.l=[J fp.dL.la.bt,J fp.dL.la.nodes,J fp.dL.la.buckets,J fp.dL.la.h6,J fp.dL.la.en,J fp.dL.la.cells,J fp.dL.la.maps,J fp.dL.la.dj,J fp.dL.la.cF,J fp.dL.la.done,J fp.dL.la.count,J fp.dL.la.era,J fp.dL.la.free,J fp.dL.la.alive,J fp.dL.la.owner,J fp.dL.la.qV,J fp.dL.la.qv,J fp.dL.la.ring,J fp.dL.la.task,J fp.dL.la.cell,J fp.dL.la.map,J fp.dL.la.stack,J fp.dL.la.chan,J fp.dL.la.node,J fp.dL.la.size,.slice fp.dL.c.bS fp.dL.c.aX fp.dL.c.bb,.slice fp.dL.c.fY fp.dL.c.bB fp.dL.c.dD,J fp.dL.c.maps,J fp.dL.c.dj,J fp.dL.c.cF,J fp.dL.c.main,.slice fp.dL.gT fp.dL.dO fp.dL.gP,.slice fp.dL.gm fp.dL.ec fp.dL.hj,.slice fp.dL.eU fp.dL.b6 fp.dL.ci,.slice fp.dL.bS fp.dL.aX fp.dL.bb,.slice fp.dL.ed fp.dL.ev fp.dL.bp,.slice fp.dL.hO fp.dL.ne fp.dL.ce,.slice fp.dL.fY fp.dL.bB fp.dL.dD,.bool mx.dL.cP,J mx.dL.value,J mx.dL.err] by rw[<-e1,<-e2,<-cR];rfl]
 conv=>whnf
 repeat'((first
  |refine alh a6 rI ?_
  |refine ahn aa oy ?_
  |refine ad8 bU oz dM ?_
  |refine adH dh A0 ?_
  |refine acf fz A1 ?_
  |refine apE ?_
  |exact cA U
  |refine ea ?_
  |(refine gs ?_ ?_<;>(try with_reducible intro ab)<;>(try(exfalso;first|contradiction|omega)))
  |with_reducible intro r)<;>(try conv=>whnf))
 exact lV U (beq_self_eq_true _)
end
def oK(bp:List (List Value)):Prop:=∃l:List D5,bp=l.map w1
theorem oK.add{bp:List (List Value)}(h:oK bp)(ng:Int)(o:dp)(steps:List Int)(u:cI):oK (bp++[jP ng o steps u]):=by
 obtain⟨l,rfl⟩:=h
 exact⟨l++[⟨ng,o.o0,o.o1,o.aQ,o.bl,u.val,u.eG,_,_,_⟩],by rw[zZ];rfl⟩
section
variable{c:cr}{la:c8}{k w n:Nat}
theorem ass{x:lA}{o:cI}{gs:List cz}(h:oK x.bp):oK (oF c la k w x o gs).bp:=by
 have V:oK (yD k x o):=by
  unfold yD
  split
  ·exact h.add _ _ _ _
  ·exact h
 unfold oF
 split<;>exact V
theorem O8:∀(f:Nat) {x:lA},oK x.bp->oK (ja c la k w f x).bp
 |0,x,h=>h
 |f+1,x,h=>by
  unfold ja
  split
  ·exact h
  split
  ·exact h
  ·exact O8 f (ass h)
theorem WN{x:hG}(h:oK x.bp):oK (nd c la w x).bp:=by
 unfold nd
 split
 ·exact h
 rename_i y bV
 have U:oK (vv w (ND y x.fs (x.cf.getD w 0) x.bp x.cP x.value x.err)).bp:=by
  unfold vv
  split<;>exact h
 unfold rW
 split
 ·rename_i e
  split at e
  ·split at e
   ·cases e
   ·exact h
  ·cases e
 ·rename_i r mem ao e
  split at e
  ·split at e
   ·injection e with e
    injection e with e1 e2
    subst e1
    exact O8 3 U
   ·cases e
  ·injection e with e
   injection e with e1 e2
   subst e1
   exact O8 3 U
theorem amS{kind a:Int}{x:hG}(h:oK x.bp):oK (m6 c la n kind a x).bp:=by
 unfold m6
 split
 ·exact WN h
 split
 ·exact h
 ·exact h
theorem oN.bp{most:Int}{lT:List (Int×Int)}{at_:Nat}{last:Int}{x y:hG}(h:oN c la n most lT at_ last x y):oK x.bp->oK y.bp:=by
 induction h with
 |fK _=>exact id
 |aH _ _=>exact id
 |pick _ _ _ _ cy=>exact fun aW=>cy (amS aW)
 |zK _ _ _ _ cy=>exact fun aW=>cy (WN aW)
theorem JB{cs:List Int}:oK (tU c la cs n).bp:=by
 unfold tU
 split<;>exact⟨[],rfl⟩
end
section
variable{H E:World}{L M:aw}{n N G pm:Nat}{x:gi}
theorem JD(a2:dc H (g9 x pm L M) E)(h:iV H L n N G x)(kU:oK x.bp):vu E x:=by
 have cT:=h.la.bt
 have aB:=h.i7
 have ar:=h.bt
 have hi:=h.bN
 have a8:=h.al
 have ad:=h.a1
 have af:=h.ao
 have aj:=h.bp
 have avO:=h.N
 have avM:=h.G
 have jT:dc H L E:=a2.less fun e af=>by
  unfold g9
  simp only[iw,mz]
  exact .inr (.inr (.inr (.inr (.inr (.inl af)))))
 have NW:∀e∈ag x.m (x.ct.map eP.s) x.cf x.bp pm,e∈g9 x pm L M:=fun e af=>List.mem_append_left _ af
 have hk:zo x.m x.mem∈g9 x pm L M:=by unfold g9;simp
 have iR:yN x.m x.ao∈g9 x pm L M:=by unfold g9;simp
 have o9:qq x.m x.al∈g9 x pm L M:=by unfold g9;simp
 obtain⟨l,ai⟩:=kU
 refine⟨⟨(a2.row _ _ _ _ _ _ (NW _ (.tail _ (.head _)))).1,by rw[kz];omega,by omega⟩,fun y bV=>?_,⟨?_,by omega,by omega⟩,⟨?_,by omega,by omega⟩,⟨?_,ad.2.1,ad.2.2.2⟩,h.rd E jT,⟨(a2.row _ _ _ _ _ _ iR).1,af.1,by omega⟩,l,ai,⟨?_,by rw[aj.1,ai,kz],by omega⟩⟩
 ·obtain⟨k,U⟩:=List.mem_iff_getElem?.1 bV
  have Ip:=h.ct k y U
  obtain⟨j2,lU⟩:=Ip.rd E jT
  have Um:∀e∈k3 y,e∈g9 x pm L M:=fun e af=>by
   unfold g9
   simp only[iw,mz]
   exact .inr (.inr (.inr (.inr (.inl (List.mem_flatMap.2 ⟨y,bV,af⟩)))))
  have gX:=Ip.log
  have gr:=Ip.steps
  have kT:=Ip.gone
  refine⟨.Bf lU,⟨(a2.row _ _ _ _ _ _ (Um _ (.head _))).1,gX.1,by omega⟩,⟨?_,gr.1,by omega⟩,⟨j2,kT.1,by omega⟩⟩
  have:=(a2.row _ _ _ _ _ _ (Um _ (.tail _ (.head _)))).1
  rw[Fs] at this
  exact this
 ·have:=(a2.row _ _ _ _ _ _ (NW _ (.tail _ (.tail _ (.head _))))).1
  rw[Fs] at this
  exact this
 ·have:=(a2.row _ _ _ _ _ _ o9).1
  rw[List.map_eq_flatMap] at this
  exact this
 ·have:=(a2.row _ _ _ _ _ _ hk).1
  rw[Fs] at this
  exact this
 ·have:=(a2.row _ _ _ _ _ _ (NW _ (.tail _ (.tail _ (.tail _ (.head _)))))).1
  rw[ai,List.flatten_eq_flatMap,List.flatMap_map] at this
  exact this
end
def P7:Prop:=∀(H w0:World) (X:Nat->Prop) (M:aw) (K:Value->an->Prop) (Z:bF),K (.bool true) (Y H w0 X M)->a4 H w0 X M 5 #[] K Z
section
theorem Pk{x:gi}{pm:Nat}{L:aw}:List.Sublist M (g9 x pm L M):=by
 unfold g9
 exact((((od _ _).trans (od _ _)).cons _).cons _|>.cons _).trans (od _ _)
theorem ana{n:Int}{A:Option Addr}{k:Nat}{l:List e5}(ai:l.length<=1000000)(aB:0<=n/\n<=8):Er H [Bj A k l] n (.slice A l.length k) (qR n l).out:=fun w0 X M K Z b9 U=>
 ay.anchor [] M XM.dg rfl (fun E w fV a2=>WA (by
  obtain⟨O,V,aa,ag⟩:=a2.row _ _ _ _ _ _ (b9 _ (.head _))
  exact⟨O,rfl,aa,ai⟩) aB (fun aR k' gX gr=>hR.to _ rfl (U aR k' gX gr)))
theorem aqt(so:P7){c:cr}{cs:List Int}(au:nG H c cs){s:Int}(ar:0<=s/\s<=255){bK:Option Addr}{aM bD:Nat}{l:List e5}(ai:aM<=200->uf H bK aM bD l)(U:K (.bool true) (Y H w0 X M)):a4 H w0 X M 3 #[.agg c.l.toArray,.int .u8 s,.slice bK aM bD] K Z:=by
 have C6:=Wj ar
 obtain⟨n,aB⟩:∃n:Nat,wm s=(n:Int):=⟨(wm s).toNat,by omega⟩
 refine a7 DV ?_
 intro az aF
 conv=>whnf
 repeat'((first
  |refine adR au ar bC (fun d bb b ab=>?_)
  |refine so _ _ _ _ _ _ ?_
  |exact cA U
  |refine ea ?_
  |(refine gs ?_ ?_<;>(try with_reducible intro dQ)<;>(try(exfalso;first|contradiction|omega)))
  |with_reducible intro r)<;>(try conv=>whnf))
 obtain⟨c3,gY,za⟩:=ab av
 have gY:yd c (n:Int) bb:=by rw[<-aB];exact gY
 have jV:=gY.bt
 have H6:=ai za
 have avI:=am2 (n:=(n:Int)) l
 have hlen:=H6.len
 have ow:(qR (n:Int) l).out.length<=1000:=by rw[Oz];omega
 have agd:(qR (n:Int) (qQ (n:Int) l)).out.length<=1000:=by rw[U8];exact ow
 rw[show bb.l=[J (n:Int),J bb.nodes,J bb.buckets,J bb.h6,J bb.en,J bb.cells,J bb.maps,J bb.dj,J bb.cF] by rw[<-jV];rfl] at*
 repeat'((first
  |refine FW (n:=n) (R:=[]) au c3 gY (Je H6 S) (fun e af=>by cases af) bC ow (fun x1 Vd fU YB fw O _ _ V=>?_)
  |refine am9 (n:=bb.bt) H6 S (fun A k E4 b0=>?_)
  |refine FW (n:=n) (R:=[Bj A k (qQ bb.bt l)]) au c3 gY (by rw[jV];exact ana S S) (fun e af=>by rw[nK] at af;subst af;exact .head _) bC agd (fun fL Ve cX YC gV gX _ _ gr=>?_)
  |refine so _ _ _ _ _ _ ?_
  |(refine ay.anchor [] _ XQ.dg rfl (fun E w fV a2=>aqz (x:=x1) (y:=fL) ?_ ?_ ?_ ?_ (hR.to _ rfl ?_)))
  |refine ea ?_
  |(refine gs ?_ ?_<;>(try with_reducible intro dQ)<;>(try(exfalso;first|contradiction|omega)))
  |with_reducible intro r)<;>(try conv=>whnf))
 all_goals first
  |exact JD (a2.less fun e af=>Pk.subset (.tail _ af)) O (V.bp JB)
  |exact JD a2 gX (gr.bp JB)
  |(rw[U8] at gr;exact V.EN gr)
  |exact O.al.2.2.2.trans O.bt.2.2.2.symm
  |exact cd.drop (K:=K) M ((Pk (x:=x1) (pm:=Vd) (L:=fU)).trans ((yk _ _).trans (Pk (x:=fL) (pm:=Ve) (L:=cX)))) U
end
section
open Classical in
noncomputable def tK(w:World)(D:Nat->Prop):List Nat:=(List.range w.heap.size).filter fun k=>decide (¬D k)
theorem UG{w:World}{D:Nat->Prop}{k:Nat}:k∈tK w D↔k<w.heap.size/\¬D k:=by simp[tK]
structure zU(H E:World):Prop where
 size:H.heap.size<=E.heap.size
 has:∀k,lz H k->lz E k/\E.heap[k]?=H.heap[k]?
section
variable{P:Program}{H w0:World}{X:Nat->Prop}{M:aw}{K:Value->an->Prop}{Z:bF}
theorem LF{w:World}{D:Nat->Prop}{k:Nat}(CK:D k):(hB w (tK w D)).heap[k]?=w.heap[k]?:=LG w fun h=>(UG.1 h).2 CK
theorem R8{w:World}{D:Nat->Prop}{k:Nat}(h:lz (hB w (tK w D)) k):D k:=by
 by_cases aL:D k
 ·exact aL
 ·exact absurd h (LD w (UG.2 ⟨by have:=h.1;rw[yM] at this;exact this,aL⟩))
theorem dJ.Wx{w:World}{D:Nat->Prop}(au:dJ H w0 X M w)(O:∀k,lz H k->D k)(V:∀k,i4 M k->D k):dc H M (hB w (tK w D)):=by
 have im:∀(a:Addr) (v:Value),w.cell? a=some v->D a.block->(hB w (tK w D)).cell? a=some v:=fun a v ah aL=>(World.cell?_of_block (LF aL)).trans ah
 have bj:dJ H w0 X ([]++M) w:=au
 have ar:=bj.u2
 rw[show xA ([]:aw)=[] from rfl,Rn] at ar
 refine⟨fun a v ah=>im _ _ (dJ.xG au ah) (O _ (lz.of ah)),fun A n c t sz l ad=>?_,fun b t l ad j v ah=>im _ _ (ar.cs b t l ad j v ah) (V _ (qI ad rfl))⟩
 obtain⟨j2,lU,rQ,Bq⟩:=ar.row A n c t sz l ad
 refine⟨?_,lU,rQ,Bq⟩
 rcases j2 with e1|⟨b,off,e1,ab,aj⟩
 ·exact .inl e1
 ·by_cases ai:l=[]
  ·exact .inl ai
  have mi:c≠0:=fun aT=>ai (q8 (by rw[lU,show n=0 by omega,ym]))
  exact .inr ⟨b,off,e1,by rw[yM];exact ab,fun j u aS=>im _ _ (aj j u aS) (V b (qI ad (by rw[e1];simp[fH,mi])))⟩
theorem ay.fO{f:FuncId}{args:Array Value}(af:oa P f)(h:∀E w fV,dc H M E->ay P (Y E w fV []) f args (fun v aG=> ∃aE,aG=Y E w fV aE/\∀Ea,dc E aE Ea->zU H Ea->K v (Y Ea w0 X [])) (fun _ _=>False)):ay P (Y H w0 X M) f args K Z:=by
 constructor
 refine⟨af,fun w au=>?_⟩
 have au:dJ H w0 X M w:=au
 generalize CK:(Y H w0 X M).rn=D
 have R5:∀k,lz H k->D k:=fun k U=>CK▸ .inl U
 have aeN:∀k,k<w0.heap.size->¬X k->D k:=fun k O V=>CK▸ .inr (.inl ⟨O,V⟩)
 have aeO:∀k,i4 M k->D k:=fun k U=>CK▸ .inr (.inr U)
 have a2:=au.Wx R5 aeO
 have ar:dJ (hB w (tK w D)) w Dm [] w:=⟨rfl,rfl,rfl,Nat.le_refl _,fun _ _ _=>rfl,by rw[yM];exact Nat.le_refl _,fun k U=>LC w U,(fun e h=>nomatch h),(fun e h=>nomatch h),List.nodup_nil⟩
 refine((h _ w Dm a2).out.2 w ar).mono fun e az eb=>?_
 rcases eb with⟨v,aG,O,V,aa,aE,rfl,ag⟩|⟨_,_,_,_,_,b3⟩
 rotate_left
 ·exact b3.elim
 have aa:dJ (hB w (tK w D)) w Dm aE az:=aa
 generalize Mb:hB w (tK w D)=D9 at*
 have rF:D9.heap.size=w.heap.size:=by rw[<-Mb,yM]
 obtain⟨BT,HH⟩:∃BT:Nat->Prop,BT=fun k=>lz D9 k\/i4 aE k:=⟨_,rfl⟩
 have Mc:=aa.Wx (D:=BT) (fun k U=>HH▸ .inl U) (fun k U=>HH▸ .inr U)
 have MV:(hB az (tK az BT)).heap.size=az.heap.size:=yM ..
 refine .inl ⟨v,_,O,?_,?_,ag _ Mc ⟨?_,fun k U=>?_⟩⟩
 ·refine⟨aa.size,fun k U _=>aa.fk k U (fun h=>h),fun k U=>?_⟩
  rw[CK]
  rcases U with U|U|U
  ·have aL:=R8 U
   rw[HH] at aL
   rcases aL with aL|aL
   ·rw[<-Mb] at aL
    exact .inl (R8 aL)
   ·obtain⟨hJ,xm,dQ⟩:=jc.1 aL
    rcases(aa.ap hJ xm k dQ).1 with a6|a6
    ·exact .inr a6
    ·exact a6.elim
  ·exact .inl (aeN k U.1 U.2)
  ·obtain⟨hJ,xm,_⟩:=jc.1 U
   cases xm
 ·refine⟨aa.os.trans au.os,aa.tape.trans au.tape,aa.output.trans au.output,jr au.size aa.size,fun k U aW=>(aa.fk k (lB U au.size) (fun h=>h)).trans (au.fk k U aW),by rw[MV];exact Nat.le_refl _,fun k U=>LC az U,(fun e h=>nomatch h),(fun e h=>nomatch h),List.nodup_nil⟩
 ·rw[MV]
  exact jr au.nL aa.size
 ·have ou:k<w.heap.size:=lB U.1 au.nL
  have e1:D9.heap[k]?=w.heap[k]?:=by rw[<-Mb];exact LF (R5 k U)
  have Sr:lz D9 k:=⟨by rw[rF];exact ou,by rw[e1,au.rj k U];exact U.2⟩
  have e2:(hB az (tK az BT)).heap[k]?=az.heap[k]?:=LF (by rw[HH];exact .inl Sr)
  have cR:(hB az (tK az BT)).heap[k]?=H.heap[k]?:=by rw[e2,aa.rj k Sr,e1,au.rj k U]
  exact⟨⟨by rw[MV];exact lB ou aa.size,by rw[cR];exact U.2⟩,cR⟩
theorem ay.asv{iD:World}{f:FuncId}{args:Array Value}(aW:zU iD H)(h:ay P (Y H w0 X M) f args (fun v aG=> ∃aE,aG=Y H w0 X aE/\K v (Y iD w0 X aE)) (fun _ _=>False)):ay P (Y H w0 X M) f args K Z:=by
 constructor
 refine⟨h.out.1,fun w au=>(h.out.2 w au).mono fun e az eb=>?_⟩
 rcases eb with⟨v,aG,O,V,aa,aE,rfl,ag⟩|⟨_,_,_,_,_,b3⟩
 rotate_left
 ·exact b3.elim
 have aa:dJ H w0 X aE az:=aa
 refine .inl ⟨v,Y iD w0 X aE,O,⟨V.size,V.block,fun k U=>V.new k ?_⟩,⟨aa.os,aa.tape,aa.output,aa.size,aa.fk,jr aW.size aa.nL,fun k U=>(aa.rj k (aW.has k U).1).trans (aW.has k U).2,aa.new,fun e af b ab=>⟨(aa.ap e af b ab).1,fun eb=>(aa.ap e af b ab).2 (aW.has b eb).1⟩,aa.pc⟩,ag⟩
 rcases U with U|U|U
 ·exact .inl (aW.has k U).1
 ·exact .inr (.inl U)
 ·exact .inr (.inr U)
theorem zU.trans{iD Xo:World}(h:zU H iD)(V:zU iD Xo):zU H Xo:=⟨jr h.size V.size,fun k U=>⟨(V.has k (h.has k U).1).1,(V.has k (h.has k U).1).2.trans (h.has k U).2⟩⟩
end
end
theorem DQ {P:Prop} (h:P:=by
 repeat'((first
  |(refine je kX (fun _=>rfl) h.rd ai a.toNat S hi bC (fun b o aj=>?_))
  |(refine tB (l:=kX xs[a.toNat]) av 0 rfl rfl aD W ?_)
  |(refine FC (l:=kX xs[a.toNat]) av 0 rfl rfl aD W ?_)
  |(refine adz ?_)
  |(refine ady ?_)
  |(refine adB ?_)
  |(exact cA U)
  |(refine gd abu ?_;intro be bM)
  |(refine gd abo ?_;intro be bM)
  |(refine c9.vd ?_)
  |refine eg ?_
  |(refine eh ?_ ?_<;>(try with_reducible intro ab)<;>(try(exfalso;first|contradiction|omega)))
  |with_reducible intro r)<;>(try conv=>whnf))):P:=h
def Bv(e v t:Int):List Value:=[J e,J v,.slice none 0 0,.slice none 0 0,.slice none 0 0,.slice none 0 0,J t,.slice none 0 0]
section
theorem adz(U:K (.bool true) (Y H w0 X M)):a4 H w0 X M 42 #[.slice none 0 0,.slice none 0 0] K Z:=by
 refine a7 abp ?_
 intro az aF
 conv=>whnf
 exact DQ
theorem ady{g:Value}(U:K (.bool true) (Y H w0 X M)):a4 H w0 X M 43 #[.slice none 0 0,.slice none 0 0,g] K Z:=by
 refine a7 abq ?_
 intro az aF
 conv=>whnf
 exact DQ
theorem adB{g:Value}(U:K (.bool true) (Y H w0 X M)):a4 H w0 X M 45 #[.slice none 0 0,.slice none 0 0,g] K Z:=by
 refine a7 abr ?_
 intro az aF
 conv=>whnf
 exact DQ
theorem ap4{g:Value}(U:K (.tuple #[]) (Y H w0 X M)):a4 H w0 X M 49 #[.slice none 0 0,g] K Z:=by
 refine a7 abt ?_
 intro az aF
 conv=>whnf
 exact DQ
theorem Wg{e v t:Int}(U:K (.bool true) (Y H w0 X M)):a4 H w0 X M 12 #[.agg (Bv e v t).toArray,.agg (Bv e v t).toArray] K Z:=by
 refine a7 atl ?_
 intro az aF
 conv=>whnf
 exact DQ
theorem afk{A:Option Addr}{n c:Nat}{xs:List Int}{a:Int}(h:hS H kX A n xs)(a8:0<=a/\a<n)(U:K (J (xs.getD a.toNat 0)) (Y H w0 X M)):a4 H w0 X M 46 #[.agg #[.slice A n c],J a] K Z:=by
 have ai:=h.len
 have hi:a.toNat<xs.length:=by omega
 have e:xs.getD a.toNat 0=xs[a.toNat]:=yR hi
 rw[e] at U
 refine a7 atG ?_
 intro az aF
 conv=>whnf
 exact DQ
end
theorem Xq {P:Prop} (h:P:=by
 repeat'((first
  |(exact cA U)
  |(refine c9.vd ?_)
  |refine eg ?_
  |(refine eh ?_ ?_<;>(try with_reducible intro ab)<;>(try(exfalso;first|contradiction|omega)))
  |with_reducible intro r)<;>(try conv=>whnf))):P:=h
section
theorem Rc{l:List Value}{k:Int}(ai:Nat.ble 1 1=true)(U:K (.slice none 0 0) (Y H w0 X M)){m:hz}(ad:l=m.l):a4 H w0 X M 48 #[.agg l.toArray,J k,J 0] K Z:=by
 subst ad
 refine a7 atH ?_
 intro az aF
 conv=>whnf
 exact Xq
theorem al9{v:Int}{A:Option Addr}(U:K (.agg (Bv 8 0 0).toArray) (Y H w0 X M)):a4 H w0 X M 14 #[.agg #[J 8,J v,.slice none 0 0,.slice none 0 0,.slice none 0 0,.slice none 0 0,.slice none 0 0,.slice none 0 0,J 0,J 0,.slice none 0 0]] K Z:=by
 refine a7 atp ?_
 intro az aF
 conv=>whnf
 exact Xq
theorem apT{x:gi}(h:vu H x)(eI:x.m.cP=true)(HT:x.m.err=0)(aT:x.m.c.bB=0)(O:x.m.c.maps=0)(V:x.m.c.dj=0)(aa:x.m.c.cF=0)(sv:∀f∈x.fs,f.fail=false)(o2:0<=x.m.la.count/\x.m.la.count<x.m.dO)(U:K (.agg (Bv 0 x.m.value (x.mem.getD x.m.la.count.toNat 0)).toArray) (Y H w0 X M)):a4 H w0 X M 13 #[.agg x.m.dL.l.toArray] K Z:=by
 obtain⟨gX,gr,kT,lI,ad,aK,avD,avE⟩:=h
 obtain⟨m,ct,cf,al,mem,ao,bp,fs⟩:=x
 obtain⟨la,c,gT,dO,gP,gm,ec,hj,eU,b6,ci,bS,aX,bb,ed,ev,KZ,hO,ne,ce,fY,bB,dD,cP,value,err⟩:=m
 obtain⟨KY,K7,K2,KX,au0,K1,auZ,au4,auX,K6,K3⟩:=c
 dsimp only at eI HT aT O V aa sv o2 U ad aK
 subst eI HT aT O V aa
 have xq:=aK.len
 have gx:=aK.dB
 refine a7 ato ?_
 intro az aF
 conv=>whnf
 repeat'((first
  |refine afk ad o2 ?_
  |refine Rc rfl ?_ (m:=⟨la,⟨KY,K7,K2,KX,0,K1,0,0,0,K6,K3⟩,gT,dO,gP,gm,ec,hj,eU,b6,ci,bS,aX,bb,ed,ev,KZ,hO,ne,ne,fY,bB,bB,true,value,0⟩) rfl
  |refine ea ?_
  |(refine gs ?_ ?_<;>(try with_reducible intro ab)<;>(try(exfalso;first|contradiction|omega)))
  |with_reducible intro r)<;>(try conv=>whnf))
 all_goals
  refine c9.vd ?_
  conv=>whnf
  repeat'((first
   |refine Rc rfl ?_ (m:=⟨la,⟨KY,K7,K2,KX,0,K1,0,0,0,K6,K3⟩,gT,dO,gP,gm,ec,hj,eU,b6,ci,bS,aX,bb,ed,ev,KZ,hO,ne,ne,fY,bB,bB,true,value,0⟩) rfl
   |refine ea ?_
   |(refine gs ?_ ?_<;>(try with_reducible intro ab)<;>(try(exfalso;first|contradiction|omega)))
   |with_reducible intro r)<;>(try conv=>whnf))
 all_goals
  refine c9.on (X:=Nat) (fun i=> [(1,.p 1 0),(2,.p 2 0),(3,.p 3 0),(65,.v (.slice bS aX bb)),(66,.v (J (aX:Int))),(67,.v (J (i:Int)))]) (fun _=> [(1,49,(hz.mk la ⟨KY,K7,K2,KX,0,K1,0,0,0,K6,K3⟩ gT dO gP gm ec hj eU b6 ci bS aX bb ed ev KZ hO ne ne fY bB bB true value 0).l),(2,68,Bv 0 0 0),(3,68,Bv 0 value (mem.getD la.count.toNat 0))]) (fun _=>Y H az aF M) (fun i=>i<=aX) (fun i=>aX-i) 0 (cY _) ⟨rfl,rfl,rfl,rfl,rfl,rfl,trivial⟩ ⟨rfl,rfl,rfl,trivial⟩ ?_
  intro i r hi
  replace hi:i<=aX:=hi
  conv=>whnf
  refine ba.dec (fun cc=>?_) (fun cc=>?_)
  ·have uH:i<fs.length:=by omega
   have Fa:=sv _ (fM uH)
   conv=>whnf
   repeat'((first
    |refine je a3.l (fun _=>rfl) aK.rd xq i rfl uH bC (fun b o aj=>?_)
    |refine iZ fs[i].l av aD W W ?_
    |refine tC fs[i].l av aD W W ?_
    |exact cC (X:=Nat) (i+1) (by show aX-(i+1)<aX-i;omega) (by show i+1<=aX;omega) ⟨rfl,rfl,rfl,rfl,rfl,eD S,trivial⟩ ⟨rfl,rfl,rfl,trivial⟩
    |refine ba.Tc Fa ?_
    |refine ea ?_
    |(refine gs ?_ ?_<;>(try with_reducible intro ab)<;>(try(exfalso;first|contradiction|omega)))
    |with_reducible intro r)<;>(try conv=>whnf))
  ·conv=>whnf
   repeat'((first
    |refine ap4 ?_
    |exact cA U
    |refine ea ?_
    |with_reducible intro r)<;>(try conv=>whnf))
end
def xK(c:cr)(la:c8)(n:Nat)(most:Int)(lT:List (Int×Int)):Nat->Nat->Int->hG->Option hG
 |0,_,_,_=>none
 |f+1,at_,last,x=>bif x.cP then some x else bif decide (most<=x.ao.length) then some {x with cP:=true,err:=11,value:=0} else match lT[at_]? with
  |some p=>xK c la n most lT f (at_+1) last (m6 c la n p.1 p.2 x)
  |none=>xK c la n most lT f (at_+1) (j0 x.al last) (nd c la (j0 x.al last).toNat x)
theorem FX{c:cr}{la:c8}{n:Nat}{most:Int}{lT:List (Int×Int)}:∀(f at_:Nat) (last:Int) (x y:hG),xK c la n most lT f at_ last x=some y->oN c la n most lT at_ last x y
 |0,_,_,_,_,h=>by cases h
 |f+1,at_,last,x,y,h=>by
  unfold xK at h
  cases eI:x.cP with
  |true=>
   rw[eI] at h
   injection h with h
   subst h
   exact .fK eI
  |false=>
   rw[eI] at h
   by_cases ad:most<=x.ao.length
   ·rw[decide_eq_true ad] at h
    injection h with h
    subst h
    exact .aH eI ad
   ·rw[decide_eq_false ad] at h
    have h:(match lT[at_]? with|some p=>xK c la n most lT f (at_+1) last (m6 c la n p.1 p.2 x)|none=>xK c la n most lT f (at_+1) (j0 x.al last) (nd c la (j0 x.al last).toNat x))=some y:=h
    cases bh:lT[at_]? with
    |some p=>
     rw[bh] at h
     exact .pick eI S bh (FX f _ _ _ _ h)
    |none=>
     rw[bh] at h
     exact .zK eI S bh (FX f _ _ _ _ h)
def oi(b1 b2:Nat):cr:=⟨some ⟨b2,0,none⟩,1,1,none,0,0,0,0,0,0,[⟨0,0,some ⟨b1,0,none⟩,2,2,[⟨1,7,0,0⟩,⟨17,0,0,0⟩]⟩]⟩
def ux:h9:=⟨2,1,1,1,4,0,0,0,0⟩
def EJ:h9:=⟨1,1,1,1,4,0,0,0,0⟩
def U6:List e5:=[⟨1,0,0⟩,⟨3,0,0⟩,⟨3,1,0⟩]
def F9(bb:h9)(y:hG):Bool:=y.cP&&(y.value==7&&(y.err==0&&(y.mem.getD (fJ bb).count.toNat 0==1&&(y.fs.all fun f=>!f.fail))))
def Hg(g:hG->Bool):Option hG->Bool
 |some y=>g y
 |none=>false
theorem K4{g:hG->Bool}{o:Option hG}(h:Hg g o=true):∃y,o=some y/\g y=true:=by
 cases o with
 |none=>cases h
 |some y=>exact⟨y,rfl,h⟩
theorem ao6(b1 b2:Nat):Hg (fun y=>F9 EJ y&&y.ao.length==4) (xK (oi b1 b2) (fJ EJ) 1 100 ((qR (1:Nat) []).out.map fun p=>(p.kind,p.a)) 30 0 (-1) (tU (oi b1 b2) (fJ EJ) [] 1))=true:=by kernel_rfl
theorem ao8(b1 b2:Nat):Hg (fun y=>F9 ux y&&(y.al==[false,true]&&y.cf==[0,0])) (xK (oi b1 b2) (fJ ux) 2 1000 ((qR (2:Nat) U6).out.map fun p=>(p.kind,p.a)) 30 0 (-1) (tU (oi b1 b2) (fJ ux) [] 2))=true:=by kernel_rfl
theorem ao9(b1 b2:Nat):Hg (fun y=>y.cP&&(y.err==11&&y.ao.length==3)) (xK (oi b1 b2) (fJ ux) 2 3 ((qR (2:Nat) []).out.map fun p=>(p.kind,p.a)) 30 0 (-1) (tU (oi b1 b2) (fJ ux) [] 2))=true:=by kernel_rfl
theorem apa(b1 b2:Nat):((tU (oi b1 b2) (fJ ux) [] 2).ct.map fun y=> [y.s.o0,y.s.o1,y.s.aQ,y.s.bl])=[[14,0,1,7],[9,1,0,0]]:=by kernel_rfl
end Go.Proofs.YtcflcebplhdcpaaGreat
