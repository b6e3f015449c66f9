/- Lemmas, part 43; each states its own conditions. -/
import Derived.Test.YtcflcebplhdcpaaGreatL42
namespace Go.Proofs.YtcflcebplhdcpaaGreat
open Go.RowKit
set_option linter.unusedSimpArgs false
set_option linter.unusedVariables false
set_option maxRecDepth 100000
set_option maxHeartbeats 16000000
theorem wB {P:Prop} (h:P:=by
 repeat'((first
  |(show bk _ _ _ _;first|(refine A4 iN (dr _ (List.Mem.head _)) uL ?_)|(refine jx (xs:=x.cf) w lj (dr _ (dr _ (List.Mem.head _))) (h1 w) (show w<x.cf.length by omega) ?_;rw[C5])|(refine jL Cq (fy.own (l:=hs (g2 mem a).2.1) Cq (List.Mem.head _) VZ 1) (.there (.there (.there (.there .here)))) (show x.h.aM+1<=1000000000 by omega) ?_;intro br bz dS ep;rw[Jo])|(refine jL gK (fy.own (l:=[J (x.m.ne:Int)]) gK (List.Mem.head _) (Dt _) 1) (.there (.there (.there (.there (.there .here))))) (show x.h.ns+1<=1000000000 by omega) ?_;intro bf bA ka iz;rw[Nj])|(refine jL vH (fy.own (l:=vI ⟨w,k,a,(g2 mem a).2.1⟩) vH (List.Mem.head _) Ro 1) (.there (.there (.there (.there (.there (.there (.there .here))))))) (show x.m.ne+1<=1000000000 by omega) ?_;intro da c7 qz xb;rw[Jo])|(refine hb Cq W ?_)|(refine hb gK W ?_)|(refine hb vH W ?_)|(refine jL Cq (fy.own (l:=hs (g2 mem a).2.1) Cq (List.Mem.head _) VZ 1) (.there (.there (.there (.there .here)))) (show(x.eV w).h.aM+1<=1000000000 by omega) ?_;intro br bz dS ep;rw[Jo])|(refine jL gK (fy.own (l:=[J (x.m.ne:Int)]) gK (List.Mem.head _) (Dt _) 1) (.there (.there (.there (.there (.there .here))))) (show(x.eV w).h.ns+1<=1000000000 by omega) ?_;intro bf bA ka iz;rw[Nj]))
  |(show gN _ _ _;first|(refine gN.mk (ie.imp (aJ.sub (JC x pm mem ao L cX b5))) ?_)|(refine gN.mk (ie.imp (aJ.sub (JC (x.eV w) pm mem ao L cX b5))) ?_))
  |(show ay _ _ _ _ _ _;first|(refine WD (x:=x) (L:=L) (b5:=b5) (pm:=pm) (mem:=mem) (ao:=ao) aC (fun a ju=>?_) (fun o gs bf bA cX h5=>?_))|(refine JF (x:=x) (pm:=pm) (L:=L) (b5:=b5) (ao:=ao) (a:=a) ad ?_;rw[af])|(refine JE (x:=x.acc k da c7 br bz bf bA (g2 mem a).2.1 x.m.ne) (mem:=(g2 mem a).1) (ao:=ao++[⟨w,k,a,(g2 mem a).2.1⟩]) (L:=L) (b5:=b5) (aC.acc dS ka (by first|exact qC|exact(by decide:0+1<=10000)) (by first|exact Ik|exact(by decide:0+1<=10000)) e6) (by show(x.cE.set k _)[k]?=some _;rw[q9 S];rfl) kU eC (fun bT cp FL EI ES Gc su rX=>?_))|(refine JF (x:=x) (pm:=pm) (L:=L) (b5:=b5) (ao:=ao) (a:=a) ad ?_;rw[W8 af])|(refine I1 (m:=x.m) ?_)|(refine JE (x:=x.ee k) (mem:=mem) (ao:=ao) (L:=cX++L) (b5:=b5) ((aC.up fun E a2=>a2.right).ee e6) (by show(x.cE.set k _)[k]?=some _;rw[q9 S];rfl) kU eC (fun bT cp FL EI ES Gc su rX=>?_))|(refine WD (x:=(x.eV w)) (L:=L) (b5:=b5) (pm:=pm) (mem:=mem) (ao:=ao) aC (fun a ju=>?_) (fun o gs bf bA cX h5=>?_))|(refine JF (x:=(x.eV w)) (pm:=pm) (L:=L) (b5:=b5) (ao:=ao) (a:=a) ad ?_;rw[af])|(refine JE (x:=(x.eV w).acc k da c7 br bz bf bA (g2 mem a).2.1 x.m.ne) (mem:=(g2 mem a).1) (ao:=ao++[⟨w,k,a,(g2 mem a).2.1⟩]) (L:=L) (b5:=b5) (aC.acc dS ka (by first|exact qC|exact(by decide:0+1<=10000)) (by first|exact Ik|exact(by decide:0+1<=10000)) e6) (by show(x.cE.set k _)[k]?=some _;rw[q9 S];rfl) kU eC (fun bT cp FL EI ES Gc su rX=>?_))|(refine JF (x:=(x.eV w)) (pm:=pm) (L:=L) (b5:=b5) (ao:=ao) (a:=a) ad ?_;rw[W8 af])|(refine JE (x:=(x.eV w).ee k) (mem:=mem) (ao:=ao) (L:=cX++L) (b5:=b5) ((aC.up fun E a2=>a2.right).ee e6) (by show(x.cE.set k _)[k]?=some _;rw[q9 S];rfl) kU eC (fun bT cp FL EI ES Gc su rX=>?_)))
  |(show gn _ _ _ _ _;first|(refine iP iN k rfl (show k<x.m.ec by omega) ?_)|(refine iP lj w rfl (show w<x.m.b6 by omega) ?_))
  |(show eB _ _ _ _;first|(refine zE (s:={x.h with bK:=br,aM:=x.h.aM+1,bD:=bz,b4:=bf,ns:=x.h.ns+1,cs:=bA}) iN (.there .here) (show k<x.cE.length by omega) ?_)|(refine zE (s:=x.h) iN (.there .here) (show k<x.cE.length by omega) ?_)|(refine zE (s:={(x.eV w).h with bK:=br,aM:=(x.eV w).h.aM+1,bD:=bz,b4:=bf,ns:=(x.eV w).h.ns+1,cs:=bA}) iN (.there .here) (show k<x.cE.length by omega) ?_)|(refine zE (s:=(x.eV w).h) iN (.there .here) (show k<x.cE.length by omega) ?_))
  |(show _/\_;first|(refine⟨by rfl,fun a0=>?_⟩))
  |(exact hA.on (X:=Bool) true rfl ⟨rfl,rfl,rfl,rfl,rfl,trivial⟩ ⟨rfl,trivial⟩)
  |(refine hA.on (X:=Bool) (x.h.bl !=(w:Int)) ?_ ⟨rfl,rfl,rfl,rfl,rfl,trivial⟩ ⟨rfl,trivial⟩;(focus(simp[oq.2])))
  |(exact cA (V bT cp _ _ (aqH ad h5 FL EI ES Gc rX)))
  |(refine ba.sM (fun ab=>?_) (fun ab=>absurd ab af))
  |(exact cA (O _ (by unfold rW;rw[show eH (g6 x.m.la k (ek.c (x.eV w) w).log) (ek.c (x.eV w) w).gone (ek.c (x.eV w) w).s.op= .ask a from ju];exact if_neg af)))
  |(exact cA (O _ (by unfold rW;rw[show eH (g6 x.m.la k (ek.c x w).log) (ek.c x w).gone (ek.c x w).s.op= .ask a from ju];exact if_neg af)))
  |(exact cA (V bT cp _ _ (aqG ad jW ju af qz FL EI ES Gc rX)))
  |(exact hA.on (X:=Bool×c4×aw) (false,a,[]) (.inl ⟨rfl,rfl,ju⟩) ⟨rfl,rfl,rfl,rfl,rfl,rfl,trivial⟩ ⟨rfl,rfl,trivial⟩)
  |(exact hA.on (X:=Bool×c4×aw) (true,⟨0,0,0,0⟩,cX) (.inr ⟨rfl,o,gs,h5⟩) ⟨rfl,rfl,rfl,rfl,rfl,rfl,trivial⟩ ⟨rfl,rfl,trivial⟩)
  |(exact hA.on (X:=Bool) false rfl ⟨rfl,rfl,rfl,rfl,rfl,trivial⟩ ⟨rfl,trivial⟩)
  |(refine hA.on (X:=Bool) (x.h.bl !=(w:Int)) ?_ ⟨rfl,rfl,rfl,rfl,rfl,trivial⟩ ⟨rfl,trivial⟩;(focus(have aa:x.h.bl=(w:Int):=Classical.byContradiction fun h=>oq ⟨ab,h⟩;simp[aa])))
  |refine eg ?_
  |(refine eh ?_ ?_<;>(try with_reducible intro ab)<;>(try(exfalso;omega)))
  |with_reducible intro r)<;>(try conv=>whnf))):P:=h
def KJ(s:cm)(w:Int):cm:={s with bl:=w,bK:=none,aM:=0,bD:=0,b4:=none,ns:=0,cs:=0}
def rK(x:ek)(mem:List Int):Value×aY:=(.slice x.m.gT x.m.dO x.m.gP,.row 3 1 (is mem))
def rp(x:ek)(ao:List k7):Value×aY:=(.slice x.m.hO x.m.ne x.m.ce,.row 138 8 (ao.flatMap vI))
def lW(x:ek)(pm:Nat)(mem:List Int)(ao:List k7)(L b5:aw):aw:=vX x pm++(rK x mem::rp x ao::(L++b5))
theorem aJ.WR{x:ek}{pm:Nat}{mem:List Int}{ao:List k7}{L b5:aw}:aJ (lW x pm mem ao L b5) (i5 x pm L (rK x mem::rp x ao::b5)):=aJ.perm (List.Perm.append_left _ (yj (l₁:=[rK x mem,rp x ao]) (l₂:=L)|>.append_right b5|>fun h=>by simpa using h))
theorem aJ.TL{x:ek}{pm:Nat}{mem:List Int}{ao:List k7}{L b5:aw}:aJ (i5 x pm L (rK x mem::rp x ao::b5)) (lW x pm mem ao L b5):=aJ.perm (List.Perm.append_left _ (yj (l₁:=L) (l₂:=[rK x mem,rp x ao])|>.append_right b5|>fun h=>by simpa using h))
theorem JC(x:ek)(pm:Nat)(mem:List Int)(ao:List k7)(cp cX b5:aw):List.Sublist (lW x pm mem ao cp b5) (lW x pm mem ao (cX++cp) b5):=(List.Sublist.refl _).append (.cons_cons _ (.cons_cons _ ((od cX cp).append_right b5)))
structure z0(x:ek)(mem:List Int)(ao:List k7):Prop where
 mem:(0<x.m.gP->∃b,x.m.gT=some ⟨b,0,none⟩)/\x.m.dO=mem.length/\x.m.dO<=x.m.gP/\x.m.dO<=1000000
 ao:x.m.ne=ao.length/\x.m.ne<=x.m.ce/\ao.length<=100000
def rW(c:cr)(la:c8)(k w:Nat)(y:lA)(mem:List Int)(ao:List k7):Int ⊕ (lA×List Int×List k7):=
 match eH (g6 la k y.log) y.gone y.s.op with
 | .ask a=>if(g2 mem a).2.2=0 then .inr (ja c la k w 3 {y with s:={y.s with aM:=y.s.aM+1,ns:=y.s.ns+1},log:=y.log++[(g2 mem a).2.1],steps:=y.steps++[(ao.length:Int)]},(g2 mem a).1,ao++[⟨w,k,a,(g2 mem a).2.1⟩]) else .inl (g2 mem a).2.2
 | .done _ _=> .inr (ja c la k w 3 y,mem,ao)
theorem W8{mem:List Int}{a:c4}(h:(g2 mem a).2.2≠0):(g2 mem a).1=mem:=by
 unfold g2 at h|-
 split
 ·rfl
 ·split
  ·rename_i O V
   rw[if_neg O,if_pos V] at h
   exact absurd rfl h
  ·rfl
theorem JS{mem:List Int}{a:c4}:(g2 mem a).1.length=mem.length:=by
 unfold g2
 split
 ·rfl
 ·split
  ·exact nJ ..
  ·rfl
structure Yw(a b:hz):Prop where
 gT:a.gT=b.gT
 dO:a.dO=b.dO
 gP:a.gP=b.gP
 hO:a.hO=b.hO
 ne:a.ne=b.ne
 ce:a.ce=b.ce
theorem rq{a b:hz}(h:a.fix=b.fix):Yw a b:=by
 have O:a.fix.gT=b.fix.gT:=by rw[h]
 have V:a.fix.dO=b.fix.dO:=by rw[h]
 have aa:a.fix.gP=b.fix.gP:=by rw[h]
 have ag:a.fix.hO=b.fix.hO:=by rw[h]
 have a6:a.fix.ne=b.fix.ne:=by rw[h]
 have bU:a.fix.ce=b.fix.ce:=by rw[h]
 exact⟨O,V,aa,ag,a6,bU⟩
section
variable{H w0:World}{X:Nat->Prop}{L b5:aw}{K:Value->an->Prop}{Z:bF}
variable{n k w N G pm:Nat}{x:ek}{mem:List Int}{ao:List k7}
theorem WD (h:gB H L n k w N G x)
  (cl:∀a,eH (g6 x.m.la k x.log) x.gone x.h.op= .ask a->K (.tuple #[.agg a.l.toArray,.agg #[J 0,.bool false,J 0,J 0,.slice none 0 0],.bool false]) (Y H w0 X (lW x pm mem ao L b5)))
  (HQ:∀o gs aR aN qm,eH (g6 x.m.la k x.log) x.gone x.h.op= .done o gs->K (.tuple #[.agg #[J 0,J 0,J 0,J 0],.agg (lp o aR gs.length aN).toArray,.bool true]) (Y H w0 X (lW x pm mem ao (qm++L) b5))):
  a4 H w0 X (lW x pm mem ao L b5) 63 #[.agg x.m.la.l.toArray,J (k:Int),.slice x.h.ho x.h.ew x.h.h3,.agg #[J x.h.o0,J x.h.o1,J x.h.aQ,J x.h.bl],.slice x.h.bK x.h.aM x.h.bD] K Z:=
 ay.post (ay.imp aJ.WR (TI h (fun a ju=>⟨_,_,rfl,aJ.TL,cl a ju⟩) (fun o gs aR aN qm h5 _ _ _=>⟨_,_,rfl,aJ.TL,HQ o gs aR aN qm h5⟩)))
theorem JF(ad:z0 x mem ao){a:c4}(U:K (.tuple #[.agg (hs (g2 mem a).2.1).toArray,J (g2 mem a).2.2]) (Y H w0 X (lW x pm (g2 mem a).1 ao L b5))):
  a4 H w0 X (lW x pm mem ao L b5) 64 #[.slice x.m.gT x.m.dO x.m.gP,.agg a.l.toArray] K Z:=
 ay.post (ay.imp (aJ.perm (vo (l₁:=vX x pm))) (W9 ad.mem.1 ad.mem.2.1 ad.mem.2.2.1 ad.mem.2.2.2 ⟨_,_,rfl,aJ.perm (vo (l₁:=vX x pm)).symm,U⟩))
def ek.acc(x:ek)(k:Nat)(hO:Option Addr)(ce:Nat)(br:Option Addr)(bz:Nat)(bf:Option Addr)(bA:Nat)(r:oP)(at_:Int):ek:=
 ⟨{x.m with hO:=hO,ne:=x.m.ne+1,ce:=ce},x.cE.set k {x.h with bK:=br,aM:=x.h.aM+1,bD:=bz,b4:=bf,ns:=x.h.ns+1,cs:=bA},x.cf,{x.h with bK:=br,aM:=x.h.aM+1,bD:=bz,b4:=bf,ns:=x.h.ns+1,cs:=bA},x.got,x.log++[r],x.steps++[at_],x.gone,x.fs,x.bp⟩
theorem gB.acc(h:gB H L n k w N G x){hO:Option Addr}{ce:Nat}{br:Option Addr}{bz:Nat}{bf:Option Addr}{bA:Nat}{r:oP}{at_:Int}(O:x.h.aM+1<=bz)(V:x.h.ns+1<=bA)(ai:x.log.length+1<=10000)(ar:x.steps.length+1<=10000)(e6:G+7<=190000):gB H L n k w N (G+7) (x.acc k hO ce br bz bf bA r at_):=
 have e1:(x.log++[r]).length=x.log.length+1:=by simp
 have e2:(x.steps++[at_]).length=x.steps.length+1:=by simp
 have gX:=h.log
 have gr:=h.steps
 have kT:=h.gone
 {la:=h.la,i7:=h.i7,code:=h.code,lc:=h.lc,bt:=⟨h.bt.1,h.bt.2.1,h.bt.2.2.1,(nJ ..).trans h.bt.2.2.2⟩,nz:=h.nz,bN:=h.bN,wn:=h.wn,k4:=h.k4,log:=⟨by show x.h.aM+1=(x.log++[r]).length;omega,O,by show(x.log++[r]).length<=_;omega⟩,steps:=⟨by show x.h.ns+1=(x.steps++[at_]).length;omega,V,by show(x.steps++[at_]).length<=_;omega⟩,gone:=⟨h.gone.1,h.gone.2.1,h.gone.2.2.1,by show x.gone.length+7*(x.log++[r]).length<=_;omega⟩,rd:=h.rd,fs:=h.fs,ct:=⟨h.ct.dE,h.ct.at_,h.ct.got,h.ct.wS⟩,bp:=h.bp,N:=h.N,G:=e6}
def ek.ee(x:ek)(k:Nat):ek:=⟨x.m,x.cE.set k x.h,x.cf,x.h,x.got,x.log,x.steps,x.gone,x.fs,x.bp⟩
theorem gB.ee(h:gB H L n k w N G x)(e6:G+7<=190000):gB H L n k w N (G+7) (x.ee k):=
 {la:=h.la,i7:=h.i7,code:=h.code,lc:=h.lc,bt:=⟨h.bt.1,h.bt.2.1,h.bt.2.2.1,(nJ ..).trans h.bt.2.2.2⟩,nz:=h.nz,bN:=h.bN,wn:=h.wn,k4:=h.k4,log:=h.log,steps:=h.steps,gone:=⟨h.gone.1,h.gone.2.1,h.gone.2.2.1,jr h.gone.2.2.2 (Nat.le_add_right _ _)⟩,rd:=h.rd,fs:=h.fs,ct:=h.ct,bp:=h.bp,N:=h.N,G:=e6}
structure B8(H:World)(L:aw)(n k w N G:Nat)(x:ek)(mem:List Int)(ao:List k7)(bT:ek)(cp:aw)(sL:List Int)(hq:List k7):Prop where
 eq:rW x.m.c x.m.la k w (x.c w) mem ao= .inr (bT.c w,sL,hq)
 ok:gB H cp n k w (N+3) (G+7) bT
 bp:bT.bp.length<=N+3
 a1:z0 bT sL hq
 fix:bT.m.fix={x.m.fix with hO:=bT.m.hO,ne:=bT.m.ne,ce:=bT.m.ce}
 cE:bT.cE=x.cE.set k bT.h
 cf:bT.cf=x.cf.set w (bT.cf.getD w 0)
 sub:∀E,dc H cp E->dc H L E
theorem aqG (ad:z0 x mem ao) (jW:ao.length+1<=100000) {a:c4} (ju:eH (g6 x.m.la k x.log) x.gone x.h.op= .ask a) (af:(g2 mem a).2.2=0) {hO:Option Addr} {ce:Nat} {br:Option Addr} {bz:Nat} {bf:Option Addr} {bA:Nat} (Mk:x.m.ne+1<=ce) {bT:ek} {cp:aw}
  (aC:gB H cp n k w (N+3) (G+7) bT) (kU:bT.bp.length<=N+3) (aj:bT.c w=ja x.m.c x.m.la k w 3 ((x.acc k hO ce br bz bf bA (g2 mem a).2.1 x.m.ne).c w)) (ar:ql (x.acc k hO ce br bz bf bA (g2 mem a).2.1 x.m.ne) bT w k) (zf:∀E,dc H cp E->dc H L E):
  B8 H L n k w N G x mem ao bT cp (g2 mem a).1 (ao++[⟨w,k,a,(g2 mem a).2.1⟩]):=by
 have L8:bT.m.gT=x.m.gT:=(rq ar.m).gT
 have AQ:bT.m.dO=x.m.dO:=(rq ar.m).dO
 have pS:bT.m.gP=x.m.gP:=(rq ar.m).gP
 have kr:bT.m.ne=x.m.ne+1:=(rq ar.m).ne
 have E8:bT.m.ce=ce:=(rq ar.m).ce
 have L6:bT.m.hO=hO:=(rq ar.m).hO
 have O:=ad.mem
 have V:=ad.ao
 refine⟨?_,aC,kU,⟨⟨by rw[pS,L8];exact O.1,by rw[AQ,JS];exact O.2.1,by rw[AQ,pS];exact O.2.2.1,by rw[AQ];exact O.2.2.2⟩,⟨by rw[kr];simp only[gC,oM,pz];omega,by rw[kr,E8];exact Mk,by simp only[gC,oM,pz];omega⟩⟩,?_,?_,ar.cf,zf⟩
 ·unfold rW
  rw[show eH (g6 x.m.la k (x.c w).log) (x.c w).gone (x.c w).s.op= .ask a from ju]
  show(if(g2 mem a).2.2=0 then _ else _)=_
  rw[if_pos af,aj,<-V.1]
  rfl
 ·rw[ar.m,kr,E8,L6]
  rfl
 ·rw[ar.cE]
  show(x.cE.set k _).set k _=_
  rw[B5]
theorem aqH (ad:z0 x mem ao) {o:cI} {gs:List cz} (h5:eH (g6 x.m.la k x.log) x.gone x.h.op= .done o gs) {bT:ek} {cp cX:aw}
  (aC:gB H cp n k w (N+3) (G+7) bT) (kU:bT.bp.length<=N+3) (aj:bT.c w=ja x.m.c x.m.la k w 3 ((x.ee k).c w)) (ar:ql (x.ee k) bT w k) (zf:∀E,dc H cp E->dc H (cX++L) E):B8 H L n k w N G x mem ao bT cp mem ao:=by
 have L8:bT.m.gT=x.m.gT:=(rq ar.m).gT
 have AQ:bT.m.dO=x.m.dO:=(rq ar.m).dO
 have pS:bT.m.gP=x.m.gP:=(rq ar.m).gP
 have kr:bT.m.ne=x.m.ne:=(rq ar.m).ne
 have E8:bT.m.ce=x.m.ce:=(rq ar.m).ce
 have L6:bT.m.hO=x.m.hO:=(rq ar.m).hO
 have O:=ad.mem
 have V:=ad.ao
 refine⟨?_,aC,kU,⟨⟨by rw[pS,L8];exact O.1,by rw[AQ];exact O.2.1,by rw[AQ,pS];exact O.2.2.1,by rw[AQ];exact O.2.2.2⟩,⟨by rw[kr];exact V.1,by rw[kr,E8];exact V.2.1,V.2.2⟩⟩,?_,?_,ar.cf,fun E a2=>(zf E a2).right⟩
 ·unfold rW
  rw[show eH (g6 x.m.la k (x.c w).log) (x.c w).gone (x.c w).s.op= .done o gs from h5,aj]
  rfl
 ·rw[ar.m,kr,E8,L6]
  rfl
 ·rw[ar.cE]
  show(x.cE.set k _).set k _=_
  rw[B5]
theorem alk{bT:ek}(h:bT.m.fix=x.m.fix):rK bT mem=rK x mem:=by
 have:=rq h
 unfold rK
 rw[this.gT,this.dO,this.gP]
theorem adF{bT:ek}(h:bT.m.fix=x.m.fix):rp bT ao=rp x ao:=by
 have:=rq h
 unfold rp
 rw[this.hO,this.ne,this.ce]
theorem JE (aT:gB H L n k w N G x) (y3:x.cE[k]?=some x.h) (kU:x.bp.length<=N) (eC:N+3<=90000)
  (U:∀bT cp,gB H cp n k w (N+3) G bT->bT.bp.length<=N+3->bT.c w=ja x.m.c x.m.la k w 3 (x.c w)->ql x bT w k->bT.cE[k]?=some bT.h->(∀E,dc H cp E->dc H L E)->K (.tuple #[]) (Y H w0 X (i5 bT pm cp (rK bT mem::rp bT ao::b5)))):
  a4 H w0 X (lW x pm mem ao L b5) 65 #[ae pm,J (w:Int),J (k:Int)] K Z:=
 ay.imp aJ.WR (apS aT y3 kU eC (fun bT cp O V aa ag a6 bU=>by
  have:=U bT cp O V aa ag a6 bU
  rw[alk ag.m,adF ag.m] at this
  exact this))
theorem VZ{r:oP}:∀u∈hs r,u.oneCell'=true:=fun u aS=>by
 simp only[hs,mz,sa,or_false] at aS
 rcases aS with rfl|rfl<;>rfl
theorem Ro{e:k7}:∀u∈vI e,u.oneCell'=true:=fun u aS=>by
 simp only[vI,mz,sa,or_false] at aS
 rcases aS with rfl|rfl|rfl|rfl|rfl|rfl|rfl|rfl<;>rfl
theorem Jo{ck:Type}{f:ck->List Value}{xs:List ck}{a:ck}:xs.flatMap f++f a=(xs++[a]).flatMap f:=by simp
def ek.eV(x:ek)(w:Nat):ek:=⟨x.m,x.cE,x.cf,KJ x.h w,x.got,[],[],x.gone,x.fs,x.bp⟩
theorem aqC (aC:gB H L n k w N G x) (kU:x.bp.length<=N) (eC:N+3<=90000) (e6:G+7<=190000) (ad:z0 x mem ao) (jW:ao.length+1<=100000) (qC:x.log.length+1<=10000) (Ik:x.steps.length+1<=10000) (uL:x.cE[k]?=some x.h) (C5:x.cf.getD w 0=(k:Int)) (oq:¬(x.h.o0=16/\x.h.bl≠(w:Int)))
  (O:∀e,rW x.m.c x.m.la k w (ek.c x w) mem ao= .inl e->K (.tuple #[]) (Y H w0 X (lW {x with m:={x.m with cP:=true,err:=e,value:=0}} pm mem ao L b5)))
  (V:∀bT cp sL hq,B8 H L n k w N G x mem ao bT cp sL hq->K (.tuple #[]) (Y H w0 X (i5 bT pm cp (rK bT sL::rp bT hq::b5)))):
  a4 H w0 X (lW x pm mem ao L b5) 20 #[ae pm,J (w:Int)] K Z:=by
 refine a7 Xn ?_
 intro az aF
 obtain⟨⟨bO,iN⟩,uJ,o2,rD⟩:=aC.bt
 obtain⟨⟨sh,lj⟩,lK,HO,hU⟩:=aC.bN
 have iN:x.m.gm=some ⟨bO,0,none⟩:=iN
 have uJ:x.m.ec=n:=uJ
 have rD:x.cE.length=n:=rD
 have lj:x.m.eU=some ⟨sh,0,none⟩:=lj
 have lK:x.m.b6=n:=lK
 have hU:x.cf.length=n:=hU
 have rB:=aC.nz
 have SM:=aC.wn
 have H7:=aC.log
 have Fm:=aC.steps
 have H8:x.m.ne=ao.length/\x.m.ne<=x.m.ce/\ao.length<=100000:=ad.ao
 conv=>whnf
 repeat'((first
  |(show _/\_;first|(refine And.intro ?_ ?_))
  |(show ih _ _ _ _;first|(refine IS ?_)|(refine NM ?_))
  |(show gn _ _ _ _ _;first|(refine iP iN k rfl (show k<x.m.ec by omega) ?_)|(refine iP lj w rfl (show w<x.m.b6 by omega) ?_))
  |(show bk _ _ _ _;first|(refine uS ?_)|(refine IM ?_)|(refine A4 iN (dr _ (List.Mem.head _)) uL ?_)|(refine jx (xs:=x.cf) w lj (dr _ (dr _ (List.Mem.head _))) (h1 w) (show w<x.cf.length by omega) ?_;rw[C5]))
  |(show gN _ _ _;first|(refine gN.mk (ie.refl _) ?_)|(refine gN.mk (ie.imp (aJ.sub (JC x pm mem ao L cX b5))) ?_))
  |(refine hy.go ?_)
  |(refine pE.go ?_))<;>(try conv=>whnf))
 refine eS.on (X:=Bool) (fun q=> [(0,.v (ae pm)),(1,.v (J (w:Int))),(4,.v (J (k:Int))),(5,.p 5 0),(37,.v (.bool q))]) (fun _=> [(5,78,x.h.l)]) (fun _=>Y H az aF (lW x pm mem ao L b5)) (fun q=>q=false) ?_ ?_
 ·conv=>whnf
  exact wB
 intro q VW bd
 subst bd
 conv=>whnf
 repeat'((first
  |(show eB _ _ _ _;first|(refine st ?_))
  |(show _/\_;first|(refine And.intro ?_ ?_))
  |(show ih _ _ _ _;first|(refine IS ?_)|(refine NM ?_))
  |(show bk _ _ _ _;first|(refine uS ?_)|(refine IM ?_)|(refine A4 iN (dr _ (List.Mem.head _)) uL ?_)|(refine jx (xs:=x.cf) w lj (dr _ (dr _ (List.Mem.head _))) (h1 w) (show w<x.cf.length by omega) ?_;rw[C5]))
  |(refine hy.go ?_)
  |(refine pE.go ?_)
  |(intro r jN))<;>(try conv=>whnf))
 all_goals
  refine eS.on (X:=Bool×c4×aw) (fun y=> [(0,.v (ae pm)),(1,.v (J (w:Int))),(4,.v (J (k:Int))),(5,.p 5 0),(6,.p 6 0),(8,.v (.bool y.1))]) (fun y=> [(5,78,x.h.l),(6,136,y.2.1.l)]) (fun y=>Y H az aF (lW x pm mem ao (y.2.2++L) b5)) (fun y=>(y.1=false/\y.2.2=[]/\eH (g6 x.m.la k x.log) x.gone x.h.op= .ask y.2.1)\/(y.1=true/\∃o gs,eH (g6 x.m.la k x.log) x.gone x.h.op= .done o gs)) ?_ ?_
  ·conv=>whnf
   exact wB
  intro y j2 bV
  obtain⟨d,a,cX⟩:=y
  rcases bV with⟨rfl,rfl,ju⟩|⟨rfl,o,gs,h5⟩
  ·have ju:eH (g6 x.m.la k x.log) x.gone x.h.op= .ask a:=ju
   by_cases af:(g2 mem a).2.2=0
   ·conv=>whnf
    exact wB
   ·conv=>whnf
    exact wB
  ·have h5:eH (g6 x.m.la k x.log) x.gone x.h.op= .done o gs:=h5
   conv=>whnf
   exact wB
theorem aqB (aC:gB H L n k w N G (x.eV w)) (kU:x.bp.length<=N) (eC:N+3<=90000) (e6:G+7<=190000) (ad:z0 (x.eV w) mem ao) (jW:ao.length+1<=100000) (qC:x.log.length+1<=10000) (Ik:x.steps.length+1<=10000) (uL:x.cE[k]?=some x.h) (C5:x.cf.getD w 0=(k:Int)) (oq:x.h.o0=16/\x.h.bl≠(w:Int))
  (O:∀e,rW x.m.c x.m.la k w (ek.c (x.eV w) w) mem ao= .inl e->K (.tuple #[]) (Y H w0 X (lW {(x.eV w) with m:={x.m with cP:=true,err:=e,value:=0}} pm mem ao L b5)))
  (V:∀bT cp sL hq,B8 H L n k w N G (x.eV w) mem ao bT cp sL hq->K (.tuple #[]) (Y H w0 X (i5 bT pm cp (rK bT sL::rp bT hq::b5)))):
  a4 H w0 X (lW (x.eV w) pm mem ao L b5) 20 #[ae pm,J (w:Int)] K Z:=by
 refine a7 Xn ?_
 intro az aF
 obtain⟨⟨bO,iN⟩,uJ,o2,rD⟩:=aC.bt
 obtain⟨⟨sh,lj⟩,lK,HO,hU⟩:=aC.bN
 have iN:x.m.gm=some ⟨bO,0,none⟩:=iN
 have uJ:x.m.ec=n:=uJ
 have rD:x.cE.length=n:=rD
 have lj:x.m.eU=some ⟨sh,0,none⟩:=lj
 have lK:x.m.b6=n:=lK
 have hU:x.cf.length=n:=hU
 have rB:=aC.nz
 have SM:=aC.wn
 have H7:=aC.log
 have Fm:=aC.steps
 have H8:x.m.ne=ao.length/\x.m.ne<=x.m.ce/\ao.length<=100000:=ad.ao
 conv=>whnf
 repeat'((first
  |(show _/\_;first|(refine And.intro ?_ ?_))
  |(show ih _ _ _ _;first|(refine IS ?_)|(refine NM ?_))
  |(show gn _ _ _ _ _;first|(refine iP iN k rfl (show k<x.m.ec by omega) ?_)|(refine iP lj w rfl (show w<x.m.b6 by omega) ?_))
  |(show bk _ _ _ _;first|(refine uS ?_)|(refine IM ?_)|(refine A4 iN (dr _ (List.Mem.head _)) uL ?_)|(refine jx (xs:=x.cf) w lj (dr _ (dr _ (List.Mem.head _))) (h1 w) (show w<x.cf.length by omega) ?_;rw[C5]))
  |(show gN _ _ _;first|(refine gN.mk (ie.refl _) ?_)|(refine gN.mk (ie.imp (aJ.sub (JC (x.eV w) pm mem ao L cX b5))) ?_))
  |(refine hy.go ?_)
  |(refine pE.go ?_))<;>(try conv=>whnf))
 refine eS.on (X:=Bool) (fun q=> [(0,.v (ae pm)),(1,.v (J (w:Int))),(4,.v (J (k:Int))),(5,.p 5 0),(37,.v (.bool q))]) (fun _=> [(5,78,x.h.l)]) (fun _=>Y H az aF (lW (x.eV w) pm mem ao L b5)) (fun q=>q=true) ?_ ?_
 ·conv=>whnf
  exact wB
 intro q VW bd
 subst bd
 conv=>whnf
 repeat'((first
  |(show eB _ _ _ _;first|(refine st ?_))
  |(show _/\_;first|(refine And.intro ?_ ?_))
  |(show ih _ _ _ _;first|(refine IS ?_)|(refine NM ?_))
  |(show bk _ _ _ _;first|(refine uS ?_)|(refine IM ?_)|(refine A4 iN (dr _ (List.Mem.head _)) uL ?_)|(refine jx (xs:=x.cf) w lj (dr _ (dr _ (List.Mem.head _))) (h1 w) (show w<x.cf.length by omega) ?_;rw[C5]))
  |(refine hy.go ?_)
  |(refine pE.go ?_)
  |(intro r jN))<;>(try conv=>whnf))
 all_goals
  refine eS.on (X:=Bool×c4×aw) (fun y=> [(0,.v (ae pm)),(1,.v (J (w:Int))),(4,.v (J (k:Int))),(5,.p 5 0),(6,.p 6 0),(8,.v (.bool y.1))]) (fun y=> [(5,78,(x.eV w).h.l),(6,136,y.2.1.l)]) (fun y=>Y H az aF (lW (x.eV w) pm mem ao (y.2.2++L) b5)) (fun y=>(y.1=false/\y.2.2=[]/\eH (g6 x.m.la k (x.eV w).log) x.gone (x.eV w).h.op= .ask y.2.1)\/(y.1=true/\∃o gs,eH (g6 x.m.la k (x.eV w).log) x.gone (x.eV w).h.op= .done o gs)) ?_ ?_
  ·conv=>whnf
   exact wB
  intro y j2 bV
  obtain⟨d,a,cX⟩:=y
  rcases bV with⟨rfl,rfl,ju⟩|⟨rfl,o,gs,h5⟩
  ·have ju:eH (g6 x.m.la k (x.eV w).log) x.gone (x.eV w).h.op= .ask a:=ju
   by_cases af:(g2 mem a).2.2=0
   ·conv=>whnf
    exact wB
   ·conv=>whnf
    exact wB
  ·have h5:eH (g6 x.m.la k (x.eV w).log) x.gone (x.eV w).h.op= .done o gs:=h5
   conv=>whnf
   exact wB
end
structure eP where
 s:cm
 got:List Int
 log:List oP
 steps:List Int
 gone:List cz
def eP.bE(y:eP):eP:=⟨y.s.bE,y.got,y.log,y.steps,y.gone⟩
structure hG where
 ct:List eP
 cf:List Int
 al:List Bool
 mem:List Int
 ao:List k7
 bp:List (List Value)
 fs:List a3
 cP:Bool
 value:Int
 err:Int
def ND(y:eP)(fs:List a3)(bN:Int)(bp:List (List Value))(cP:Bool)(value err:Int):lA:=⟨y.s,y.got,y.log,y.steps,y.gone,fs,bN,bp,cP,value,err⟩
def lA.F6(r:lA):eP:=⟨r.s,r.got,r.log,r.steps,r.gone⟩
def vv(w:Nat)(y:lA):lA:=if y.s.o0=16/\y.s.bl≠(w:Int) then{y with s:=KJ y.s w,log:=[],steps:=[]} else y
def nd(c:cr)(la:c8)(w:Nat)(x:hG):hG:=match x.ct[(x.cf.getD w 0).toNat]? with
 |none=>x
 |some y=>match rW c la (x.cf.getD w 0).toNat w (vv w (ND y x.fs (x.cf.getD w 0) x.bp x.cP x.value x.err)) x.mem x.ao with
  | .inl e=>{x with cP:=true,err:=e,value:=0}
  | .inr (r,mem,ao)=>⟨x.ct.set (x.cf.getD w 0).toNat r.F6,x.cf.set w r.bN,x.al,mem,ao,r.bp,r.fs,r.cP,r.value,r.err⟩
structure gi where
 m:hz
 ct:List eP
 cf:List Int
 al:List Bool
 mem:List Int
 ao:List k7
 bp:List (List Value)
 fs:List a3
def gi.c(x:gi):hG:=⟨x.ct.map eP.bE,x.cf,x.al,x.mem,x.ao,x.bp,x.fs.map a3.bE,x.m.cP,x.m.value,x.m.err⟩
def k3(y:eP):aw:=[(.slice y.s.bK y.s.aM y.s.bD,.row 129 2 (y.log.flatMap hs)),(.slice y.s.b4 y.s.ns y.s.cs,.row 3 1 (is y.steps))]
def gi.nA(x:gi)(y:eP):ek:=⟨x.m,x.ct.map eP.s,x.cf,y.s,y.got,y.log,y.steps,y.gone,x.fs,x.bp⟩
def ag(m:hz)(cE:List cm)(cf:List Int)(bp:List (List Value))(pm:Nat):aw:=[(ae pm,.cs 85 m.l),(.slice m.gm m.ec m.hj,.row 78 19 (cE.flatMap cm.l)),(.slice m.eU m.b6 m.ci,.row 3 1 (is cf)),(.slice m.fY m.bB m.dD,.row 133 10 bp.flatten)]
def zo(m:hz)(mem:List Int):Value×aY:=(.slice m.gT m.dO m.gP,.row 3 1 (is mem))
def yN(m:hz)(ao:List k7):Value×aY:=(.slice m.hO m.ne m.ce,.row 138 8 (ao.flatMap vI))
def qq(m:hz)(al:List Bool):Value×aY:=(.slice m.ed m.ev m.bp,.row 4 1 (al.map Value.bool))
def g9(x:gi)(pm:Nat)(L b5:aw):aw:=ag x.m (x.ct.map eP.s) x.cf x.bp pm++(zo x.m x.mem::yN x.m x.ao::qq x.m x.al::(x.ct.flatMap k3++(L++b5)))
theorem U3{ck:Type}(j6 jI mR wK L b5:List ck)(m e a:ck):List.Perm (j6++(m::e::a::((mR++(jI++wK))++(L++b5)))) ((j6++jI)++(m::e::(L++(a::((mR++wK)++b5))))):=by
 classical
 rw[B4]
 intro x
 simp only[B1,B2]
 omega
theorem amQ{ck:Type}(j6 jI mR wK L b5:List ck)(m e a:ck):List.Perm ((j6++jI)++(L++(m::e::(a::((mR++wK)++b5))))) (j6++(m::e::a::((mR++(jI++wK))++(L++b5)))):=by
 classical
 rw[B4]
 intro x
 simp only[B1,B2]
 omega
structure GX(H:World)(L:aw)(n N G:Nat)(ne:Nat)(y:eP):Prop where
 log:y.s.aM=y.log.length/\y.s.aM<=y.s.bD/\y.log.length<=ne
 steps:y.s.ns=y.steps.length/\y.s.ns<=y.s.cs/\y.steps.length<=ne
 gone:y.s.ew=y.gone.length/\y.s.ew<=y.s.h3/\(y.s.ho=none->y.s.ew=0)/\y.gone.length+7*y.log.length<=G
 rd:∀E,dc H L E->dU E E.heap.size y.s.ho (y.gone.flatMap ft)/\fG E y.s.gA y.s.eM y.s.gJ y.got
 ct:vt n N y.s y.got
structure iV(H:World)(L:aw)(n N G:Nat)(x:gi):Prop where
 la:ig x.m.la
 i7:x.m.la.bt=(n:Int)
 code:hP H x.m.c
 lc:∀fn,(b8 x.m.c fn).locals<=1000
 bt:(∃b,x.m.gm=some ⟨b,0,none⟩)/\x.m.ec=n/\n<=x.m.hj/\x.ct.length=n
 bN:(∃b,x.m.eU=some ⟨b,0,none⟩)/\x.m.b6=n/\n<=x.m.ci/\x.cf.length=n
 k4:∀w,w<n->0<=x.cf.getD w 0/\x.cf.getD w 0<n
 al:(∃b,x.m.ed=some ⟨b,0,none⟩)/\x.m.ev=n/\n<=x.m.bp/\x.al.length=n
 ct:∀(k:Nat) (y:eP),x.ct[k]?=some y->GX H L n N G x.ao.length y
 rd:∀E,dc H L E->gM E x.m.bS x.m.aX x.m.bb x.fs
 fs:ky N x.fs
 bp:x.m.bB=x.bp.length/\x.m.bB<=x.m.dD/\x.bp.length<=N
 a1:(0<x.m.gP->∃b,x.m.gT=some ⟨b,0,none⟩)/\x.m.dO=x.mem.length/\x.m.dO<=x.m.gP/\x.m.dO<=1000000
 ao:x.m.ne=x.ao.length/\x.m.ne<=x.m.ce/\x.ao.length<=9000
 N:N<=80000
 G:G<=180000
section
variable{H:World}{L cp:aw}{n N G ne:Nat}{x:gi}{y:eP}
theorem GX.up(h:GX H L n N G ne y)(ar:∀E,dc H cp E->dc H L E){pA bG Un:Nat}(O:N<=pA)(V:G<=bG)(aa:ne<=Un):GX H cp n pA bG Un y:=
 ⟨by have:=h.log;omega,by have:=h.steps;omega,⟨h.gone.1,h.gone.2.1,h.gone.2.2.1,jr h.gone.2.2.2 V⟩,fun E a2=>h.rd E (ar E a2),⟨h.ct.dE,by have:=h.ct.at_;omega,by have:=h.ct.got;omega,h.ct.wS⟩⟩
theorem iV.nA(h:iV H L n N G x){k w:Nat}(bV:x.ct[k]?=some y)(au:w<n):gB H L n k w N G (x.nA y):=by
 have ar:=h.ct k y bV
 have af:=h.ao
 have lL:=h.bt
 obtain⟨U,_⟩:=l0.1 bV
 exact{la:=h.la,i7:=h.i7,code:=h.code,lc:=h.lc,bt:=⟨lL.1,lL.2.1,lL.2.2.1,by show(x.ct.map eP.s).length=n;rw[kz];exact lL.2.2.2⟩,nz:=by omega,bN:=h.bN,wn:=au,k4:=h.k4 w au,log:=⟨ar.log.1,ar.log.2.1,by have:=ar.log;show y.log.length<=_;omega⟩,steps:=⟨ar.steps.1,ar.steps.2.1,by have:=ar.steps;show y.steps.length<=_;omega⟩,gone:=ar.gone,rd:=fun E a2=>⟨(ar.rd E a2).1,(ar.rd E a2).2,h.rd E a2⟩,fs:=h.fs,ct:=ar.ct,bp:=⟨h.bp.1,h.bp.2.1,by have:=h.bp;have:=h.N;show x.bp.length<=_;omega⟩,N:=by have:=h.N;omega,G:=by have:=h.G;omega}
theorem gB.eV{k w:Nat}{x:ek}(h:gB H L n k w N G x):gB H L n k w N G (x.eV w):=
 {la:=h.la,i7:=h.i7,code:=h.code,lc:=h.lc,bt:=h.bt,nz:=h.nz,bN:=h.bN,wn:=h.wn,k4:=h.k4,log:=⟨rfl,Nat.le_refl _,cY _⟩,steps:=⟨rfl,Nat.le_refl _,cY _⟩,gone:=⟨h.gone.1,h.gone.2.1,h.gone.2.2.1,by have:=h.gone.2.2.2;show x.gone.length+7*0<=G;omega⟩,rd:=h.rd,fs:=h.fs,ct:=⟨h.ct.dE,h.ct.at_,h.ct.got,fun aT O=>h.ct.wS aT O⟩,bp:=h.bp,N:=h.N,G:=h.G}
def gi.jm(x:gi)(k:Nat)(bT:ek)(mem:List Int)(ao:List k7):gi:=⟨bT.m,x.ct.set k ⟨bT.h,bT.got,bT.log,bT.steps,bT.gone⟩,bT.cf,x.al,mem,ao,bT.bp,bT.fs⟩
theorem O9{c:cr}{la:c8}{k w:Nat}:∀(f:Nat) (x:lA),(ja c la k w f x).log.length<=x.log.length/\(ja c la k w f x).steps.length<=x.steps.length
 |0,x=>⟨Nat.le_refl _,Nat.le_refl _⟩
 |f+1,x=>by
  unfold ja
  split
  ·exact⟨Nat.le_refl _,Nat.le_refl _⟩
  split
  ·exact⟨Nat.le_refl _,Nat.le_refl _⟩
  ·rename_i o gs e
   have h:=O9 (c:=c) (la:=la) (k:=k) (w:=w) f (oF c la k w x o gs)
   have V:(oF c la k w x o gs).log.length<=x.log.length/\(oF c la k w x o gs).steps.length<=x.steps.length:=by
    unfold oF
    split
    ·exact⟨Nat.le_refl _,Nat.le_refl _⟩
    ·exact⟨cY _,cY _⟩
   omega
theorem WK{c:cr}{la:c8}{k w:Nat}{y r:lA}{mem sL:List Int}{ao hq:List k7}(h:rW c la k w y mem ao= .inr (r,sL,hq)):sL.length=mem.length/\((hq.length=ao.length+1/\r.log.length<=y.log.length+1/\r.steps.length<=y.steps.length+1)\/(hq=ao/\r.log.length<=y.log.length/\r.steps.length<=y.steps.length)):=by
 unfold rW at h
 split at h
 ·rename_i a e
  split at h
  ·injection h with h
   injection h with O V
   injection V with V aa
   have ar:=O9 (c:=c) (la:=la) (k:=k) (w:=w) 3 {y with s:={y.s with aM:=y.s.aM+1,ns:=y.s.ns+1},log:=y.log++[(g2 mem a).2.1],steps:=y.steps++[(ao.length:Int)]}
   rw[O] at ar
   simp only[gC,oM,pz] at ar
   subst V aa
   exact⟨JS,.inl ⟨by simp,ar.1,ar.2⟩⟩
  ·cases h
 ·injection h with h
  injection h with O V
  injection V with V aa
  have ar:=O9 (c:=c) (la:=la) (k:=k) (w:=w) 3 y
  rw[O] at ar
  subst V aa
  exact⟨rfl,.inr ⟨rfl,ar.1,ar.2⟩⟩
structure Yx(a b:hz):Prop where
 ed:a.ed=b.ed
 ev:a.ev=b.ev
 bp:a.bp=b.bp
 la:a.la=b.la
 c:a.c=b.c
theorem Ry{a b:hz}{A:Option Addr}{m k:Nat}(h:a.fix={b.fix with hO:=A,ne:=m,ce:=k}):Yx a b:=by
 have O:a.fix.ed=b.fix.ed:=by rw[h]
 have V:a.fix.ev=b.fix.ev:=by rw[h]
 have aa:a.fix.bp=b.fix.bp:=by rw[h]
 have ag:a.fix.la=b.fix.la:=by rw[h]
 have a6:a.fix.c=b.fix.c:=by rw[h]
 exact⟨O,V,aa,ag,a6⟩
theorem Ws{ck:Type}{l:List ck}{k:Nat}(h:k<l.length)(a:ck):l.set k a=l.take k++a::l.drop (k+1):=by rw[List.set_eq_take_append_cons_drop,if_pos h]
theorem iV.jm{w k:Nat}(h:iV H L n N G x)(au:w<n)(bV:x.ct[k]?=some y){z:ek}(b3:z.cE=x.ct.map eP.s/\z.cf=x.cf/\z.m=x.m/\z.log.length<=y.log.length/\z.steps.length<=y.steps.length){bT:ek}{mem:List Int}{ao:List k7}(aP:B8 H L n k w N G z x.mem x.ao bT cp mem ao)(jW:x.ao.length+1<=9000)(eC:N+3<=80000)(e6:G+7<=180000):iV H cp n (N+3) (G+7) (x.jm k bT mem ao):=by
 obtain⟨s3,q4,k5,vi,pt⟩:=b3
 have aK:=Ry aP.fix
 have aC:=aP.ok
 have rD:=h.bt.2.2.2
 obtain⟨U,_⟩:=l0.1 bV
 have Fp:=h.ct k y bV
 have hlen:=WK aP.eq
 have afU:ao.length<=x.ao.length+1/\x.ao.length<=ao.length/\bT.log.length<=ao.length/\bT.steps.length<=ao.length:=by
  have O:=Fp.log.2.2
  have V:=Fp.steps.2.2
  have e1:(bT.c w).log=bT.log:=rfl
  have e2:(bT.c w).steps=bT.steps:=rfl
  have cR:(z.c w).log=z.log:=rfl
  have dR:(z.c w).steps=z.steps:=rfl
  rw[e1,e2,cR,dR] at hlen
  rcases hlen.2 with⟨s9,ri,sd⟩|⟨s9,ri,sd⟩
  ·omega
  ·rw[s9];omega
 refine{la:=aC.la,i7:=aC.i7,code:=aC.code,lc:=aC.lc,bt:=⟨aC.bt.1,aC.bt.2.1,aC.bt.2.2.1,(nJ ..).trans rD⟩,bN:=aC.bN,k4:=fun w' bj=>?_,al:=⟨by rw[show(x.jm k bT mem ao).m.ed=x.m.ed from aK.ed.trans (by rw[k5])];exact h.al.1,by rw[show(x.jm k bT mem ao).m.ev=x.m.ev from aK.ev.trans (by rw[k5])];exact h.al.2.1,by rw[show(x.jm k bT mem ao).m.bp=x.m.bp from aK.bp.trans (by rw[k5])];exact h.al.2.2.1,h.al.2.2.2⟩,ct:=fun j GC a9=>?_,rd:=fun E a2=>(aC.rd E a2).2.2,fs:=aC.fs,bp:=⟨aC.bp.1,aC.bp.2.1,aP.bp⟩,a1:=aP.a1.mem,ao:=⟨aP.a1.ao.1,aP.a1.ao.2.1,by show ao.length<=_;omega⟩,N:=eC,G:=e6}
 ·show 0<=bT.cf.getD w' 0/\bT.cf.getD w' 0<n
  by_cases e:w'=w
  ·subst e;exact aC.k4
  ·rw[aP.cf,q4]
   have:=h.k4 w' bj
   rw[show(x.cf.set w (bT.cf.getD w 0)).getD w' 0=x.cf.getD w' 0 from by simp[List.getD,zY (Ne.symm e)]]
   exact this
 ·have a9:(x.ct.set k ⟨bT.h,bT.got,bT.log,bT.steps,bT.gone⟩)[j]?=some GC:=a9
  by_cases e:j=k
  ·subst e
   rw[q9 U] at a9
   injection a9 with a9
   subst a9
   exact⟨⟨aC.log.1,aC.log.2.1,by show bT.log.length<=ao.length;omega⟩,⟨aC.steps.1,aC.steps.2.1,by show bT.steps.length<=ao.length;omega⟩,aC.gone,fun E a2=>⟨(aC.rd E a2).1,(aC.rd E a2).2.1⟩,aC.ct⟩
  ·rw[zY (Ne.symm e)] at a9
   exact(h.ct j GC a9).up aP.sub S S afU.2.1
end
def O3(x:gi)(k:Nat):aw:=(x.ct.take k).flatMap k3++(x.ct.drop (k+1)).flatMap k3
theorem Wi{x:gi}{k:Nat}{y:eP}(bV:x.ct[k]?=some y):x.ct.flatMap k3=(x.ct.take k).flatMap k3++(k3 y++(x.ct.drop (k+1)).flatMap k3):=by
 obtain⟨U,e⟩:=l0.1 bV
 have ar:x.ct=x.ct.take k++y::x.ct.drop (k+1):=by
  rw[<-Ws U y]
  exact(O6 bV).symm
 conv=>lhs;rw[ar]
 rw[zX,qn]
theorem aJ.V1{x:gi}{pm k:Nat}{y:eP}{L b5:aw}(bV:x.ct[k]?=some y):aJ (g9 x pm L b5) (lW (x.nA y) pm x.mem x.ao L (qq x.m x.al::(O3 x k++b5))):=by
 unfold g9
 rw[Wi bV]
 exact aJ.perm (U3 (ag x.m (x.ct.map eP.s) x.cf x.bp pm) (k3 y) ((x.ct.take k).flatMap k3) ((x.ct.drop (k+1)).flatMap k3) L b5 (zo x.m x.mem) (yN x.m x.ao) (qq x.m x.al))
theorem amR{ck:Type}(j6 jI mR wK L b5:List ck)(m e a:ck):List.Perm ((j6++jI)++(m::e::(L++(a::((mR++wK)++b5))))) (j6++(m::e::a::((mR++(jI++wK))++(L++b5)))):=(U3 j6 jI mR wK L b5 m e a).symm
theorem aJ.WG{x:gi}{gR:hz}{pm k:Nat}{y:eP}{L b5:aw}(bV:x.ct[k]?=some y)(ad:gR.ed=x.m.ed/\gR.ev=x.m.ev/\gR.bp=x.m.bp):aJ (lW {x.nA y with m:=gR} pm x.mem x.ao L (qq x.m x.al::(O3 x k++b5))) (g9 {x with m:=gR} pm L b5):=by
 unfold g9
 rw[show(gi.mk gR x.ct x.cf x.al x.mem x.ao x.bp x.fs).ct.flatMap k3=_ from Wi bV]
 have e:qq gR x.al=qq x.m x.al:=by unfold qq;rw[ad.1,ad.2.1,ad.2.2]
 have h:=aJ.perm (amR (ag gR (x.ct.map eP.s) x.cf x.bp pm) (k3 y) ((x.ct.take k).flatMap k3) ((x.ct.drop (k+1)).flatMap k3) L b5 (zo gR x.mem) (yN gR x.ao) (qq x.m x.al))
 rw[<-e] at h
 rw[<-e]
 exact h
theorem aJ.TK{x:gi}{bT:ek}{pm k:Nat}{y:eP}{L b5:aw}{mem:List Int}{ao:List k7}(bV:x.ct[k]?=some y)(ad:bT.m.ed=x.m.ed/\bT.m.ev=x.m.ev/\bT.m.bp=x.m.bp)(ar:bT.cE=(x.ct.map eP.s).set k bT.h):aJ (i5 bT pm L (rK bT mem::rp bT ao::(qq x.m x.al::(O3 x k++b5)))) (g9 (x.jm k bT mem ao) pm L b5):=by
 obtain⟨U,_⟩:=l0.1 bV
 have e:qq bT.m x.al=qq x.m x.al:=by unfold qq;rw[ad.1,ad.2.1,ad.2.2]
 have e2:(x.jm k bT mem ao).ct.map eP.s=bT.cE:=by rw[ar];exact List.map_set ..
 have cR:(x.jm k bT mem ao).ct.flatMap k3=(x.ct.take k).flatMap k3++(k3 ⟨bT.h,bT.got,bT.log,bT.steps,bT.gone⟩++(x.ct.drop (k+1)).flatMap k3):=by
  show(x.ct.set k _).flatMap k3=_
  rw[Ws U,zX,qn]
 unfold g9
 rw[e2,cR]
 have h:=aJ.perm (amQ (ag bT.m bT.cE bT.cf bT.bp pm) (k3 ⟨bT.h,bT.got,bT.log,bT.steps,bT.gone⟩) ((x.ct.take k).flatMap k3) ((x.ct.drop (k+1)).flatMap k3) L b5 (zo bT.m mem) (yN bT.m ao) (qq x.m x.al))
 rw[<-e] at h
 rw[<-e]
 exact h
theorem aJ.eV{x:ek}{w pm:Nat}{mem:List Int}{ao:List k7}{L b5:aw}:aJ (lW x pm mem ao L b5) (lW (x.eV w) pm mem ao L ((.slice x.h.bK x.h.aM x.h.bD,.row 129 2 (x.log.flatMap hs))::(.slice x.h.b4 x.h.ns x.h.cs,.row 3 1 (is x.steps))::b5)):=by
 refine aJ.trans (aJ.trans (aJ.nil _ none 3 1) (aJ.nil _ none 129 2)) (aJ.perm ?_)
 show List.Perm (_::_::(vX x pm++(rK x mem::rp x ao::(L++b5)))) (vX (x.eV w) pm++(rK x mem::rp x ao::(L++(_::_::b5))))
 classical
 rw[B4]
 intro z
 simp only[vX,ek.eV,KJ,B1,B2,List.count_nil,List.flatMap_nil,is,List.map_nil]
 omega
theorem aJ.acU{x:ek}{gR:hz}{w pm:Nat}{mem:List Int}{ao:List k7}{L b5:aw}:aJ (lW {x.eV w with m:=gR} pm mem ao L ((.slice x.h.bK x.h.aM x.h.bD,.row 129 2 (x.log.flatMap hs))::(.slice x.h.b4 x.h.ns x.h.cs,.row 3 1 (is x.steps))::b5)) (lW {x with m:=gR} pm mem ao L b5):=by
 refine aJ.trans (aJ.sub (aE:=[(ae pm,.cs 85 gR.l),(.slice gR.gm gR.ec gR.hj,.row 78 19 (x.cE.flatMap cm.l)),(.slice gR.eU gR.b6 gR.ci,.row 3 1 (is x.cf)),(.slice gR.fY gR.bB gR.dD,.row 133 10 x.bp.flatten)]++(zo gR mem::yN gR ao::(L++((.slice x.h.bK x.h.aM x.h.bD,.row 129 2 (x.log.flatMap hs))::(.slice x.h.b4 x.h.ns x.h.cs,.row 3 1 (is x.steps))::b5)))) (.cons_cons _ (.cons_cons _ (.cons_cons _ (.cons_cons _ (.cons _ (.cons _ (List.Sublist.refl _)))))))) (aJ.perm ?_)
 show List.Perm _ (vX {x with m:=gR} pm++(zo gR mem::yN gR ao::(L++b5)))
 classical
 rw[B4]
 intro z
 simp only[vX,B1,B2,List.count_nil]
 omega
theorem akk{x:ek}{pm:Nat}{L b5:aw}{a b c d:Value×aY}:aJ (i5 x pm L (a::b::c::d::b5)) (i5 x pm L (a::b::b5)):=
 aJ.sub ((List.Sublist.refl _).append ((List.Sublist.refl _).append (.cons_cons _ (.cons_cons _ (.cons _ (.cons _ (List.Sublist.refl _)))))))
section
variable{H:World}{L cp:aw}{n N G:Nat}{x:gi}
theorem iV.ended(h:iV H L n N G x)(e v:Int):iV H L n N G {x with m:={x.m with cP:=true,err:=e,value:=v}}:=⟨h.la,h.i7,h.code,h.lc,h.bt,h.bN,h.k4,h.al,h.ct,h.rd,h.fs,h.bp,h.a1,h.ao,h.N,h.G⟩
theorem iV.mono(h:iV H L n N G x){pA bG:Nat}(O:N<=pA)(V:G<=bG)(aa:pA<=80000)(ag:bG<=180000):iV H L n pA bG x:=
 {la:=h.la,i7:=h.i7,code:=h.code,lc:=h.lc,bt:=h.bt,bN:=h.bN,k4:=h.k4,al:=h.al,ct:=fun k y bV=>(h.ct k y bV).up (fun E a2=>a2) O V (Nat.le_refl _),rd:=h.rd,fs:=h.fs.up O,bp:=⟨h.bp.1,h.bp.2.1,by have:=h.bp;omega⟩,a1:=h.a1,ao:=h.ao,N:=aa,G:=ag}
theorem WQ{c:cr}{la:c8}{k w:Nat}{y:eP}(bV:x.ct[k]?=some y)(ar:x.cf.getD w 0=(k:Int)):nd c la w x.c=match rW c la k w (vv w ((x.nA y).c w)) x.mem x.ao with
  | .inl e=>{x.c with cP:=true,err:=e,value:=0}
  | .inr (r,mem,ao)=>⟨x.c.ct.set k r.F6,x.cf.set w r.bN,x.al,mem,ao,r.bp,r.fs,r.cP,r.value,r.err⟩:=by
 have e1:(x.c.cf.getD w 0).toNat=k:=by show(x.cf.getD w 0).toNat=k;rw[ar];exact r8 k
 have e2:x.c.ct[k]?=some y.bE:=by show(x.ct.map eP.bE)[k]?=_;rw[oc,bV];rfl
 unfold nd
 rw[e1,e2]
 rfl
theorem aqO{k w:Nat}{y:eP}{bT:ek}{mem:List Int}{ao:List k7}(xr:bT.cf=x.cf.set w (bT.cf.getD w 0)):(x.jm k bT mem ao).c=⟨x.c.ct.set k (bT.c w).F6,x.cf.set w (bT.c w).bN,x.al,mem,ao,(bT.c w).bp,(bT.c w).fs,(bT.c w).cP,(bT.c w).value,(bT.c w).err⟩:=by
 show hG.mk ((x.ct.set k _).map eP.bE) bT.cf x.al mem ao bT.bp (bT.fs.map a3.bE) bT.m.cP bT.m.value bT.m.err=_
 rw[List.map_set]
 conv=>lhs;rw[xr]
 rfl
end
section
variable{H w0:World}{X:Nat->Prop}{L b5:aw}{K:Value->an->Prop}{Z:bF}{n N G pm w:Nat}{x:gi}
theorem V0 (h:iV H L n N G x) (au:w<n) (jW:x.ao.length+1<=9000) (eC:N+3<=80000) (e6:G+7<=180000)
  (U:∀de cp,iV H cp n (N+3) (G+7) de->de.c=nd x.m.c x.m.la w x.c->de.m.c=x.m.c->de.m.la=x.m.la->(∀E,dc H cp E->dc H L E)->K (.tuple #[]) (Y H w0 X (g9 de pm cp b5))):
  a4 H w0 X (g9 x pm L b5) 20 #[ae pm,J (w:Int)] K Z:=by
 have Ij:=h.k4 w au
 have rD:=h.bt.2.2.2
 obtain⟨k,ar⟩:=uc Ij.1
 have rB:k<n:=by omega
 obtain⟨y,bV⟩:∃y,x.ct[k]?=some y:=⟨_,List.getElem?_eq_getElem S⟩
 have aC:=h.nA bV au
 have Fp:=h.ct k y bV
 have uL:(x.nA y).cE[k]?=some (x.nA y).h:=by show(x.ct.map eP.s)[k]?=_;rw[oc,bV];rfl
 have kq:z0 (x.nA y) x.mem x.ao:=⟨h.a1,⟨h.ao.1,h.ao.2.1,by have:=h.ao;omega⟩⟩
 have CX:=Fp.log.2.2
 have Ff:=Fp.steps.2.2
 have tp:∀(z:ek),(z.cE=x.ct.map eP.s/\z.cf=x.cf/\z.m=x.m/\z.log.length<=y.log.length/\z.steps.length<=y.steps.length)->vv w ((x.nA y).c w)=z.c w->∀bT cp mem ao,B8 H L n k w N G z x.mem x.ao bT cp mem ao->iV H cp n (N+3) (G+7) (x.jm k bT mem ao)/\(x.jm k bT mem ao).c=nd x.m.c x.m.la w x.c/\bT.m.c=x.m.c/\bT.m.la=x.m.la/\(bT.m.ed=x.m.ed/\bT.m.ev=x.m.ev/\bT.m.bp=x.m.bp)/\bT.cE=(x.ct.map eP.s).set k bT.h:=by
  intro z b3 xv bT cp mem ao aP
  have aK:=Ry aP.fix
  obtain⟨s3,q4,k5,vi,pt⟩:=b3
  refine⟨h.jm au bV ⟨s3,q4,k5,vi,pt⟩ aP jW eC e6,?_,aK.c.trans (by rw[k5]),aK.la.trans (by rw[k5]),⟨aK.ed.trans (by rw[k5]),aK.ev.trans (by rw[k5]),aK.bp.trans (by rw[k5])⟩,by rw[aP.cE,s3]⟩
  have af:=aP.eq
  rw[k5] at af
  have xr:bT.cf=x.cf.set w (bT.cf.getD w 0):=by have:=aP.cf;rw[q4] at this;exact this
  rw[WQ bV ar,xv,af,aqO (y:=y) (w:=w) xr]
 have AL:∀(z:ek),z.m=x.m->vv w ((x.nA y).c w)=z.c w->∀e,rW z.m.c z.m.la k w (z.c w) x.mem x.ao= .inl e->gi.c {x with m:={x.m with cP:=true,err:=e,value:=0}}=nd x.m.c x.m.la w x.c:=by
  intro z qj xv e af
  rw[qj] at af
  rw[WQ bV ar,xv,af]
  rfl
 refine ay.post ?_
 by_cases oq:y.s.o0=16/\y.s.bl≠(w:Int)
 ·have xv:vv w ((x.nA y).c w)=((x.nA y).eV w).c w:=if_pos oq
  refine ay.imp (aJ.trans (aJ.V1 bV) (aJ.eV (w:=w))) (aqB (x:=x.nA y) aC.eV h.bp.2.2 S S ⟨kq.mem,kq.ao⟩ S (by show y.log.length+1<=_;omega) (by show y.steps.length+1<=_;omega) uL ar oq (fun e af=>?_) (fun bT cp mem ao aP=>?_))
  ·exact⟨_,_,rfl,aJ.trans aJ.acU (aJ.WG bV ⟨rfl,rfl,rfl⟩),U _ L ((h.ended e 0).mono S S eC e6) (AL _ rfl xv e af) rfl rfl fun E a2=>a2⟩
  ·obtain⟨f1,gk,kB,LI,w7,LJ⟩:=tp _ ⟨rfl,rfl,rfl,cY _,cY _⟩ xv bT cp mem ao aP
   exact⟨_,_,rfl,aJ.trans akk (aJ.TK bV w7 LJ),U _ cp f1 gk kB LI aP.sub⟩
 ·have xv:vv w ((x.nA y).c w)=(x.nA y).c w:=if_neg oq
  refine ay.imp (aJ.V1 bV) (aqC (x:=x.nA y) aC h.bp.2.2 S S kq S (by show y.log.length+1<=_;omega) (by show y.steps.length+1<=_;omega) uL ar oq (fun e af=>?_) (fun bT cp mem ao aP=>?_))
  ·exact⟨_,_,rfl,aJ.WG bV ⟨rfl,rfl,rfl⟩,U _ L ((h.ended e 0).mono S S eC e6) (AL _ rfl xv e af) rfl rfl fun E a2=>a2⟩
  ·obtain⟨f1,gk,kB,LI,w7,LJ⟩:=tp _ ⟨rfl,rfl,rfl,Nat.le_refl _,Nat.le_refl _⟩ xv bT cp mem ao aP
   exact⟨_,_,rfl,aJ.TK bV w7 LJ,U _ cp f1 gk kB LI aP.sub⟩
end
end Go.Proofs.YtcflcebplhdcpaaGreat
