/- Lemmas, part 42; each states its own conditions. -/
import Derived.Test.YtcflcebplhdcpaaGreatL34
import Derived.Test.YtcflcebplhdcpaaGreatL41
namespace Go.Proofs.YtcflcebplhdcpaaGreat
open Go.RowKit
set_option linter.unusedSimpArgs false
set_option linter.unusedVariables false
set_option maxRecDepth 100000
set_option maxHeartbeats 16000000
structure k7 where
 dP:Int
 apx:Int
 a:c4
 r:oP
def vI(e:k7):List Value:=[J e.dP,J e.apx,J e.a.kind,J e.a.cell,J e.a.fk,J e.a.zq,J e.r.1,.bool e.r.2]
structure lA where
 s:cm
 got:List Int
 log:List oP
 steps:List Int
 gone:List cz
 fs:List a3
 bN:Int
 bp:List (List Value)
 cP:Bool
 value:Int
 err:Int
def cm.op(s:cm):dp:=⟨s.o0,s.o1,s.aQ,s.bl⟩
def g6(la:c8)(k:Nat)(log:List oP):aI:=⟨la,k,log,none,0,0⟩
def yD(k:Nat)(x:lA)(o:cI):List (List Value):=if 1<=x.s.o0/\x.s.o0<=7 then x.bp++[jP k x.s.op x.steps o] else x.bp
def oF(c:cr)(la:c8)(k dP:Nat)(x:lA)(o:cI)(gs:List cz):lA:=
 match mv c la.bt k dP {x.s with ew:=gs.length} x.got x.fs o with
 | .fK e v=>{x with bN:=k,bp:=yD k x o,cP:=true,value:=v,err:=e}
 | .go s got fs bN=>⟨s,got,[],[],gs,fs,bN,yD k x o,x.cP,x.value,x.err⟩
def ja(c:cr)(la:c8)(k dP:Nat):Nat->lA->lA
 |0,x=>x
 |n+1,x=>if x.cP=true then x else match eH (g6 la k x.log) x.gone x.s.op with
  | .ask _=>x
  | .done o gs=>ja c la k dP n (oF c la k dP x o gs)
structure ek where
 m:hz
 cE:List cm
 cf:List Int
 h:cm
 got:List Int
 log:List oP
 steps:List Int
 gone:List cz
 fs:List a3
 bp:List (List Value)
def ek.c(x:ek)(w:Nat):lA:=⟨x.h.bE,x.got,x.log,x.steps,x.gone,x.fs.map a3.bE,x.cf.getD w 0,x.bp,x.m.cP,x.m.value,x.m.err⟩
def vX(x:ek)(pm:Nat):aw:=[(ae pm,.cs 85 x.m.l),(.slice x.m.gm x.m.ec x.m.hj,.row 78 19 (x.cE.flatMap cm.l)),(.slice x.m.eU x.m.b6 x.m.ci,.row 3 1 (is x.cf)),(.slice x.m.fY x.m.bB x.m.dD,.row 133 10 x.bp.flatten),(.slice x.h.bK x.h.aM x.h.bD,.row 129 2 (x.log.flatMap hs)),(.slice x.h.b4 x.h.ns x.h.cs,.row 3 1 (is x.steps))]
def IJ(x:ek)(pm:Nat)(L b5:aw):aw:=[(ae pm,.cs 85 x.m.l),(.slice x.m.gm x.m.ec x.m.hj,.row 78 19 (x.cE.flatMap cm.l)),(.slice x.m.eU x.m.b6 x.m.ci,.row 3 1 (is x.cf)),(.slice x.m.fY x.m.bB x.m.dD,.row 133 10 x.bp.flatten),(.slice none 0 0,.row 129 2 []),(.slice none 0 0,.row 3 1 [])]++(L++b5)
theorem aJ.acx{a b c d e f:Value×aY}{R:aw}(br bf:Option Addr)(t1 t2:TypeId)(s1 aV:Nat):aJ (a::b::c::d::e::f::R) (a::b::c::d::(.slice br 0 0,.row t1 s1 [])::(.slice bf 0 0,.row t2 aV [])::R):=by
 refine aJ.trans (aJ.sub (aE:=a::b::c::d::R) (.cons_cons _ (.cons_cons _ (.cons_cons _ (.cons_cons _ (.cons _ (.cons _ (.refl _)))))))) ?_
 refine aJ.trans (aJ.Bc [a,b,c,d] bf t2 aV) ?_
 exact aJ.Bc [a,b,c,d] br t1 s1
def me(s:cm)(A:Option Addr)(n c:Nat):cm:=⟨s.phase,s.at_,s.task,s.hN,s.iA,s.gZ,s.gG,s.hl,s.j1,s.p3,s.gA,s.eM,s.gJ,s.o0,s.o1,s.aQ,s.bl,none,0,0,none,0,0,A,n,c,s.hold⟩
theorem acy{s:cm}{A:Option Addr}{n c:Nat}(h:s.bK=none/\s.aM=0/\s.bD=0/\s.b4=none/\s.ns=0/\s.cs=0/\s.ho=A/\s.ew=n/\s.h3=c):me s A n c=s:=by
 obtain⟨O,V,aa,ag,a6,bU,dh,cT,fz⟩:=h
 cases s
 simp only at O V aa ag a6 bU dh cT fz
 simp only[me,O,V,aa,ag,a6,bU,dh,cT,fz]
def i5(x:ek)(pm:Nat)(L b5:aw):aw:=vX x pm++(L++b5)
theorem TH{x:ek}{pm:Nat}{L b5 aE:aw}:aJ (aE++i5 x pm L b5) (i5 x pm (aE++L) b5):=by
 rw[i5,i5,ob aE L b5]
 exact aJ.swap
structure gB(H:World)(L:aw)(n k w N G:Nat)(x:ek):Prop where
 la:ig x.m.la
 i7:x.m.la.bt=(n:Int)
 code:hP H x.m.c
 lc:∀fn,(b8 x.m.c fn).locals<=1000
 bt:(∃b,x.m.gm=some ⟨b,0,none⟩)/\x.m.ec=n/\n<=x.m.hj/\x.cE.length=n
 nz:k<n
 bN:(∃b,x.m.eU=some ⟨b,0,none⟩)/\x.m.b6=n/\n<=x.m.ci/\x.cf.length=n
 wn:w<n
 k4:0<=x.cf.getD w 0/\x.cf.getD w 0<n
 log:x.h.aM=x.log.length/\x.h.aM<=x.h.bD/\x.log.length<=10000
 steps:x.h.ns=x.steps.length/\x.h.ns<=x.h.cs/\x.steps.length<=10000
 gone:x.h.ew=x.gone.length/\x.h.ew<=x.h.h3/\(x.h.ho=none->x.h.ew=0)/\x.gone.length+7*x.log.length<=G
 rd:∀E,dc H L E->dU E E.heap.size x.h.ho (x.gone.flatMap ft)/\fG E x.h.gA x.h.eM x.h.gJ x.got/\gM E x.m.bS x.m.aX x.m.bb x.fs
 fs:ky N x.fs
 ct:vt n N x.h x.got
 bp:x.m.bB=x.bp.length/\x.m.bB<=x.m.dD/\x.bp.length<=200000
 N:N<=90000
 G:G<=190000
theorem dc.right{H E:World}{L M:aw}(h:dc H (L++M) E):dc H M E:=h.less fun _ af=>db _ af
theorem dc.left{H E:World}{L M:aw}(h:dc H (L++M) E):dc H L E:=h.less fun _ af=>List.mem_append_left _ af
theorem dc.nA{H E:World}{x:ek}{pm:Nat}{L b5:aw}(h:dc H (i5 x pm L b5) E):dc H L E:=h.right.left
section
variable{H w0:World}{X:Nat->Prop}{K:Value->an->Prop}{Z:bF}{L b5:aw}{n k w N G pm:Nat}{x:ek}
theorem TI (h:gB H L n k w N G x)
  (cl:∀a,eH (g6 x.m.la k x.log) x.gone x.h.op= .ask a->K (.tuple #[.agg a.l.toArray,.agg #[J 0,.bool false,J 0,J 0,.slice none 0 0],.bool false]) (Y H w0 X (i5 x pm L b5)))
  (HQ:∀o gs aR aN qm,eH (g6 x.m.la k x.log) x.gone x.h.op= .done o gs->gs.length<=aN->(aR=none->gs.length=0)->(∀E,dc H (qm++L) E->dU E E.heap.size aR (gs.flatMap ft))->K (.tuple #[.agg #[J 0,J 0,J 0,J 0],.agg (lp o aR gs.length aN).toArray,.bool true]) (Y H w0 X (i5 x pm (qm++L) b5))):
  a4 H w0 X (i5 x pm L b5) 63 #[.agg x.m.la.l.toArray,J (k:Int),.slice x.h.ho x.h.ew x.h.h3,.agg #[J x.h.o0,J x.h.o1,J x.h.aQ,J x.h.bl],.slice x.h.bK x.h.aM x.h.bD] K Z:=by
 refine ay.post ?_
 refine ay.anchor [] _ tx.dg rfl (fun E w fV a2=>?_)
 have rC:=h.rd E a2.nA
 obtain⟨j2,lU,rQ,Bq⟩:=a2.row x.h.bK x.h.aM x.h.bD 129 2 (x.log.flatMap hs) b7
 have H7:=h.log
 have aZ:=h.gone
 have e6:=h.G
 refine anE (k:=⟨x.m.la,k,x.log,x.h.bK,x.h.aM,x.h.bD⟩) (gs:=x.gone) (g:=⟨false,x.h.ho,x.h.ew,x.h.h3⟩) (op:=x.h.op) ⟨h.la,cY _,H7.1,H7.2.1,by show x.log.length<=_;omega,j2,aZ.1,aZ.2.1,by show x.gone.length<=_;omega,aZ.2.2.1,fun _=>rC.1⟩ (by show x.log.length<=_;omega) S ?_
 rw[anv]
 show oO E w fV [] _ x.gone _ (eH (g6 x.m.la k x.log) x.gone x.h.op)
 cases e:eH (g6 x.m.la k x.log) x.gone x.h.op with
 |ask a=>exact hR.go (aE:=[]) ⟨_,_,rfl,aJ.refl _,cl a e⟩
 |done o gs=>
  refine⟨fun aR aN aj b0=>hR.go (aE:=[(.slice aR gs.length aN,.row 187 2 (gs.flatMap ft))]) ⟨_,_,rfl,aJ.sink (vX x pm) (L++b5),HQ o gs aR aN [(.slice aR gs.length aN,.row 187 2 (gs.flatMap ft))] e aj (fun aT=>?_) (fun E a2=>(a2.row _ _ _ 187 2 _ (List.Mem.head _)).1)⟩,fun aB=>hR.go (aE:=[]) ⟨_,_,rfl,aJ.refl _,?_⟩⟩
  ·rcases Nat.eq_zero_or_pos aN with b3|b3
   ·omega
   ·obtain⟨b,ab⟩:=b0 b3
    rw[ab] at aT
    cases aT
  ·have fu:x.h.ew=gs.length:=by rw[aB];exact aZ.1
   have:=HQ o gs x.h.ho x.h.h3 [] e S (fun aT=>by have:=aZ.2.2.1 aT;omega) (fun E a2=>by rw[aB];exact(h.rd E a2).1)
   rw[<-fu] at this
   exact this
theorem akj(h:gB H L n k w N G x){u:cI}{A:Option Addr}{eE vC:Nat}(U:K (.agg (jP k x.h.op x.steps u).toArray) (Y H w0 X (i5 x pm L b5))):
  a4 H w0 X (i5 x pm L b5) 103 #[J (k:Int),.agg x.h.l.toArray,.agg (lp u A eE vC).toArray] K Z:=
 ay.anchor [] _ F0.dg rfl (fun E w fV a2=>abY (a2.kg (t:=3) b7 (by have:=h.steps;omega)) (hR.go (aE:=[]) U))
theorem TJ (h:gB H L n k w N G x) {u:ug} (aS:u.ew<=u.h3) (fi:x.h.o0=10->u.err=0\/u.err=1\/u.err=16)
  (O:∀e v aE,mv x.m.c x.m.la.bt k w {x.h.bE with ew:=u.ew} x.got (x.fs.map a3.bE) u.o= .fK e v->K (.agg (q2 x.h x.m.bS x.m.aX x.m.bb k true e v).toArray) (Y H w0 X (i5 x pm (aE++L) b5)))
  (V:∀s' ni nB nt gu gq bN aE,mv x.m.c x.m.la.bt k w {x.h.bE with ew:=u.ew} x.got (x.fs.map a3.bE) u.o= .go (me s' u.ho u.ew u.ew).bE gu (gq.map a3.bE) bN->(∀E,dc H (aE++L) E->fG E s'.gA s'.eM s'.gJ gu/\gM E ni nB nt gq)->
   K (.agg (q2 (me s' u.ho u.ew u.ew) ni nB nt bN false 0 0).toArray) (Y H w0 X (IJ x pm (aE++L) b5))):
  a4 H w0 X (i5 x pm L b5) 104 #[.agg x.m.c.l.toArray,.agg x.m.la.l.toArray,.agg x.h.l.toArray,.slice x.m.bS x.m.aX x.m.bb,J (k:Int),J (w:Int),.agg u.l.toArray] K Z:=by
 refine ay.post ?_
 refine ay.anchor [] _ IC.dg rfl (fun E be fV a2=>?_)
 have rC:=h.rd E a2.nA
 have eC:=h.N
 have lL:=h.ct
 have av8:=lL.got
 have kV:=h.la.bt
 refine apy (la:=x.m.la) (s:=x.h) (u:=u) (got:=x.got) (fs:=x.fs) kV (a2.code h.code) rC.2.2 (h.fs.up S) h.lc rC.2.1 S lL.at_.1 aS lL.dE fi (fun e v aE af=>hR.go (aE:=aE++[]) ⟨_,_,rfl,?_,O e v aE af⟩) (fun s' ni nB nt gu gq bN aE af aK ar=>?_)
 ·rw[List.append_nil];exact TH
 ·have lL:=acy ar
  rw[<-lL] at af
  have aa:=V s' ni nB nt gu gq bN aE af (fun E a2=>by
   have:=h.rd E a2.right
   exact aK H E a2.left this.2.1 this.2.2)
  rw[lL] at aa
  refine hR.go (aE:=aE++[]) ⟨_,IJ x pm (aE++L) b5,rfl,?_,aa⟩
  rw[List.append_nil]
  exact aJ.trans TH (aJ.acx _ _ _ _ _ _)
theorem iP{A:Option Addr}{b m sz:Nat}{i:Int}{K:Value->Prop}(b0:A=some ⟨b,0,none⟩)(j:Nat)(hi:i=(j:Int))(a9:j<m)(U:K (.pointer (some ⟨b,j*sz,none⟩))):gn A m i sz K:=by
 subst b0
 exact SY j hi a9 U
variable{M:aw}
theorem A4{A:Option Addr}{b m cap j:Nat}{cE:List cm}{s:cm}(b0:A=some ⟨b,0,none⟩)(ad:(Value.slice A m cap,aY.row 78 19 (cE.flatMap cm.l))∈M)(ar:cE[j]?=some s){K:Value->an->Prop}(h:K (.agg s.l.toArray) (Y H w0 X M)):bk Tryz.prog (Y H w0 X M) (Instr.loadAt 78 (.pointer (some ⟨b,j*19,none⟩))) K:=by
 subst b0
 obtain⟨a9,e⟩:=l0.1 ar
 exact zl s.l ad aD W W (by rw[<-e];exact uF cm.l 19 (fun _=>rfl) cE j a9) h
theorem zE{A:Option Addr}{b m cap j:Nat}{cE:List cm}{s:cm}{i:Nat}(b0:A=some ⟨b,0,none⟩)(aS:h8 M i (Value.slice A m cap) (.row 78 19 (cE.flatMap cm.l)))(a9:j<cE.length){K:an->Prop}(h:qc M i (Value.slice A m cap,.row 78 19 ((cE.set j s).flatMap cm.l)) fun aE=>K (Y H w0 X aE)):eB Tryz.prog (Y H w0 X M) (Instr.storeAt 78 (.pointer (some ⟨b,j*19,none⟩)) (.agg s.l.toArray)) K:=by
 subst b0
 exact Gf aD ((cE.set j s).flatMap cm.l) aS W (by rw[tj cm.l 19 (fun _=>rfl)];show j*19+19<=_;omega) (by show 0<19;omega) W (OG cm.l 19 (fun _=>rfl) cE j s a9) h
end
theorem tZ {P:Prop} (h:P:=by
 repeat'((first
  |(show gn _ _ _ _ _;first|(refine iP iN k rfl (show k<x.m.ec by omega) ?_)|(refine iP lj w rfl (show w<x.m.b6 by omega) ?_))
  |(show bk _ _ _ _;first|(refine A4 iN (dr _ (List.Mem.head _)) cM.here ?_))
  |(show gN _ _ _;first|(refine gN.mk (ie.imp (aJ.sub (NC x pm cp cX b5))) ?_))
  |(show ay _ _ _ _ _ _;first|(refine TI (x:=x) (L:=cp) (b5:=b5) (pm:=pm) aC (fun a ju=>?_) (fun o gs bf bA cX h5 ka iz qD=>?_))|(refine TJ (x:=x) (L:=cX++cp) (b5:=b5) (u:=⟨o.val,o.eG,o.err,o.c0,bf,gs.length,bA⟩) MK ka (fun h=>Vf h5 h) (fun e v aE bs=>?_) (fun s' ni nB nt gu gq bN aE bs aK=>?_))|(refine I1 (m:=x.m) ?_)|(refine TJ (x:=(x.call da (x.m.bB+1) c7 (jP k x.h.op x.steps o))) (L:=cX++cp) (b5:=b5) (u:=⟨o.val,o.eG,o.err,o.c0,bf,gs.length,bA⟩) MK ka (fun h=>Vf h5 h) (fun e v aE bs=>?_) (fun s' ni nB nt gu gq bN aE bs aK=>?_))|(refine I1 (m:=(x.call da (x.m.bB+1) c7 (jP k x.h.op x.steps o)).m) ?_))
  |(show eB _ _ _ _;first|(refine zE iN (.there .here) (show k<x.cE.length by omega) ?_)|(refine sU w lj (.there (.there .here)) (h1 w) (show w<x.cf.length by omega) ?_))
  |((have gg:=cM.RM (x1:=(x.call da (x.m.bB+1) c7 (jP k x.h.op x.steps o))) (aE:=aE) (cX:=cX) eI h5 pW iz qD bs aK eC);exact cC (X:=ek×aw×Nat) ((x.call da (x.m.bB+1) c7 (jP k x.h.op x.steps o)).go k w (me s' bf gs.length gs.length) ni nB nt bN gu gs gq,aE++(cX++cp),f-1) gg.2 gg.1 ⟨rfl,rfl,rfl,trivial⟩ trivial)
  |((have gg:=cM.UT (x1:=(x.call da (x.m.bB+1) c7 (jP k x.h.op x.steps o))) (aE:=aE) (cX:=cX) eI h5 pW bs eC);exact cC (X:=ek×aw×Nat) ((x.call da (x.m.bB+1) c7 (jP k x.h.op x.steps o)).fK k w e v,aE++(cX++cp),f-1) gg.2 gg.1 ⟨rfl,rfl,rfl,trivial⟩ trivial)
  |((have gg:=cM.RM (x1:=x) (aE:=aE) (cX:=cX) eI h5 pW iz qD bs aK eC);exact cC (X:=ek×aw×Nat) (x.go k w (me s' bf gs.length gs.length) ni nB nt bN gu gs gq,aE++(cX++cp),f-1) gg.2 gg.1 ⟨rfl,rfl,rfl,trivial⟩ trivial)
  |((have gg:=cM.UT (x1:=x) (aE:=aE) (cX:=cX) eI h5 pW bs eC);exact cC (X:=ek×aw×Nat) (x.fK k w e v,aE++(cX++cp),f-1) gg.2 gg.1 ⟨rfl,rfl,rfl,trivial⟩ trivial)
  |(exact hA.on (X:=Unit) () True.intro ⟨rfl,rfl,rfl,rfl,trivial⟩ ⟨rfl,trivial⟩)
  |(exact hA.on (X:=Bool×(cm×Option Addr×Nat×Nat)×(Int×Int×Int)×List Int×List a3×aw) (true,(x.h,x.m.bS,x.m.aX,x.m.bb),(k,e,v),[],[],aE) (.inl ⟨rfl,rfl,rfl,bs⟩) ⟨rfl,rfl,rfl,rfl,trivial⟩ ⟨rfl,trivial⟩)
  |(exact hA.on (X:=Bool×(cm×Option Addr×Nat×Nat)×(Int×Int×Int)×List Int×List a3×aw) (false,(me s' bf gs.length gs.length,ni,nB,nt),(bN,0,0),gu,gq,aE) (.inr ⟨rfl,⟨s',rfl,bs,aK⟩,rfl,rfl⟩) ⟨rfl,rfl,rfl,rfl,trivial⟩ ⟨rfl,trivial⟩)
  |(exact hA.on (X:=Bool) false (by simp;omega) ⟨rfl,rfl,rfl,rfl,rfl,rfl,trivial⟩ ⟨rfl,rfl,trivial⟩)
  |(refine hA.on (X:=Bool) (decide (x.h.o0<=7)) ?_ ⟨rfl,rfl,rfl,rfl,rfl,rfl,trivial⟩ ⟨rfl,rfl,trivial⟩;(focus(simp[show(1:Int)<=x.h.o0 from ab];done)))
  |(exact hA.on (X:=Bool×cI×Option Addr×List cz×Nat×aw) (false,⟨0,false,0,0⟩,none,[],0,[]) (.inl ⟨rfl,rfl,a,ju⟩) ⟨rfl,rfl,rfl,rfl,rfl,rfl,trivial⟩ ⟨rfl,rfl,trivial⟩)
  |(exact hA.on (X:=Bool×cI×Option Addr×List cz×Nat×aw) (true,o,bf,gs,bA,cX) (.inr ⟨rfl,h5,ka,iz,qD⟩) ⟨rfl,rfl,rfl,rfl,rfl,rfl,trivial⟩ ⟨rfl,rfl,trivial⟩)
  |refine eg ?_
  |(refine eh ?_ ?_<;>(try with_reducible intro ab))
  |with_reducible intro r)<;>(try conv=>whnf))):P:=h
section
variable{c:cr}{la:c8}{k w:Nat}{x:lA}{o:cI}{gs:List cz}
theorem F8{f:Nat}(h:x.cP=true):ja c la k w f x=x:=by
 cases f with
 |zero=>rfl
 |succ f=>simp[ja,h]
theorem O7{f:Nat}{a:c4}(h:eH (g6 la k x.log) x.gone x.s.op= .ask a):ja c la k w f x=x:=by
 cases f with
 |zero=>rfl
 |succ f=>
  unfold ja
  split
  ·rfl
  ·rw[h]
theorem Ju{f:Nat}(eI:x.cP=false)(h:eH (g6 la k x.log) x.gone x.s.op= .done o gs):ja c la k w (f+1) x=ja c la k w f (oF c la k w x o gs):=by
 rw[ja,if_neg (by rw[eI];decide),h]
theorem Xf:(oF c la k w x o gs).cP=true\/(oF c la k w x o gs).log=[]:=by
 unfold oF
 split
 ·exact .inl rfl
 ·exact .inr rfl
theorem Gn(h:o.err=1):(oF c la k w x o gs).cP=true:=by
 unfold oF mv
 rw[if_pos ⟨by omega,fun V=>by omega⟩]
end
theorem ky.bE{N:Nat}{fs:List a3}(h:ky N fs):ky N (fs.map a3.bE):=⟨by rw[kz];exact h.len,fun f aK=>by
 obtain⟨g,aZ,rfl⟩:=ra.1 aK
 exact h.dB g aZ,fun f aK=>by
 obtain⟨g,aZ,rfl⟩:=ra.1 aK
 exact h.lens g aZ⟩
theorem ky.amd{N:Nat}{fs:List a3}(h:ky N (fs.map a3.bE)):ky N fs:=⟨by have:=h.len;rwa [kz] at this,fun f aK=>h.dB f.bE (ra.2 ⟨f,aK,rfl⟩),fun f aK=>h.lens f.bE (ra.2 ⟨f,aK,rfl⟩)⟩
def ek.call(x:ek)(A:Option Addr)(n c:Nat)(r:List Value):ek:=⟨{x.m with fY:=A,bB:=n,dD:=c},x.cE,x.cf,x.h,x.got,x.log,x.steps,x.gone,x.fs,x.bp++[r]⟩
def ek.go(x:ek)(k w:Nat)(s:cm)(bS:Option Addr)(aX bb:Nat)(bN:Int)(got:List Int)(gone:List cz)(fs:List a3):ek:=⟨{x.m with bS:=bS,aX:=aX,bb:=bb},x.cE.set k s,x.cf.set w bN,s,got,[],[],gone,fs,x.bp⟩
def ek.fK(x:ek)(k w:Nat)(e v:Int):ek:=⟨{x.m with cP:=true,err:=e,value:=v},x.cE.set k x.h,x.cf.set w k,x.h,x.got,x.log,x.steps,x.gone,x.fs,x.bp⟩
def hz.fix(m:hz):hz:={m with bS:=none,aX:=0,bb:=0,fY:=none,bB:=0,dD:=0,cP:=false,value:=0,err:=0}
structure ql(x0 x:ek)(w k:Nat):Prop where
 m:x.m.fix=x0.m.fix
 cE:x.cE=x0.cE.set k x.h
 cf:x.cf=x0.cf.set w (x.cf.getD w 0)
theorem NC(x:ek)(pm:Nat)(cp cX b5:aw):List.Sublist (i5 x pm cp b5) (i5 x pm (cX++cp) b5):=(List.Sublist.refl _).append ((od cX cp).append_right b5)
theorem O6{ck:Type}{l:List ck}{k:Nat}{a:ck}(h:l[k]?=some a):l.set k a=l:=by
 obtain⟨U,e⟩:=l0.1 h
 rw[<-e]
 exact List.set_getElem_self U
theorem apN{l:List Int}{k:Nat}:l.set k (l.getD k 0)=l:=by
 by_cases h:k<l.length
 ·exact O6 (by simp[List.getD,h])
 ·exact List.set_eq_of_length_le S
theorem CC{l:List Int}{k:Nat}{a:Int}(h:k<l.length):(l.set k a).getD k 0=a:=by simp[List.getD,h]
section
variable{H:World}{cp vm:aw}{n k w N G:Nat}{x x0:ek}{o:cI}{gs:List cz}
theorem gB.up(h:gB H cp n k w N G x)(ar:∀E,dc H vm E->dc H cp E):gB H vm n k w N G x:={h with rd:=fun E a2=>h.rd E (ar E a2)}
theorem gB.mono(h:gB H cp n k w N G x){M:Nat}(ad:N<=M)(fz:M<=90000):gB H cp n k w M G x:=
 {h with fs:=h.fs.up ad,ct:=⟨h.ct.dE,by have:=h.ct.at_;omega,by have:=h.ct.got;omega,h.ct.wS⟩,N:=fz}
theorem gB.call(h:gB H cp n k w N G x){A:Option Addr}{aN gR:Nat}{r:List Value}(aj:gR<=aN)(ad:gR=x.m.bB+1)(ab:x.bp.length<=100000):gB H cp n k w N G (x.call A gR aN r):=
 {la:=h.la,i7:=h.i7,code:=h.code,lc:=h.lc,bt:=h.bt,nz:=h.nz,bN:=h.bN,wn:=h.wn,k4:=h.k4,log:=h.log,steps:=h.steps,gone:=h.gone,rd:=h.rd,fs:=h.fs,ct:=h.ct,bp:=⟨by have:=h.bp.1;show gR=(x.bp++[r]).length;simp only[gC,oM,pz];omega,aj,by show(x.bp++[r]).length<=_;simp only[gC,oM,pz];omega⟩,N:=h.N,G:=h.G}
theorem gB.go (h:gB H cp n k w N G x) (e:eH (g6 x.m.la k x.log) x.gone x.h.op= .done o gs) {bf:Option Addr} (zf:∀E,dc H vm E->dc H cp E) (iz:bf=none->gs.length=0) (qD:∀E,dc H vm E->dU E E.heap.size bf (gs.flatMap ft)) {s':cm} {bS:Option Addr} {aX bb:Nat} {gu:List Int} {gq:List a3} {bN:Int}
  (bs:mv x.m.c x.m.la.bt k w {x.h.bE with ew:=gs.length} x.got (x.fs.map a3.bE) o= .go (me s' bf gs.length gs.length).bE gu (gq.map a3.bE) bN) (aK:∀E,dc H vm E->fG E s'.gA s'.eM s'.gJ gu/\gM E bS aX bb gq) (eC:N+1<=90000):
  gB H vm n k w (N+1) G (x.go k w (me s' bf gs.length gs.length) bS aX bb bN gu gs gq):=by
 have aB:=h.i7
 have U:=h.nz
 have au:=h.wn
 have gx:=ast (n:=x.m.la.bt) (a1:=k) (dP:=w) (N:=N) (s:={x.h.bE with ew:=gs.length}) (got:=x.got) (fs:=x.fs.map a3.bE) (c:=x.m.c) (u:=o) h.la.bt S (by rw[aB];omega) (by rw[aB];exact⟨h.ct.dE,h.ct.at_,h.ct.got,h.ct.wS⟩) h.fs.bE
 rw[bs] at gx
 obtain⟨s1,aV,bu⟩:=gx
 rw[aB] at s1 bu
 have ai:=anz (k:=g6 x.m.la k x.log) (gs:=x.gone) (op:=x.h.op) h.la h.log.2.2 o gs e
 have ai:gs.length<=x.gone.length+7*x.log.length:=ai
 have aZ:=h.gone.2.2.2
 have ar:=h.bt
 have hi:=h.bN
 exact{la:=h.la,i7:=aB,code:=h.code,lc:=h.lc,bt:=⟨ar.1,ar.2.1,ar.2.2.1,(nJ ..).trans ar.2.2.2⟩,nz:=U,bN:=⟨hi.1,hi.2.1,hi.2.2.1,(nJ ..).trans hi.2.2.2⟩,wn:=au,k4:=by show 0<=(x.cf.set w bN).getD w 0/\(x.cf.set w bN).getD w 0<n;rw[CC S];exact bu,log:=⟨rfl,Nat.le_refl _,cY _⟩,steps:=⟨rfl,Nat.le_refl _,cY _⟩,gone:=⟨rfl,Nat.le_refl _,iz,by show gs.length+7*0<=G;omega⟩,rd:=fun E a2=>⟨qD E a2,(aK E a2).1,(aK E a2).2⟩,fs:=aV.amd,ct:=⟨s1.dE,s1.at_,s1.got,s1.wS⟩,bp:=h.bp,N:=eC,G:=h.G}
theorem gB.fK(h:gB H cp n k w N G x)(e v:Int):gB H cp n k w N G (x.fK k w e v):=by
 have ar:=h.bt
 have hi:=h.bN
 have U:=h.nz
 have au:=h.wn
 exact{la:=h.la,i7:=h.i7,code:=h.code,lc:=h.lc,bt:=⟨ar.1,ar.2.1,ar.2.2.1,(nJ ..).trans ar.2.2.2⟩,nz:=U,bN:=⟨hi.1,hi.2.1,hi.2.2.1,(nJ ..).trans hi.2.2.2⟩,wn:=au,k4:=by show 0<=(x.cf.set w k).getD w 0/\(x.cf.set w k).getD w 0<n;rw[CC S];omega,log:=h.log,steps:=h.steps,gone:=h.gone,rd:=h.rd,fs:=h.fs,ct:=h.ct,bp:=h.bp,N:=h.N,G:=h.G}
theorem RN{x1:ek}(O:x1.bp=yD k (x.c w) o)(V:x1.m.cP=x.m.cP/\x1.m.value=x.m.value/\x1.m.err=x.m.err/\x1.cf=x.cf){s:cm}{gu:List Int}{gq:List a3}{bN:Int}(bs:mv x.m.c x.m.la.bt k w {x.h.bE with ew:=gs.length} x.got (x.fs.map a3.bE) o= .go s.bE gu (gq.map a3.bE) bN)(au:w<x.cf.length){bS:Option Addr}{aX bb:Nat}:
  (x1.go k w s bS aX bb bN gu gs gq).c w=oF x.m.c x.m.la k w (x.c w) o gs:=by
 obtain⟨e1,e2,cR,dR⟩:=V
 unfold oF
 rw[show mv x.m.c x.m.la.bt k w {(x.c w).s with ew:=gs.length} (x.c w).got (x.c w).fs o=_ from bs]
 show lA.mk s.bE gu [] [] gs (gq.map a3.bE) ((x1.cf.set w bN).getD w 0) x1.bp x1.m.cP x1.m.value x1.m.err=_
 rw[e1,e2,cR,dR,O,CC au]
 rfl
theorem UU{x1:ek}(O:x1.bp=yD k (x.c w) o)(V:x1.h=x.h/\x1.got=x.got/\x1.log=x.log/\x1.steps=x.steps/\x1.gone=x.gone/\x1.fs=x.fs/\x1.cf=x.cf){e v:Int}(bs:mv x.m.c x.m.la.bt k w {x.h.bE with ew:=gs.length} x.got (x.fs.map a3.bE) o= .fK e v)(au:w<x.cf.length):
  (x1.fK k w e v).c w=oF x.m.c x.m.la k w (x.c w) o gs:=by
 obtain⟨e1,e2,cR,dR,gj,Aq,Lq⟩:=V
 unfold oF
 rw[show mv x.m.c x.m.la.bt k w {(x.c w).s with ew:=gs.length} (x.c w).got (x.c w).fs o=_ from bs]
 show lA.mk x1.h.bE x1.got x1.log x1.steps x1.gone (x1.fs.map a3.bE) ((x1.cf.set w k).getD w 0) x1.bp true v e=_
 rw[e1,e2,cR,dR,gj,Aq,Lq,O,CC au]
 rfl
structure kP(H:World)(L:aw)(n k w N G:Nat)(x0:ek)(y:ek×aw×Nat):Prop where
 ok:gB H y.2.1 n k w (N+3-y.2.2) G y.1
 bp:y.1.bp.length<=N+3-y.2.2
 eq:ja x0.m.c x0.m.la k w y.2.2 (y.1.c w)=ja x0.m.c x0.m.la k w 3 (x0.c w)
 same:ql x0 y.1 w k
 here:y.1.cE[k]?=some y.1.h
 sub:∀E,dc H y.2.1 E->dc H L E
 f:y.2.2=3\/y.2.2=2/\(y.1.m.cP=true\/y.1.log=[])\/y.2.2=1/\y.1.m.cP=true
theorem kP.step{L:aw}{f:Nat}{de:ek}(h:kP H L n k w N G x0 (x,cp,f))(eI:x.m.cP=false)(e:eH (g6 x.m.la k x.log) x.gone x.h.op= .done o gs)(aj:de.c w=oF x.m.c x.m.la k w (x.c w) o gs)(aC:gB H vm n k w (N+3-f+1) G de)(kU:de.bp.length<=N+3-f+1)(zf:∀E,dc H vm E->dc H cp E)(agp:ql x0 de w k)(afA:de.cE[k]?=some de.h):
  kP H L n k w N G x0 (de,vm,f-1)/\f-1<f:=by
 have aT:=h.f
 have O:=h.eq
 have ad:=h.same.m
 have pS:x.m.fix.c=x0.m.fix.c:=congrArg hz.c ad
 replace pS:x.m.c=x0.m.c:=pS
 have y8:x.m.fix.la=x0.m.fix.la:=congrArg hz.la ad
 replace y8:x.m.la=x0.m.la:=y8
 simp only at aT O
 have aK:f=3\/f=2/\x.log=[]:=by
  rcases aT with aT|⟨aT,V⟩|⟨aT,V⟩
  ·exact .inl aT
  ·rcases V with V|V
   ·rw[eI] at V;cases V
   ·exact .inr ⟨aT,V⟩
  ·rw[eI] at V;cases V
 have cR:N+3-(f-1)=N+3-f+1:=by omega
 have dR:f=(f-1)+1:=by omega
 refine⟨⟨by show gB H vm n k w (N+3-(f-1)) G de;rw[cR];exact aC,by show de.bp.length<=N+3-(f-1);omega,?_,agp,afA,fun E a2=>h.sub E (zf E a2),?_⟩,by omega⟩
 ·show ja x0.m.c x0.m.la k w (f-1) (de.c w)=_
  rw[<-O,dR,<-pS,<-y8,Ju (x:=x.c w) eI e,<-aj]
  simp
 ·show f-1=3\/f-1=2/\(de.m.cP=true\/de.log=[])\/f-1=1/\de.m.cP=true
  rcases aK with rfl|⟨rfl,ai⟩
  ·have:=Xf (c:=x.m.c) (la:=x.m.la) (k:=k) (w:=w) (x:=x.c w) (o:=o) (gs:=gs)
   rw[<-aj] at this
   exact .inr (.inl ⟨rfl,this⟩)
  ·rcases OD (k:=g6 x.m.la k x.log) (gs:=x.gone) (op:=x.h.op) ai with⟨a,a8⟩|⟨fX,aU,L3⟩
   ·rw[e] at a8;cases a8
   ·rw[e] at aU
    injection aU with aU _
    have:=Gn (c:=x.m.c) (la:=x.m.la) (k:=k) (w:=w) (x:=x.c w) (o:=o) (gs:=gs) (by rw[aU];exact L3)
    rw[<-aj] at this
    exact .inr (.inr ⟨rfl,this⟩)
theorem ql.fK(h:ql x0 x w k)(au:w<x.cf.length)(e v:Int):ql x0 (x.fK k w e v) w k:=by
 refine⟨h.m,?_,?_⟩
 ·show x.cE.set k x.h=x0.cE.set k x.h
  rw[h.cE,B5]
 ·show x.cf.set w k=x0.cf.set w ((x.cf.set w k).getD w 0)
  rw[CC au,h.cf,B5]
theorem ql.go(h:ql x0 x w k)(au:w<x.cf.length){s:cm}{bS:Option Addr}{aX bb:Nat}{bN:Int}{got:List Int}{gs:List cz}{fs:List a3}:ql x0 (x.go k w s bS aX bb bN got gs fs) w k:=by
 refine⟨h.m,?_,?_⟩
 ·show x.cE.set k s=x0.cE.set k s
  rw[h.cE,B5]
 ·show x.cf.set w bN=x0.cf.set w ((x.cf.set w bN).getD w 0)
  rw[CC au,h.cf,B5]
theorem ql.call(h:ql x0 x w k){A:Option Addr}{m c:Nat}{r:List Value}:ql x0 (x.call A m c r) w k:=⟨h.m,h.cE,h.cf⟩
theorem Q2(h:¬(1<=x.h.o0/\x.h.o0<=7)):x.bp=yD k (x.c w) o:=(if_neg h).symm
theorem Q1(h:1<=x.h.o0/\x.h.o0<=7){A:Option Addr}{m c:Nat}:(x.call A m c (jP k x.h.op x.steps o)).bp=yD k (x.c w) o:=(if_pos h).symm
variable{L aE cX:aw}{f:Nat}
theorem rX{M:aw}:∀E,dc H (aE++(cX++M)) E->dc H M E:=fun E a2=>a2.right.right
theorem kP.amy(cM:kP H L n k w N G x0 (x,cp,f))(eI:x.m.cP=false)(h5:eH (g6 x.m.la k x.log) x.gone x.h.op= .done o gs)(aj:¬(1<=x.h.o0/\x.h.o0<=7)){e v:Int}(bs:mv x.m.c x.m.la.bt k w {x.h.bE with ew:=gs.length} x.got (x.fs.map a3.bE) o= .fK e v)(fz:N+3<=90000):kP H L n k w N G x0 (x.fK k w e v,aE++(cX++cp),f-1)/\f-1<f:=by
 have aC:gB H cp n k w (N+3-f) G x:=cM.ok
 have kU:x.bp.length<=N+3-f:=cM.bp
 have ar:=aC.bt
 have au:w<x.cf.length:=by have:=aC.bN;have:=aC.wn;omega
 have aK:=cM.f
 exact cM.step eI h5 (UU (x1:=x) (Q2 aj) ⟨rfl,rfl,rfl,rfl,rfl,rfl,rfl⟩ bs au) (((aC.fK e v).up rX).mono (qp _) (by simp only at aK;omega)) (by show x.bp.length<=_;omega) rX (cM.same.fK au e v) (by show(x.cE.set k x.h)[k]?=_;rw[q9 (by have:=aC.nz;omega)];rfl)
theorem kP.lQ(cM:kP H L n k w N G x0 (x,cp,f))(eI:x.m.cP=false)(h5:eH (g6 x.m.la k x.log) x.gone x.h.op= .done o gs)(aj:1<=x.h.o0/\x.h.o0<=7){e v:Int}(bs:mv x.m.c x.m.la.bt k w {x.h.bE with ew:=gs.length} x.got (x.fs.map a3.bE) o= .fK e v)(fz:N+3<=90000){da:Option Addr}{c7:Nat}(qz:x.m.bB+1<=c7):kP H L n k w N G x0 ((x.call da (x.m.bB+1) c7 (jP k x.h.op x.steps o)).fK k w e v,aE++(cX++cp),f-1)/\f-1<f:=by
 have aC:gB H cp n k w (N+3-f) G x:=cM.ok
 have kU:x.bp.length<=N+3-f:=cM.bp
 have ar:=aC.bt
 have au:w<x.cf.length:=by have:=aC.bN;have:=aC.wn;omega
 have aK:=cM.f
 have ai:(x.bp++[jP k x.h.op x.steps o]).length=x.bp.length+1:=by simp
 exact cM.step eI h5 (UU (x1:=x.call da (x.m.bB+1) c7 (jP k x.h.op x.steps o)) (Q1 aj) ⟨rfl,rfl,rfl,rfl,rfl,rfl,rfl⟩ bs au) ((((aC.call qz rfl S).fK e v).up rX).mono (qp _) (by simp only at aK;omega)) (by show(x.bp++[jP k x.h.op x.steps o]).length<=_;omega) rX (cM.same.call.fK au e v) (by show(x.cE.set k x.h)[k]?=_;rw[q9 (by have:=aC.nz;omega)];rfl)
theorem kP.aem (cM:kP H L n k w N G x0 (x,cp,f)) (eI:x.m.cP=false) (h5:eH (g6 x.m.la k x.log) x.gone x.h.op= .done o gs) (aj:¬(1<=x.h.o0/\x.h.o0<=7)) {bf:Option Addr} (iz:bf=none->gs.length=0) (qD:∀E,dc H (cX++cp) E->dU E E.heap.size bf (gs.flatMap ft)) {s':cm} {bS:Option Addr} {aX bb:Nat} {gu:List Int} {gq:List a3} {bN:Int}
  (bs:mv x.m.c x.m.la.bt k w {x.h.bE with ew:=gs.length} x.got (x.fs.map a3.bE) o= .go (me s' bf gs.length gs.length).bE gu (gq.map a3.bE) bN) (aK:∀E,dc H (aE++(cX++cp)) E->fG E s'.gA s'.eM s'.gJ gu/\gM E bS aX bb gq) (fz:N+3<=90000):
  kP H L n k w N G x0 (x.go k w (me s' bf gs.length gs.length) bS aX bb bN gu gs gq,aE++(cX++cp),f-1)/\f-1<f:=by
 have aC:gB H cp n k w (N+3-f) G x:=cM.ok
 have kU:x.bp.length<=N+3-f:=cM.bp
 have ar:=aC.bt
 have au:w<x.cf.length:=by have:=aC.bN;have:=aC.wn;omega
 have Fa:=cM.f
 exact cM.step eI h5 (RN (x1:=x) (bS:=bS) (aX:=aX) (bb:=bb) (Q2 aj) ⟨rfl,rfl,rfl,rfl⟩ bs au) (aC.go h5 rX iz (fun E a2=>qD E a2.right) bs aK (by simp only at Fa;omega)) (by show x.bp.length<=_;omega) rX (cM.same.go au) (by show(x.cE.set k _)[k]?=_;rw[q9 (by have:=aC.nz;omega)];rfl)
theorem kP.aeh (cM:kP H L n k w N G x0 (x,cp,f)) (eI:x.m.cP=false) (h5:eH (g6 x.m.la k x.log) x.gone x.h.op= .done o gs) (aj:1<=x.h.o0/\x.h.o0<=7) {bf:Option Addr} (iz:bf=none->gs.length=0) (qD:∀E,dc H (cX++cp) E->dU E E.heap.size bf (gs.flatMap ft)) {s':cm} {bS:Option Addr} {aX bb:Nat} {gu:List Int} {gq:List a3} {bN:Int}
  (bs:mv x.m.c x.m.la.bt k w {x.h.bE with ew:=gs.length} x.got (x.fs.map a3.bE) o= .go (me s' bf gs.length gs.length).bE gu (gq.map a3.bE) bN) (aK:∀E,dc H (aE++(cX++cp)) E->fG E s'.gA s'.eM s'.gJ gu/\gM E bS aX bb gq) (fz:N+3<=90000) {da:Option Addr} {c7:Nat} (qz:x.m.bB+1<=c7):
  kP H L n k w N G x0 ((x.call da (x.m.bB+1) c7 (jP k x.h.op x.steps o)).go k w (me s' bf gs.length gs.length) bS aX bb bN gu gs gq,aE++(cX++cp),f-1)/\f-1<f:=by
 have aC:gB H cp n k w (N+3-f) G x:=cM.ok
 have kU:x.bp.length<=N+3-f:=cM.bp
 have ar:=aC.bt
 have au:w<x.cf.length:=by have:=aC.bN;have:=aC.wn;omega
 have Fa:=cM.f
 have ai:(x.bp++[jP k x.h.op x.steps o]).length=x.bp.length+1:=by simp
 exact cM.step eI h5 (RN (x1:=x.call da (x.m.bB+1) c7 (jP k x.h.op x.steps o)) (bS:=bS) (aX:=aX) (bb:=bb) (Q1 aj) ⟨rfl,rfl,rfl,rfl⟩ bs au) ((aC.call qz rfl S).go h5 rX iz (fun E a2=>qD E a2.right) bs aK (by simp only at Fa;omega)) (by show(x.bp++[jP k x.h.op x.steps o]).length<=_;omega) rX (cM.same.call.go au) (by show(x.cE.set k _)[k]?=_;rw[q9 (by have:=aC.nz;omega)];rfl)
def yb(x x1:ek)(k w:Nat)(o:cI):Prop:=(¬(1<=x.h.o0/\x.h.o0<=7)/\x1=x)\/((1<=x.h.o0/\x.h.o0<=7)/\∃da c7,x.m.bB+1<=c7/\x1=x.call da (x.m.bB+1) c7 (jP k x.h.op x.steps o))
theorem yb.ok{x1:ek}(h:yb x x1 k w o)(aC:gB H cp n k w N G x)(kU:x.bp.length<=100000):gB H (cX++cp) n k w N G x1:=by
 rcases h with⟨_,rfl⟩|⟨_,da,c7,aa,rfl⟩
 ·exact aC.up fun E a2=>a2.right
 ·exact(aC.call aa rfl kU).up fun E a2=>a2.right
theorem yb.same{x1:ek}(h:yb x x1 k w o):x1.h=x.h/\x1.m.gm=x.m.gm/\x1.m.ec=x.m.ec/\x1.m.eU=x.m.eU/\x1.m.b6=x.m.b6/\x1.cE=x.cE/\x1.cf=x.cf:=by
 rcases h with⟨_,rfl⟩|⟨_,da,c7,aa,rfl⟩
 ·exact⟨rfl,rfl,rfl,rfl,rfl,rfl,rfl⟩
 ·exact⟨rfl,rfl,rfl,rfl,rfl,rfl,rfl⟩
theorem kP.UT{x1:ek}(cM:kP H L n k w N G x0 (x,cp,f))(eI:x.m.cP=false)(h5:eH (g6 x.m.la k x.log) x.gone x.h.op= .done o gs)(O:yb x x1 k w o){e v:Int}(bs:mv x1.m.c x1.m.la.bt k w {x1.h.bE with ew:=gs.length} x1.got (x1.fs.map a3.bE) o= .fK e v)(fz:N+3<=90000):kP H L n k w N G x0 (x1.fK k w e v,aE++(cX++cp),f-1)/\f-1<f:=by
 rcases O with⟨aj,rfl⟩|⟨aj,da,c7,aa,rfl⟩
 ·exact cM.amy eI h5 aj bs fz
 ·exact cM.lQ eI h5 aj bs fz aa
theorem kP.RM {x1:ek} (cM:kP H L n k w N G x0 (x,cp,f)) (eI:x.m.cP=false) (h5:eH (g6 x.m.la k x.log) x.gone x.h.op= .done o gs) (O:yb x x1 k w o) {bf:Option Addr} (iz:bf=none->gs.length=0) (qD:∀E,dc H (cX++cp) E->dU E E.heap.size bf (gs.flatMap ft)) {s':cm} {bS:Option Addr} {aX bb:Nat} {gu:List Int} {gq:List a3} {bN:Int}
  (bs:mv x1.m.c x1.m.la.bt k w {x1.h.bE with ew:=gs.length} x1.got (x1.fs.map a3.bE) o= .go (me s' bf gs.length gs.length).bE gu (gq.map a3.bE) bN) (aK:∀E,dc H (aE++(cX++cp)) E->fG E s'.gA s'.eM s'.gJ gu/\gM E bS aX bb gq) (fz:N+3<=90000):
  kP H L n k w N G x0 (x1.go k w (me s' bf gs.length gs.length) bS aX bb bN gu gs gq,aE++(cX++cp),f-1)/\f-1<f:=by
 rcases O with⟨aj,rfl⟩|⟨aj,da,c7,aa,rfl⟩
 ·exact cM.aem eI h5 aj iz qD bs aK fz
 ·exact cM.aeh eI h5 aj iz qD bs aK fz aa
theorem kP.adZ(h:kP H L n k w N G x0 (x,cp,f))(eI:x.m.cP=true):x.c w=ja x0.m.c x0.m.la k w 3 (x0.c w):=by
 rw[<-h.eq];exact(F8 eI).symm
theorem kP.adY(h:kP H L n k w N G x0 (x,cp,f)){a:c4}(e:eH (g6 x.m.la k x.log) x.gone x.h.op= .ask a):x.c w=ja x0.m.c x0.m.la k w 3 (x0.c w):=by
 have ad:=h.same.m
 have y8:x.m.fix.la=x0.m.fix.la:=congrArg hz.la ad
 replace y8:x.m.la=x0.m.la:=y8
 rw[<-h.eq]
 rw[y8] at e
 exact(O7 (x:=x.c w) e).symm
end
section
variable{H w0:World}{X:Nat->Prop}{L b5:aw}{K:Value->an->Prop}{Z:bF}
variable{n k w N G pm:Nat}{x0:ek}
theorem apS (aT:gB H L n k w N G x0) (y3:x0.cE[k]?=some x0.h) (kU:x0.bp.length<=N) (eC:N+3<=90000)
  (U:∀x cp,gB H cp n k w (N+3) G x->x.bp.length<=N+3->x.c w=ja x0.m.c x0.m.la k w 3 (x0.c w)->ql x0 x w k->x.cE[k]?=some x.h->(∀E,dc H cp E->dc H L E)->K (.tuple #[]) (Y H w0 X (i5 x pm cp b5))):
  a4 H w0 X (i5 x0 pm L b5) 65 #[ae pm,J (w:Int),J (k:Int)] K Z:=by
 refine aht e8 i6 aqS W ?_
 intro az aF
 conv=>whnf
 refine c9.on (X:=ek×aw×Nat) (fun _=> [(0,.v (ae pm)),(1,.v (J (w:Int))),(2,.v (J (k:Int)))]) (fun _=> []) (fun y=>Y H az aF (i5 y.1 pm y.2.1 b5)) (kP H L n k w N G x0) (fun y=>y.2.2) (x0,L,3) ⟨aT,kU,rfl,⟨rfl,(O6 y3).symm,apN.symm⟩,y3,fun E a2=>a2,.inl rfl⟩ ⟨rfl,rfl,rfl,trivial⟩ trivial ?_
 intro y iC cM
 obtain⟨x,cp,f⟩:=y
 have aC:gB H cp n k w (N+3-f) G x:=cM.ok
 have SN:x.bp.length<=N+3-f:=cM.bp
 have tp:gB H cp n k w (N+3) G x:=aC.mono S eC
 obtain⟨⟨bO,iN⟩,uJ,o2,rD⟩:=aC.bt
 obtain⟨⟨sh,lj⟩,lK,HO,hU⟩:=aC.bN
 have rB:=aC.nz
 have SM:=aC.wn
 have avX:=aC.bp
 have ac8:∀{o:cI},∀u∈jP k x.h.op x.steps o,u.oneCell'=true:=fun{o} u aS=>by
  simp only[jP,mz,sa,or_false] at aS
  rcases aS with rfl|rfl|rfl|rfl|rfl|rfl|rfl|rfl|rfl|rfl<;>rfl
 have ac9:∀{r:List Value},x.bp.flatten++r=(x.bp++[r]).flatten:=fun{r}=>by simp
 conv=>whnf
 repeat'((first
  |(show _/\_;first|(refine And.intro ?_ ?_))
  |(show ih _ _ _ _;first|(refine IS ?_)|(refine NM ?_))
  |(show gn _ _ _ _ _;first|(refine iP iN k rfl (show k<x.m.ec by omega) ?_)|(refine iP lj w rfl (show w<x.m.b6 by omega) ?_))
  |(show bk _ _ _ _;first|(refine uS ?_)|(refine IM ?_)|(refine A4 iN (dr _ (List.Mem.head _)) cM.here ?_))
  |(show gN _ _ _;first|(refine gN.mk (ie.refl _) ?_)|(refine gN.mk (ie.imp (aJ.sub (NC x pm cp cX b5))) ?_))
  |(refine ba.Uy (fun eI=>?_) (fun eI=>?_))
  |(refine hy.go ?_)
  |(refine pE.go ?_)
  |(exact cA (U x cp tp S (cM.adZ eI) cM.same cM.here cM.sub))
  |(intro r jN))<;>(try conv=>whnf))
 refine eS.on (X:=Bool×cI×Option Addr×List cz×Nat×aw) (fun y=> [(0,.v (ae pm)),(1,.v (J (w:Int))),(2,.v (J (k:Int))),(6,.p 6 0),(8,.p 8 0),(9,.v (.bool y.1))]) (fun y=> [(6,78,x.h.l),(8,145,lp y.2.1 y.2.2.1 y.2.2.2.1.length y.2.2.2.2.1)]) (fun y=>Y H az aF (i5 x pm (y.2.2.2.2.2++cp) b5)) (fun y=>(y.1=false/\y.2.2.2.2.2=[]/\∃a,eH (g6 x.m.la k x.log) x.gone x.h.op= .ask a)\/(y.1=true/\eH (g6 x.m.la k x.log) x.gone x.h.op= .done y.2.1 y.2.2.2.1/\y.2.2.2.1.length<=y.2.2.2.2.1/\(y.2.2.1=none->y.2.2.2.1.length=0)/\∀E,dc H (y.2.2.2.2.2++cp) E->dU E E.heap.size y.2.2.1 (y.2.2.2.1.flatMap ft))) ?_ ?_
 ·conv=>whnf
  exact tZ
 intro y j2 bV
 obtain⟨d,o,bf,gs,bA,cX⟩:=y
 rcases bV with⟨rfl,rfl,a,ju⟩|⟨rfl,h5,ka,iz,qD⟩
 ·conv=>whnf
  exact cA (U x cp tp S (cM.adY ju) cM.same cM.here cM.sub)
 have h5:eH (g6 x.m.la k x.log) x.gone x.h.op= .done o gs:=h5
 have ka:gs.length<=bA:=ka
 conv=>whnf
 refine eS.on (X:=Bool) (fun q=> [(0,.v (ae pm)),(1,.v (J (w:Int))),(2,.v (J (k:Int))),(6,.p 6 0),(8,.p 8 0),(53,.v (.bool q))]) (fun _=> [(6,78,x.h.l),(8,145,lp o bf gs.length bA)]) (fun _=>Y H az aF (i5 x pm (cX++cp) b5)) (fun q=>q=decide (1<=x.h.o0/\x.h.o0<=7)) ?_ ?_
 ·conv=>whnf
  exact tZ
 intro q VW bd
 cases q
 ·have pW:yb x x k w o:= .inl ⟨of_decide_eq_false bd.symm,rfl⟩
  have MK:gB H (cX++cp) n k w (N+3-f) G x:=pW.ok aC S
  conv=>whnf
  refine eS.on (X:=Bool×(cm×Option Addr×Nat×Nat)×(Int×Int×Int)×List Int×List a3×aw) (fun _=> [(0,.v (ae pm)),(1,.v (J (w:Int))),(2,.v (J (k:Int))),(10,.p 10 0)]) (fun y=> [(10,185,q2 y.2.1.1 y.2.1.2.1 y.2.1.2.2.1 y.2.1.2.2.2 y.2.2.1.1 y.1 y.2.2.1.2.1 y.2.2.1.2.2)]) (fun y=>Y H az aF (bif y.1 then i5 x pm (y.2.2.2.2.2++(cX++cp)) b5 else IJ x pm (y.2.2.2.2.2++(cX++cp)) b5)) (fun y=>(y.1=true/\y.2.1=(x.h,x.m.bS,x.m.aX,x.m.bb)/\y.2.2.1.1=(k:Int)/\mv x.m.c x.m.la.bt k w {x.h.bE with ew:=gs.length} x.got (x.fs.map a3.bE) o= .fK y.2.2.1.2.1 y.2.2.1.2.2)\/(y.1=false/\(∃s',y.2.1.1=me s' bf gs.length gs.length/\mv x.m.c x.m.la.bt k w {x.h.bE with ew:=gs.length} x.got (x.fs.map a3.bE) o= .go (me s' bf gs.length gs.length).bE y.2.2.2.1 (y.2.2.2.2.1.map a3.bE) y.2.2.1.1/\∀E,dc H (y.2.2.2.2.2++(cX++cp)) E->fG E s'.gA s'.eM s'.gJ y.2.2.2.1/\gM E y.2.1.2.1 y.2.1.2.2.1 y.2.1.2.2.2 y.2.2.2.2.1)/\y.2.2.1.2.1=0/\y.2.2.1.2.2=0)) ?_ ?_
  ·conv=>whnf
   exact tZ
  intro y aoy bV
  obtain⟨cP,⟨s1,ni,nB,nt⟩,⟨bN,e,v⟩,gu,gq,aE⟩:=y
  rcases bV with⟨rfl,O,rfl,bs⟩|⟨rfl,⟨s',rfl,bs,aK⟩,rfl,rfl⟩
  ·obtain⟨rfl,rfl,rfl,rfl⟩:s1=x.h/\ni=x.m.bS/\nB=x.m.aX/\nt=x.m.bb:=by
    injection O with O V
    injection V with V aa
    injection aa with aa ag
    exact⟨O,V,aa,ag⟩
   conv=>whnf
   refine eS.on (X:=Unit) (fun _=> [(0,.v (ae pm)),(1,.v (J (w:Int))),(2,.v (J (k:Int))),(10,.p 10 0)]) (fun _=> [(10,185,q2 x.h x.m.bS x.m.aX x.m.bb k true e v)]) (fun _=>Y H az aF (i5 {x with cE:=x.cE.set k x.h,cf:=x.cf.set w k} pm (aE++(cX++cp)) b5)) (fun _=>True) ?_ ?_
   ·conv=>whnf
    exact tZ
   ·intro q OQ dh
    conv=>whnf
    exact tZ
  ·skip
   conv=>whnf
   refine eS.on (X:=Unit) (fun _=> [(0,.v (ae pm)),(1,.v (J (w:Int))),(2,.v (J (k:Int))),(10,.p 10 0)]) (fun _=> [(10,185,q2 (me s' bf gs.length gs.length) ni nB nt bN false 0 0)]) (fun _=>Y H az aF (i5 (x.go k w (me s' bf gs.length gs.length) ni nB nt bN gu gs gq) pm (aE++(cX++cp)) b5)) (fun _=>True) ?_ ?_
   ·conv=>whnf
    exact tZ
   ·intro q OQ dh
    conv=>whnf
    exact tZ
 ·have ae9:1<=x.h.o0/\x.h.o0<=7:=of_decide_eq_true bd.symm
  conv=>whnf
  repeat'((first
   |(show ay _ _ _ _ _ _;first|(refine akj (x:=x) (L:=cX++cp) (b5:=b5) (u:=o) (aC.up fun E a2=>a2.right) ?_))
   |(show bk _ _ _ _;first|(refine uS ?_)|(refine IM ?_)|(refine jL Ho (fy.own (l:=jP k x.h.op x.steps o) Ho (List.Mem.head _) ac8 1) (.there (.there (.there .here))) (show x.m.bB+1<=1000000000 by omega) ?_;intro da c7 qz xb;rw[ac9])|(refine hb Ho W ?_))
   |(show _/\_;first|(refine⟨by rfl,fun a0=>?_⟩)|(refine And.intro ?_ ?_))
   |(show ih _ _ _ _;first|(refine IS ?_)|(refine NM ?_))
   |(show gn _ _ _ _ _;first|(refine iP iN k rfl (show k<x.m.ec by omega) ?_)|(refine iP lj w rfl (show w<x.m.b6 by omega) ?_))
   |(show gN _ _ _;first|(refine gN.mk (ie.refl _) ?_)|(refine gN.mk (ie.imp (aJ.sub (NC x pm cp cX b5))) ?_))
   |(show eB _ _ _ _;first|(refine zE iN (.there .here) (show k<x.cE.length by omega) ?_)|(refine sU w lj (.there (.there .here)) (h1 w) (show w<x.cf.length by omega) ?_)|(refine st ?_))
   |(intro r jN))<;>(try conv=>whnf))
  all_goals
   have pW:yb x (x.call da (x.m.bB+1) c7 (jP k x.h.op x.steps o)) k w o:= .inr ⟨ae9,da,c7,qz,rfl⟩
   have MK:gB H (cX++cp) n k w (N+3-f) G (x.call da (x.m.bB+1) c7 (jP k x.h.op x.steps o)):=pW.ok aC S
   refine eS.on (X:=Bool×(cm×Option Addr×Nat×Nat)×(Int×Int×Int)×List Int×List a3×aw) (fun _=> [(0,.v (ae pm)),(1,.v (J (w:Int))),(2,.v (J (k:Int))),(10,.p 10 0)]) (fun y=> [(10,185,q2 y.2.1.1 y.2.1.2.1 y.2.1.2.2.1 y.2.1.2.2.2 y.2.2.1.1 y.1 y.2.2.1.2.1 y.2.2.1.2.2)]) (fun y=>Y H az aF (bif y.1 then i5 (x.call da (x.m.bB+1) c7 (jP k x.h.op x.steps o)) pm (y.2.2.2.2.2++(cX++cp)) b5 else IJ (x.call da (x.m.bB+1) c7 (jP k x.h.op x.steps o)) pm (y.2.2.2.2.2++(cX++cp)) b5)) (fun y=>(y.1=true/\y.2.1=(x.h,x.m.bS,x.m.aX,x.m.bb)/\y.2.2.1.1=(k:Int)/\mv x.m.c x.m.la.bt k w {x.h.bE with ew:=gs.length} x.got (x.fs.map a3.bE) o= .fK y.2.2.1.2.1 y.2.2.1.2.2)\/(y.1=false/\(∃s',y.2.1.1=me s' bf gs.length gs.length/\mv x.m.c x.m.la.bt k w {x.h.bE with ew:=gs.length} x.got (x.fs.map a3.bE) o= .go (me s' bf gs.length gs.length).bE y.2.2.2.1 (y.2.2.2.2.1.map a3.bE) y.2.2.1.1/\∀E,dc H (y.2.2.2.2.2++(cX++cp)) E->fG E s'.gA s'.eM s'.gJ y.2.2.2.1/\gM E y.2.1.2.1 y.2.1.2.2.1 y.2.1.2.2.2 y.2.2.2.2.1)/\y.2.2.1.2.1=0/\y.2.2.1.2.2=0)) ?_ ?_
   ·conv=>whnf
    exact tZ
   intro y aoy bV
   obtain⟨cP,⟨s1,ni,nB,nt⟩,⟨bN,e,v⟩,gu,gq,aE⟩:=y
   rcases bV with⟨rfl,O,rfl,bs⟩|⟨rfl,⟨s',rfl,bs,aK⟩,rfl,rfl⟩
   ·obtain⟨rfl,rfl,rfl,rfl⟩:s1=x.h/\ni=x.m.bS/\nB=x.m.aX/\nt=x.m.bb:=by
     injection O with O V
     injection V with V aa
     injection aa with aa ag
     exact⟨O,V,aa,ag⟩
    conv=>whnf
    refine eS.on (X:=Unit) (fun _=> [(0,.v (ae pm)),(1,.v (J (w:Int))),(2,.v (J (k:Int))),(10,.p 10 0)]) (fun _=> [(10,185,q2 x.h x.m.bS x.m.aX x.m.bb k true e v)]) (fun _=>Y H az aF (i5 {(x.call da (x.m.bB+1) c7 (jP k x.h.op x.steps o)) with cE:=x.cE.set k x.h,cf:=x.cf.set w k} pm (aE++(cX++cp)) b5)) (fun _=>True) ?_ ?_
    ·conv=>whnf
     exact tZ
    ·intro q OQ dh
     conv=>whnf
     exact tZ
   ·skip
    conv=>whnf
    refine eS.on (X:=Unit) (fun _=> [(0,.v (ae pm)),(1,.v (J (w:Int))),(2,.v (J (k:Int))),(10,.p 10 0)]) (fun _=> [(10,185,q2 (me s' bf gs.length gs.length) ni nB nt bN false 0 0)]) (fun _=>Y H az aF (i5 ((x.call da (x.m.bB+1) c7 (jP k x.h.op x.steps o)).go k w (me s' bf gs.length gs.length) ni nB nt bN gu gs gq) pm (aE++(cX++cp)) b5)) (fun _=>True) ?_ ?_
    ·conv=>whnf
     exact tZ
    ·intro q OQ dh
     conv=>whnf
     exact tZ
end
end Go.Proofs.YtcflcebplhdcpaaGreat
