/- Lemmas, part 34; each states its own conditions. -/
import Derived.Test.YtcflcebplhdcpaaGreatL31
import Derived.Test.YtcflcebplhdcpaaGreatL33
namespace Go.Proofs.YtcflcebplhdcpaaGreat
open Go.RowKit
set_option linter.unusedSimpArgs false
set_option linter.unusedVariables false
set_option maxRecDepth 100000
set_option maxHeartbeats 16000000
variable{H w0:World}{X:Nat->Prop}{M:aw}{K:Value->an->Prop}{Z:bF}
theorem XD {P:Prop} (h:P:=by
 repeat'((first
  |(show _/\_;first|(refine⟨by rfl,fun a0=>?_⟩))
  |(show ay _ _ _ _ _ _;first|(refine u9 dM (fun j a9 xp=>?_) (fun sD=>?_);(have iq:j=i:=by omega);subst iq)|(refine ay.imp (aJ.perm (kO _ _ _)) (BA (t:=t) (M:=_::M) (fs:=fs) (task:=j+1) (f:=fs[j]) (hZ:=_) (cJ:=_) (h4:=_) (vs:=[t.s.hold]) aj dM (fun E a2=>a2.jR (dM.each _ (fM a9))) (fun E a2=>a2.kg (t:=3) (List.Mem.head _) bC) rA bs S (fun e af=>?_) (fun fb g q dE o0 o1 aQ bl b n aE bX e6 kn=>?_)))|(refine Pw (t:={t with s:={t.s with hold:=t.u.val},bS:=some ⟨b,0,none⟩,aX:=n,bb:=n}) ?_))
  |(show bk _ _ _ _;first|(refine hb gK W ?_))
  |(exact cd.drop (K:=K) _ cn (V aC k ov S br _ bz bf cN bA b n _ (ap9 (A:=t.bS) (aX:=t.aX) (bb:=t.bb) dM S S S MI (by have:=(dM.each _ (fM a9)).path.len;simp only[gC,oM,pz];omega) (by rw[aqw aC];exact nv))))
  |(exact k1 (O _ af) cn)
  |(exact cd.drop (K:=K) _ (.cons_cons _ ((List.Sublist.refl aE).append (.cons _ (.refl _)))) (V fb g q dE o0 o1 aQ bl b n aE bX e6 kn))
  |(exfalso;omega)
  |refine eg ?_
  |(refine eh ?_ ?_<;>(try with_reducible intro ab)<;>(try(exfalso;omega)))
  |with_reducible intro r)<;>(try conv=>whnf))):P:=h
section
variable{t:l8}{bO:Nat}{fs:List a3}
theorem asc {i:Nat} (hi:i<fs.length) (aj:hP H t.c) (dM:gM H t.bS t.aX t.bb fs) (rA:fs[i].a5<=999999/\fs[i].ns<=999999) (bs:t.s.task=((i+1:Nat):Int)) (aT:i<1000) (kE:t.s.at_≠0)
  (O:∀e,x8 t.c fs[i] t.s.hN t.s.gZ [t.s.hold] e->Z (lQ e 0) (Y H w0 X (dy t bO M)))
  (V:∀fb g q dE o0 o1 aQ bl b n aE,s7 fs[i] t.s.hN t.s.gZ [t.s.hold] fb->r7 aE fs (i+1) t.c fb g q b n->kC t.s q fb.task=⟨dE,o0,o1,aQ,bl⟩->K (.tuple #[]) (Y H w0 X (dy {t with s:=kD t.s q ⟨dE,o0,o1,aQ,bl⟩,bS:=some ⟨b,0,none⟩,aX:=n,bb:=n} bO (aE++M)))):
  ay Tryz.prog (Y H w0 X (dy t bO M)) 147 #[ae bO] K Z:=by
 refine a7 Nq ?_
 intro az aF
 conv=>whnf
 exact XD
def zj(c:cr)(task fn:Int)(args path:List Int)(br:Option Addr)(dI bz:Nat)(bf:Option Addr)(cN bA:Nat):a3:=⟨task,br,dI,bz,path,fn,0,bf,cN,bA,mu c fn args,none,0,0,[],none,0,0,[],0,0,false⟩
structure Qu(z3:aw)(fs:List a3)(k:Nat)(g:a3)(b n:Nat):Prop where
 ok:∀iD E,dc iD z3 E->i1 E g/\((∀i (h:i<fs.length),i+1≠k->i1 E fs[i])->gM E (some ⟨b,0,none⟩) n n (kh fs k g))
 i7:n=max fs.length k
 lens:g.np=g.path.length/\g.aM=g.loc.length
theorem aqw{c:cr}{fn task:Int}{args:List Int}(h:wu c fn task args):(mu c fn args).length=(b8 c fn).locals.toNat:=by
 obtain⟨_,_,_,ag,a6⟩:=h
 simp only[mu,gC,List.length_replicate]
 omega
theorem ap9{c:cr}{k:Nat}{c2 fn:Int}{args path:List Int}{br bf:Option Addr}{dI bz cN bA b n:Nat}{A:Option Addr}{aX bb:Nat}{Kk:World}(dM:gM Kk A aX bb fs)(U:1<=k/\k<=1000)(vU:dI<=1000000)(nv:cN<=1000000)(aB:n=(if aX>k then aX else k))(e1:dI=path.length)(e2:cN=(mu c fn args).length):
  Qu [(.slice (some ⟨b,0,none⟩) n n,.row 108 10 ((kh fs k (zj c c2 fn args path br dI bz bf cN bA)).flatMap a3.l)),(.slice br dI bz,.row 3 1 (is path)),(.slice bf cN bA,.row 3 1 (is (mu c fn args)))] fs k (zj c c2 fn args path br dI bz bf cN bA) b n:=by
 refine⟨fun iD E a2=>?_,by have:=dM.len;rw[aB];split<;>omega,e1,e2⟩
 have aZ:i1 E (zj c c2 fn args path br dI bz bf cN bA):=⟨a2.kg (t:=3) (.tail _ (.head _)) vU,a2.kg (t:=3) (.tail _ (.tail _ (.head _))) nv,⟨.inl rfl,rfl,Nat.le_refl _,cY _⟩,⟨.inl rfl,rfl,Nat.le_refl _,cY _⟩⟩
 refine⟨aZ,fun CI=>?_⟩
 obtain⟨a6,bU,dh,cT⟩:=a2.row _ _ _ 108 10 ((kh fs k (zj c c2 fn args path br dI bz bf cN bA)).flatMap a3.l) (List.Mem.head _)
 rw[tj a3.l 10 a3.xB] at bU
 exact⟨a6,by omega,Nat.le_refl _,by have:=dM.dB;subst aB;split<;>omega,Vl CI U.1 aZ⟩
theorem asb {i:Nat} (hi:i<fs.length) (aj:hP H t.c) (dM:gM H t.bS t.aX t.bb fs) (sC:(b8 t.c t.s.iA).locals<=1000) (bs:t.s.task=((i+1:Nat):Int)) (aT:i<1000) (kE:t.s.at_=0) {args:List Int} (bd:fG H t.s.gA t.s.eM t.s.gJ args) (zc:fs[i].np<=999999)
  (O:¬(1<=t.u.val/\t.u.val<=64/\wu t.c t.s.iA t.u.val args)->Z (lQ 1 0) (Y H w0 X (dy t bO M)))
  (V:wu t.c t.s.iA t.u.val args->∀(k:Nat),t.u.val=k->k<=64->∀br dI bz bf cN bA b n aE,Qu aE fs k (zj t.c t.u.val t.s.iA args (fs[i].path++[fs[i].many]) br dI bz bf cN bA) b n->K (.tuple #[]) (Y H w0 X (dy {t with s:=rm {t.s with hold:=t.u.val} 2 1 ⟨8,t.a1,t.u.val,0⟩,bS:=some ⟨b,0,none⟩,aX:=n,bb:=n} bO (aE++M)))):
  ay Tryz.prog (Y H w0 X (dy t bO M)) 147 #[ae bO] K Z:=by
 refine a7 Nq ?_
 intro az aF
 conv=>whnf
 repeat'((first
  |(show eS _ _;first|(refine eS.go ?_))
  |(show gN _ _ _;first|(refine gN.mk (ie.refl _) ?_)|(refine gN.mk (ie.imp (aJ.sub cn)) ?_))
  |(show _/\_;first|(refine And.intro ?_ ?_))
  |(show ih _ _ _ _;first|(refine IS ?_)|(refine NM ?_))
  |(show ay _ _ _ _ _ _;first|((refine u9 dM (fun j a9 xp=>?_) (fun sD=>?_);(have iq:j=i:=by omega);subst iq))|(refine ack (dM.each _ (fM a9)).path (fun da c7 qz xb=>?_))|(refine ay.anchor [] _ TA.dg rfl (fun E w fV a2=>WI (a2.code aj) sC (a2.FM bd) (a2.kg (t:=3) b7 S) (fun aB=>hR.go (aE:=[]) ?_) (fun aC br bz bf cN bA dS ep nv=>hR.go (aE:=[_,_]) ?_))))
  |(show ff _ _ _ _ _;first|(refine Oc W aD W ?_))
  |(show bk _ _ _ _;first|(refine uS ?_)|(refine IM ?_))
  |(show eB _ _ _ _;first|(refine st ?_))
  |(refine hy.go ?_)
  |(refine pE.go ?_)
  |(refine Od W W ?_)
  |((refine k1 (O ?_) cn;(rintro⟨m8,p8,wg⟩;first|omega|exact absurd wg av)))
  |(refine ba.dec (fun ab=>?_) (fun ab=>?_)<;>try(exfalso;omega))
  |(refine ba.v7 (fun ab=>?_) (fun ab=>?_)<;>try(exfalso;omega))
  |(refine ba.sk (fun ab=>?_) (fun ab=>?_)<;>try(exfalso;omega))
  |(refine ba.sM (fun ab=>?_) (fun ab=>?_)<;>try(exfalso;omega))
  |(refine ba.Uy (fun ab=>?_) (fun ab=>?_))
  |(refine ba.intro (fun ab=>?_) (fun ab=>?_))
  |(intro r jN)
  |((exfalso;omega)))<;>(try conv=>whnf))
 all_goals
  obtain⟨k,ov⟩:=uc (show 0<=t.u.val by omega)
  refine ay.imp (aJ.perm (vo (l₁:=[_,_,_]))) (Xa (t:=t) (task:=k) (c2:=t.u.val) ov (f:=zj t.c t.u.val t.s.iA args (fs[j].path++[fs[j].many]) br _ bz bf cN bA) dM S (fun b n MI=>?_))
  conv=>whnf
 all_goals exact XD
end
theorem XE {P:Prop} (h:P:=by
 repeat'((first
  |(show ay _ _ _ _ _ _;first|(refine JT (t:=t) (M:=M) aB (fun ei o0 o1 aQ bl a8 aU=>?_))|(refine u9 dM (fun j a9 xp=>?_) (fun sD=>?_);(have iq:j=i:=by omega);subst iq)|(refine BA (t:=t) (M:=M) (fs:=fs) (task:=j+1) (f:=fs[j]) (hZ:=t.s.gA) (cJ:=t.s.eM) (h4:=t.s.gJ) (vs:=got) aj dM (fun E a2=>a2.jR (dM.each _ (fM a9))) (fun E a2=>a2.FM bd) rA bs S (fun e af=>?_) (fun fb g q dE o0 o1 aQ bl b n aE bX e6 kn=>?_))|(refine JQ (t:=t) (M:=M) (f:=fs[j]) vS S (fun AZ o5 Mz=>?_) (fun sD=>?_)))
  |(refine ba.Ni ?_ ?_;(focus(simp only[CU,BP];done)))
  |(exact hD (O S e af))
  |(exact cA (V S fb g q dE o0 o1 aQ bl b n aE bX e6 kn))
  |(exact hD (ag S))
  |(refine ba.Te ?_ ?_;(focus(simp only[CU,Bool.not_false];done)))
  |(exact cA (O ei o0 o1 aQ bl a8 aU))
  |(exfalso;omega)
  |refine eg ?_
  |(refine eh ?_ ?_<;>(try with_reducible intro ab)<;>(try(exfalso;omega)))
  |with_reducible intro r)<;>(try conv=>whnf))):P:=h
section
variable{t:l8}{bO:Nat}{fs:List a3}
theorem ash (aB:1<=t.la.bt/\t.la.bt<=8) (kE:t.s.at_=0) (CU:t.u.eG=false)
  (O:∀ei o0 o1 aQ bl,ei=rl t.la.bt 0->qY t.la.bt t.a1 t.dP ei=⟨o0,o1,aQ,bl⟩->K (.tuple #[]) (Y H w0 X (dy {t with s:=xS t.s ei ⟨o0,o1,aQ,bl⟩} bO M))):
  ay Tryz.prog (Y H w0 X (dy t bO M)) 149 #[ae bO] K Z:=by
 refine a7 Ft ?_
 intro az aF
 conv=>whnf
 exact XE
theorem asg {i:Nat} (hi:i<fs.length) (aj:hP H t.c) (dM:gM H t.bS t.aX t.bb fs) (rA:fs[i].a5<=999999/\fs[i].ns<=999999) (bs:t.s.task=((i+1:Nat):Int)) (aT:i<1000) (kE:t.s.at_=0) (CU:t.u.eG=true) {got:List Int} (bd:fG H t.s.gA t.s.eM t.s.gJ got) (sx:fs[i].kids.length<=t.s.eM)
  (O:got.length=fs[i].kids.length->∀e,x8 t.c fs[i] t.s.hN t.s.gZ got e->Z (lQ e 0) (Y H w0 X (dy t bO M)))
  (V:got.length=fs[i].kids.length->∀fb g q dE o0 o1 aQ bl b n aE,s7 fs[i] t.s.hN t.s.gZ got fb->r7 aE fs (i+1) t.c fb g q b n->kC t.s q fb.task=⟨dE,o0,o1,aQ,bl⟩->K (.tuple #[]) (Y H w0 X (dy {t with s:=kD t.s q ⟨dE,o0,o1,aQ,bl⟩,bS:=some ⟨b,0,none⟩,aX:=n,bb:=n} bO (aE++M))))
  (ag:fs[i].kids.length<got.length->Z (lQ 1 0) (Y H w0 X (dy t bO M))):
  ay Tryz.prog (Y H w0 X (dy t bO M)) 149 #[ae bO] K Z:=by
 have vS:=(dM.each _ (fM hi)).kids
 have sA:=vS.len
 have Ii:=bd.len
 refine a7 Ft ?_
 intro az aF
 conv=>whnf
 exact XE
end
theorem PT {P:Prop} (h:P:=by
 repeat'((first
  |(show _/\_;first|(refine⟨by rfl,fun a0=>?_⟩))
  |(show ay _ _ _ _ _ _;first|(refine u9 dM (fun j a9 xp=>(aP ⟨by omega,by omega⟩).elim) (fun sD=>?_)))
  |(exact k1 O cn)
  |(exfalso;exact ar ⟨by omega,by assumption⟩)
  |refine eg ?_
  |(refine eh ?_ ?_<;>(try with_reducible intro ab)<;>(try(exfalso;omega)))
  |with_reducible intro r)<;>(try conv=>whnf))):P:=h
def a3.bE(f:a3):a3:=⟨f.task,none,f.np,0,f.path,f.fn,f.aA,none,f.aM,0,f.loc,none,f.ns,0,f.aO,none,f.a5,0,f.kids,f.many,f.aH,f.fail⟩
def cm.bE(s:cm):cm:=⟨s.phase,s.at_,s.task,s.hN,s.iA,s.gZ,s.gG,s.hl,s.j1,s.p3,none,s.eM,0,s.o0,s.o1,s.aQ,s.bl,none,s.aM,0,none,s.ns,0,none,s.ew,0,s.hold⟩
inductive mB where
 |fK (e v:Int)
 |go (s:cm) (got:List Int) (fs:List a3) (bN:Int)
def xP(q:z9):l5:=⟨q.kind,q.a,q.b,q.o0,q.o1,q.aQ,q.bl,none,q.got.length,0,q.got⟩
def CB(f:a3)(p:bR):a3:=⟨f.task,none,f.np,0,f.path,f.fn,p.aA,none,p.loc.length,0,p.loc,none,p.aO.length,0,p.aO,none,f.a5,0,f.kids,f.many,p.aH,p.fail⟩
def Pz(f:a3)(t:KE):a3:=⟨f.task,none,f.np,0,f.path,f.fn,f.aA,none,t.loc.length,0,t.loc,none,t.aO.length,0,t.aO,none,t.kids.length,0,t.kids,t.many,f.aH,f.fail⟩
def na(c:cr)(s:cm)(fs:List a3)(task:Nat)(f:a3)(a1:Int):mB:=
 if iB c f=false then .fK 1 0 else match jh c f with
  | .err e=> .fK e 0
  | .ok p q=> .go (kD s (xP q) (kC s (xP q) f.task)) q.got (kh fs task (CB f p)) a1
def ta(c:cr)(s:cm)(fs:List a3)(task:Nat)(f:a3)(vs:List Int)(a1:Int):mB:=match mM f s.hN s.gZ vs with
 |none=> .fK 1 0
 |some t=>na c s fs task (Pz f t) a1
def EE(fs:List a3)(task:Int):Option a3:=if 1<=task/\task<=fs.length then some (fs.getD (task.toNat-1) r2) else none
def tL(fs:List a3)(task:Int)(F:Nat->a3->mB):mB:=match EE fs task with
 |none=> .fK 1 0
 |some f=>F task.toNat f
def zD(n a1 dP:Int)(s:cm)(fs:List a3)(a bN:Int):mB:= .go (xS s (rl n a) (qY n a1 dP (rl n a))) [] fs bN
def Pe(n a1 dP:Int)(s:cm)(got:List Int)(fs:List a3)(u:cI)(bN:Int):mB:=
 if u.eG=false then zD n a1 dP s fs (Gd n s.at_) bN else
 if s.o0=16 then zD n a1 dP s fs 0 s.aQ else .go (rm {s with task:=u.val} 3 0 ⟨12,0,u.val,0⟩) got fs bN
def aoA(s:cm)(u:cI):List Int:=if s.o0=17 then [u.val] else if s.o0=18 then [] else [BG s.o0 u.val u.eG]
def Jj(c:cr)(s:cm)(fs:List a3)(u:cI)(bN:Int):mB:=tL fs s.task fun k f=>ta c s fs k f (aoA s u) bN
def abG(c:cr)(s:cm)(got:List Int)(f:a3)(val:Int):a3:=zj c val s.iA got (f.path++[f.many]) none (f.path++[f.many]).length 0 none (mu c s.iA got).length 0
def JA(c:cr)(a1:Int)(s:cm)(got:List Int)(fs:List a3)(u:cI)(bN:Int):mB:=tL fs s.task fun k f=>
 if s.at_≠0 then ta c s fs k f [s.hold] bN else
 if 1<=u.val/\u.val<=64/\wu c s.iA u.val got then .go (rm {s with hold:=u.val} 2 1 ⟨8,a1,u.val,0⟩) got (kh fs u.val.toNat (abG c s got f u.val)) bN else .fK 1 0
def EL(c:cr)(n a1 dP:Int)(s:cm)(fs:List a3)(u:cI)(bN:Int):mB:=
 if u.eG=false then zD n a1 dP s fs 0 bN else tL fs s.task fun k f=>na c s fs k f bN
def Aw(s:cm)(got:List Int)(fs:List a3)(f:a3)(at_ bN:Int):mB:=
 .go (rm {s with eM:=got.length} 4 at_ ⟨15,0,(f.kids.getD got.length ⟨0,0⟩).task,0⟩) got fs bN
def DJ(c:cr)(n a1 dP:Int)(s:cm)(got:List Int)(fs:List a3)(u:cI)(bN:Int):mB:=
 if s.at_=0 then
  if u.eG=false then zD n a1 dP s fs 0 bN else tL fs s.task fun k f=>
   if got.length=f.kids.length then ta c s fs k f got bN else if got.length<f.kids.length then Aw s got fs f 1 bN else .fK 1 0
 else tL fs s.task fun k f=>
  if got.length+1=f.kids.length then ta c s fs k f (got++[u.val]) bN else if got.length+1<f.kids.length then Aw s (got++[u.val]) fs f (cB (s.at_+1)) bN else .fK 1 0
def ER(n a1 dP:Int)(s:cm)(fs:List a3)(u:cI)(bN:Int):mB:=
 if u.eG=true then .fK 0 s.bl else if u.val=0 then zD n a1 dP s fs 0 bN else tL fs u.val fun _ f=>
  if 0<f.kids.length then Aw (II s u.val) [] fs f 1 bN else .fK 1 0
def ug.o(u:ug):cI:=⟨u.val,u.eG,u.err,u.c0⟩
def jG(t:l8)(got:List Int)(fs:List a3)(r:mB)(t':l8)(aE:aw):Prop:=
 ∃gu gq,r= .go t'.s.bE gu (gq.map a3.bE) t'.bN/\(∀iD E,dc iD aE E->fG E t.s.gA t.s.eM t.s.gJ got->gM E t.bS t.aX t.bb fs->fG E t'.s.gA t'.s.eM t'.s.gJ gu/\gM E t'.bS t'.aX t'.bb gq)/\
  (t'.s.bK=none/\t'.s.aM=0/\t'.s.bD=0/\t'.s.b4=none/\t'.s.ns=0/\t'.s.cs=0/\t'.s.ho=t.s.ho/\t'.s.ew=t.s.ew/\t'.s.h3=t.s.h3)
theorem jG.of{t t':l8}{got:List Int}{fs:List a3}{r fA:mB}{aE:aw}(e:r=fA)(h:jG t got fs fA t' aE):jG t got fs r t' aE:=e▸h
theorem zr(E:World):fG E none 0 0 []:=⟨.inl rfl,rfl,Nat.le_refl _,by decide⟩
theorem abk{fs:List a3}{i:Nat}{x:Int}(hi:i<fs.length)(aW:x=((i+1:Nat):Int)):EE (fs.map a3.bE) x=some fs[i].bE:=by
 subst aW
 unfold EE
 rw[if_pos (by rw[kz];omega)]
 have e:(((i+1:Nat):Int)).toNat-1=i:=by omega
 rw[e]
 simp[List.getD,hi]
theorem zs{fs:List a3}{i:Nat}{x:Int}{F:Nat->a3->mB}(hi:i<fs.length)(aW:x=((i+1:Nat):Int)):tL (fs.map a3.bE) x F=F (i+1) fs[i].bE:=by
 unfold tL
 rw[abk hi aW]
 subst aW
 rfl
theorem Dr{fs:List a3}{x:Int}{F:Nat->a3->mB}(h:¬(1<=x/\x<=fs.length)):tL (fs.map a3.bE) x F= .fK 1 0:=by
 unfold tL EE
 rw[if_neg (by rw[kz];exact h)]
theorem G9{fs:List a3}{x:Int}(h:1<=x/\x<=fs.length):∃i,i<fs.length/\x=((i+1:Nat):Int):=⟨x.toNat-1,by omega,by omega⟩
theorem T7(fs:List a3)(k:Nat)(g:a3):(kh fs k g).map a3.bE=kh (fs.map a3.bE) k g.bE:=by
 simp only[kh,List.map_set,zZ,List.map_replicate,kz]
 rfl
theorem E0{t:l8}{got:List Int}{fs:List a3}{a ei bN o0 o1 aQ bl:Int}(a8:ei=rl t.la.bt a)(aU:qY t.la.bt t.a1 t.dP ei=⟨o0,o1,aQ,bl⟩):jG t got fs (zD t.la.bt t.a1 t.dP t.s.bE (fs.map a3.bE) a bN) {t with s:=xS t.s ei ⟨o0,o1,aQ,bl⟩,bN:=bN} []:=by
 subst a8
 refine⟨[],fs,?_,fun iD E _ _ aK=>⟨zr E,aK⟩,rfl,rfl,rfl,rfl,rfl,rfl,rfl,rfl,rfl⟩
 unfold zD
 rw[aU]
 rfl
theorem RE{f g:a3}(O:g.task=f.task)(V:g.path=f.path)(aa:g.fn=f.fn)(ag:g.kids=f.kids)(a6:g.many=f.many)(bU:g.np=f.np/\g.a5=f.a5/\g.aM=g.loc.length/\g.ns=g.aO.length):CB f.bE ⟨g.aA,g.aH,g.fail,g.loc,g.aO⟩=g.bE:=by
 obtain⟨e1,e2,cR,dR⟩:=bU
 simp only[CB,a3.bE,O,V,aa,ag,a6,e1,e2,cR,dR]
theorem ar1{f g:a3}{k b:Int}{vs:List Int}(ai:f.np=f.path.length)(h:s7 f k b vs g):Pz f.bE ⟨g.aO,g.loc,g.kids,g.many⟩=g.bE:=by
 obtain⟨e1,e2,cR,dR⟩:=h.lens
 simp only[Pz,a3.bE,h.task,h.path,h.fn,h.aA,h.aH,h.fail,e1,e2,cR,dR,ai]
theorem aoR{z3:aw}{s:cm}{fs:List a3}{k:Nat}{c:cr}{f g:a3}{q:l5}{b n:Nat}{a1:Int}{p:Kw}(e6:r7 z3 fs k c f g q b n)(kn:kC s q f.task=p):na c s.bE (fs.map a3.bE) k f.bE a1= .go (kD s q p).bE q.got ((kh fs k g).map a3.bE) a1:=by
 obtain⟨gb,dd,dN,dA,hd⟩:=e6.lens
 unfold na
 rw[if_neg (by rw[show iB c f.bE=iB c f from rfl,e6.right];decide),show jh c f.bE=jh c f from rfl,e6.ej]
 show mB.go (kD s.bE (xP (gL q)) (kC s q f.task)) q.got (kh (fs.map a3.bE) k (CB f.bE ⟨g.aA,g.aH,g.fail,g.loc,g.aO⟩)) a1=_
 rw[kn,T7,RE e6.W3 e6.path e6.fn e6.kids e6.many ⟨gb,dd,dN,dA⟩]
 congr 1
 simp only[kD,cm.bE,xP,gL,hd]
theorem OT{s:cm}{fs:List a3}{k:Nat}{c:cr}{f:a3}{a1 e:Int}(h:iB c f=false/\e=1\/iB c f=true/\jh c f= .err e):na c s.bE (fs.map a3.bE) k f.bE a1= .fK e 0:=by
 unfold na
 rcases h with⟨h,rfl⟩|⟨h,V⟩
 ·rw[if_pos (show iB c f.bE=false from h)]
 ·rw[if_neg (by rw[show iB c f.bE=iB c f from rfl,h];decide),show jh c f.bE=jh c f from rfl,V]
theorem QP{s:cm}{fs:List a3}{k:Nat}{c:cr}{f g:a3}{vs:List Int}{a1:Int}(ai:f.np=f.path.length)(bX:s7 f s.hN s.gZ vs g):ta c s.bE (fs.map a3.bE) k f.bE vs a1=na c s.bE (fs.map a3.bE) k g.bE a1:=by
 unfold ta
 rw[show mM f.bE s.bE.hN s.bE.gZ vs=mM f s.hN s.gZ vs from rfl,bX.eq,<-ar1 ai bX]
theorem Cf{s:cm}{fs:List a3}{k:Nat}{c:cr}{f:a3}{vs:List Int}{a1 e:Int}(ai:f.np=f.path.length)(h:x8 c f s.hN s.gZ vs e):ta c s.bE (fs.map a3.bE) k f.bE vs a1= .fK e 0:=by
 rcases h with⟨h,rfl⟩|⟨g,bX,h⟩
 ·unfold ta
  rw[show mM f.bE s.bE.hN s.bE.gZ vs=mM f s.hN s.gZ vs from rfl,h]
 ·rw[QP ai bX,OT h]
section
variable{t:l8}{got:List Int}{fs:List a3}
theorem gM.ne{E:World}{A:Option Addr}{n c:Nat}(h:gM E A n c fs)(k:Nat):∀i (h:i<fs.length),i+1≠k->i1 E fs[i]:=fun i hi _=>h.each _ (fM hi)
theorem RL{aE:aw}{k:Nat}{f g:a3}{q:l5}{dE o0 o1 aQ bl:Int}{b n:Nat}(e6:r7 aE fs k t.c f g q b n)(kn:kC t.s q f.task=⟨dE,o0,o1,aQ,bl⟩):jG t got fs (na t.c t.s.bE (fs.map a3.bE) k f.bE t.bN) {t with s:=kD t.s q ⟨dE,o0,o1,aQ,bl⟩,bS:=some ⟨b,0,none⟩,aX:=n,bb:=n} aE:=
 ⟨q.got,kh fs k g,aoR e6 kn,fun iD E a2 _ aK=>⟨(e6.ok iD E a2).2.1,(e6.ok iD E a2).2.2 (aK.ne k)⟩,rfl,rfl,rfl,rfl,rfl,rfl,rfl,rfl,rfl⟩
theorem CE{aE:aw}{k:Nat}{f fb g:a3}{q:l5}{vs:List Int}{dE o0 o1 aQ bl:Int}{b n:Nat}(ai:f.np=f.path.length)(bX:s7 f t.s.hN t.s.gZ vs fb)(e6:r7 aE fs k t.c fb g q b n)(kn:kC t.s q fb.task=⟨dE,o0,o1,aQ,bl⟩):jG t got fs (ta t.c t.s.bE (fs.map a3.bE) k f.bE vs t.bN) {t with s:=kD t.s q ⟨dE,o0,o1,aQ,bl⟩,bS:=some ⟨b,0,none⟩,aX:=n,bb:=n} aE:=
 jG.of (QP ai bX) (RL e6 kn)
end
structure ky(N:Nat)(fs:List a3):Prop where
 len:fs.length<=1000
 dB:∀f∈fs,f.a5<=N/\f.ns<=100/\f.np<=N
 lens:∀f∈fs,f.np=f.path.length/\f.aM=f.loc.length/\f.ns=f.aO.length/\f.a5=f.kids.length
section
variable{t:l8}{bO:Nat}{got:List Int}{fs:List a3}
theorem ar6(dM:gM H t.bS t.aX t.bb fs)(aP:¬(1<=t.s.task/\t.s.task<=fs.length))(O:Z (lQ 1 0) (Y H w0 X (dy t bO M))):
  ay Tryz.prog (Y H w0 X (dy t bO M)) 146 #[ae bO] K Z:=by
 refine a7 IE ?_
 intro az aF
 conv=>whnf
 exact PT
theorem asd(dM:gM H t.bS t.aX t.bb fs)(aP:¬(1<=t.s.task/\t.s.task<=fs.length))(O:Z (lQ 1 0) (Y H w0 X (dy t bO M))):
  ay Tryz.prog (Y H w0 X (dy t bO M)) 147 #[ae bO] K Z:=by
 refine a7 Nq ?_
 intro az aF
 conv=>whnf
 exact PT
theorem Xc(dM:gM H t.bS t.aX t.bb fs)(aP:¬(1<=t.s.task/\t.s.task<=fs.length))(ar:¬(t.s.at_=0/\t.u.eG=false))(O:Z (lQ 1 0) (Y H w0 X (dy t bO M))):
  ay Tryz.prog (Y H w0 X (dy t bO M)) 149 #[ae bO] K Z:=by
 refine a7 Ft ?_
 intro az aF
 conv=>whnf
 exact PT
theorem ak6(aB:1<=t.la.bt/\t.la.bt<=8):z1 H 145 t (jG t got fs (Pe t.la.bt t.a1 t.dP t.s.bE got (fs.map a3.bE) t.u.o t.bN)) (fun _ _=>False):=fun w0 X M bO K Z jS il=>
 asa aB (fun hi ei o0 o1 aQ bl a8 aU=>jS _ [] (jG.of (if_pos hi) (E0 a8 aU)))
  (fun hi AA ei o0 o1 aQ bl a8 aU=>jS _ [] (jG.of ((if_neg (by rw[show t.u.o.eG=t.u.eG from rfl,hi];decide)).trans (if_pos AA)) (E0 a8 aU)))
  (fun hi AA=>jS _ [] (jG.of ((if_neg (by rw[show t.u.o.eG=t.u.eG from rfl,hi];decide)).trans (if_neg AA)) ⟨got,fs,rfl,fun _ _ _ bd aK=>⟨bd,aK⟩,rfl,rfl,rfl,rfl,rfl,rfl,rfl,rfl,rfl⟩))
theorem ak5(aj:hP H t.c)(dM:gM H t.bS t.aX t.bb fs)(gx:ky 99999 fs):z1 H 146 t (jG t got fs (Jj t.c t.s.bE (fs.map a3.bE) t.u.o t.bN)) (fun e v=>Jj t.c t.s.bE (fs.map a3.bE) t.u.o t.bN= .fK e v):=fun w0 X M bO K Z jS il=>by
 by_cases aP:1<=t.s.task/\t.s.task<=fs.length
 ·obtain⟨i,hi,bs⟩:=G9 aP
  have af:Jj t.c t.s.bE (fs.map a3.bE) t.u.o t.bN=ta t.c t.s.bE (fs.map a3.bE) (i+1) fs[i].bE (wh t) t.bN:=zs hi bs
  have ab:=gx.dB _ (fM hi)
  have ai:=(gx.lens _ (fM hi)).1
  have hlen:=gx.len
  by_cases R0:t.s.o0=17
  ·exact ar4 hi aj dM S bs S R0 (fun e h=>il e 0 t [] (af.trans (Cf ai h))) (fun fb g q dE o0 o1 aQ bl b n aE O V aa=>jS _ aE (jG.of af (CE ai O V aa)))
  by_cases R1:t.s.o0=18
  ·exact ar5 hi aj dM S bs S R1 (fun e h=>il e 0 t [] (af.trans (Cf ai h))) (fun fb g q dE o0 o1 aQ bl b n aE O V aa=>jS _ aE (jG.of af (CE ai O V aa)))
  ·exact ar3 hi aj dM S bs S ⟨R0,R1⟩ (fun e h=>il e 0 t [] (af.trans (Cf ai h))) (fun fb g q dE o0 o1 aQ bl b n aE O V aa=>jS _ aE (jG.of af (CE ai O V aa)))
 ·exact ar6 dM aP (il 1 0 t [] (Dr aP))
theorem ak7(aj:hP H t.c)(dM:gM H t.bS t.aX t.bb fs)(gx:ky 99999 fs)(sC:∀fn,(b8 t.c fn).locals<=1000)(bd:fG H t.s.gA t.s.eM t.s.gJ got):z1 H 147 t (jG t got fs (JA t.c t.a1 t.s.bE got (fs.map a3.bE) t.u.o t.bN)) (fun e v=>JA t.c t.a1 t.s.bE got (fs.map a3.bE) t.u.o t.bN= .fK e v):=fun w0 X M bO K Z jS il=>by
 by_cases aP:1<=t.s.task/\t.s.task<=fs.length
 ·obtain⟨i,hi,bs⟩:=G9 aP
  have af:JA t.c t.a1 t.s.bE got (fs.map a3.bE) t.u.o t.bN=_:=zs hi bs
  have ab:=gx.dB _ (fM hi)
  have ai:=(gx.lens _ (fM hi)).1
  have hlen:=gx.len
  by_cases kE:t.s.at_=0
  ·have vR:=af.trans (if_neg (show ¬t.s.bE.at_≠0 from fun h=>h kE))
   refine asb hi aj dM (sC _) bs S kE bd S (fun aB=>il 1 0 t [] (vR.trans (if_neg aB))) (fun aC k U awb br dI bz bf cN bA b n aE ko=>jS _ aE (jG.of (vR.trans (if_pos (show 1<=t.u.val/\t.u.val<=64/\wu t.c t.s.iA t.u.val got from⟨aC.2.1,by omega,aC⟩))) ?_))
   refine⟨got,kh fs k (zj t.c t.u.val t.s.iA got (fs[i].path++[fs[i].many]) br dI bz bf cN bA),?_,fun iD E a2 mm aK=>⟨mm,(ko.ok iD E a2).2 (aK.ne k)⟩,rfl,rfl,rfl,rfl,rfl,rfl,rfl,rfl,rfl⟩
   have e1:dI=(fs[i].path++[fs[i].many]).length:=ko.lens.1
   have e2:cN=(mu t.c t.s.iA got).length:=ko.lens.2
   have Ls:t.u.o.val.toNat=k:=by show t.u.val.toNat=k;omega
   rw[T7,Ls]
   subst e1 e2
   rfl
  ·exact asc hi aj dM S bs S kE (fun e h=>il e 0 t [] ((af.trans (if_pos kE)).trans (Cf ai h))) (fun fb g q dE o0 o1 aQ bl b n aE O V aa=>jS _ aE (jG.of (af.trans (if_pos kE)) (CE ai O V aa)))
 ·exact asd dM aP (il 1 0 t [] (Dr aP))
theorem ak3(aB:1<=t.la.bt/\t.la.bt<=8)(aj:hP H t.c)(dM:gM H t.bS t.aX t.bb fs)(gx:ky 99999 fs):z1 H 148 t (jG t got fs (EL t.c t.la.bt t.a1 t.dP t.s.bE (fs.map a3.bE) t.u.o t.bN)) (fun e v=>EL t.c t.la.bt t.a1 t.dP t.s.bE (fs.map a3.bE) t.u.o t.bN= .fK e v):=fun w0 X M bO K Z jS il=>by
 have bX:t.u.eG=true->EL t.c t.la.bt t.a1 t.dP t.s.bE (fs.map a3.bE) t.u.o t.bN=_:=fun hi=>if_neg (by rw[show t.u.o.eG=t.u.eG from rfl,hi];decide)
 exact arv aB aj dM gx.len (fun hi ei o0 o1 aQ bl a8 aU=>jS _ [] (jG.of (if_pos hi) (E0 a8 aU)))
  (fun hi aP=>il 1 0 t [] ((bX hi).trans (Dr aP)))
  (fun hi i h bs e af=>il e 0 t [] (((bX hi).trans (zs h bs)).trans (OT af)))
  (fun hi i h bs g q dE o0 o1 aQ bl b n aE e6 kn=>jS _ aE (jG.of ((bX hi).trans (zs h bs)) (RL e6 kn)))
theorem ak4(aB:1<=t.la.bt/\t.la.bt<=8)(dM:gM H t.bS t.aX t.bb fs):z1 H 150 t (jG t got fs (ER t.la.bt t.a1 t.dP t.s.bE (fs.map a3.bE) t.u.o t.bN)) (fun e v=>ER t.la.bt t.a1 t.dP t.s.bE (fs.map a3.bE) t.u.o t.bN= .fK e v):=fun w0 X M bO K Z jS il=>by
 cases hi:t.u.eG with
 |true=>exact arw hi (il 0 _ t [] (if_pos hi))
 |false=>
  have aT:ER t.la.bt t.a1 t.dP t.s.bE (fs.map a3.bE) t.u.o t.bN=_:=if_neg (by rw[show t.u.o.eG=t.u.eG from rfl,hi];decide)
  exact arx aB dM hi (fun O ei o0 o1 aQ bl a8 aU=>jS _ [] (jG.of (aT.trans (if_pos O)) (E0 a8 aU)))
   (fun O V=>il 1 0 t [] ((aT.trans (if_neg O)).trans (Dr V)))
   (fun i h ah U=>jS _ [] (jG.of (((aT.trans (if_neg (show ¬t.u.val=0 by omega))).trans (zs h (show t.u.val=((i+1:Nat):Int) by omega))).trans (if_pos U)) ⟨[],fs,by
    unfold Aw
    have e:(fs[i].bE.kids.getD ([]:List Int).length ⟨0,0⟩)=fs[i].kids[0]:=by
     show fs[i].kids.getD 0 ⟨0,0⟩=_
     simp[List.getD,U]
    rw[e]
    rfl,fun _ E _ _ aK=>⟨zr E,aK⟩,rfl,rfl,rfl,rfl,rfl,rfl,rfl,rfl,rfl⟩))
   (fun i h ah U=>il 1 0 _ [] (((aT.trans (if_neg (show ¬t.u.val=0 by omega))).trans (zs h (show t.u.val=((i+1:Nat):Int) by omega))).trans (if_neg (show ¬0<fs[i].kids.length by omega))))
theorem ak8(aB:1<=t.la.bt/\t.la.bt<=8)(aj:hP H t.c)(dM:gM H t.bS t.aX t.bb fs)(gx:ky 99999 fs)(bd:fG H t.s.gA t.s.eM t.s.gJ got)(fj:got.length<=100000)(aT:0<=t.s.at_):z1 H 149 t (jG t got fs (DJ t.c t.la.bt t.a1 t.dP t.s.bE got (fs.map a3.bE) t.u.o t.bN)) (fun e v=>DJ t.c t.la.bt t.a1 t.dP t.s.bE got (fs.map a3.bE) t.u.o t.bN= .fK e v):=fun w0 X M bO K Z jS il=>by
 have Ii:=bd.len
 have hlen:=gx.len
 by_cases kE:t.s.at_=0
 ·have a8:DJ t.c t.la.bt t.a1 t.dP t.s.bE got (fs.map a3.bE) t.u.o t.bN=_:=if_pos kE
  cases hi:t.u.eG with
  |false=>exact ash aB kE hi (fun ei o0 o1 aQ bl O aU=>jS _ [] (jG.of (a8.trans (if_pos hi)) (E0 O aU)))
  |true=>
   replace a8:=a8.trans (if_neg (by rw[show t.u.o.eG=t.u.eG from rfl,hi];decide))
   by_cases aP:1<=t.s.task/\t.s.task<=fs.length
   ·obtain⟨i,h,bs⟩:=G9 aP
    replace a8:=a8.trans (zs h bs)
    have ab:=gx.dB _ (fM h)
    have ai:=(gx.lens _ (fM h)).1
    by_cases U:t.s.eM<fs[i].kids.length
    ·replace a8:=a8.trans ((if_neg (show ¬got.length=fs[i].kids.length by omega)).trans (if_pos (show got.length<fs[i].kids.length by omega)))
     refine ase h dM bs S kE hi U (jS _ [] (jG.of a8 ⟨got,fs,?_,fun _ E _ mm aK=>⟨mm,aK⟩,rfl,rfl,rfl,rfl,rfl,rfl,rfl,rfl,rfl⟩))
     unfold Aw
     have e:(fs[i].bE.kids.getD got.length ⟨0,0⟩)=fs[i].kids[t.s.eM]:=by
      show fs[i].kids.getD got.length ⟨0,0⟩=_
      simp[List.getD,<-Ii,U]
     rw[e,<-Ii]
     rfl
    ·exact asg h aj dM S bs S kE hi bd S
      (fun O e af=>il e 0 t [] ((a8.trans (if_pos O)).trans (Cf ai af)))
      (fun O fb g q dE o0 o1 aQ bl b n aE V aa ag=>jS _ aE (jG.of (a8.trans (if_pos O)) (CE ai V aa ag)))
      (fun O=>il 1 0 t [] (a8.trans ((if_neg (show ¬got.length=fs[i].kids.length by omega)).trans (if_neg (show ¬got.length<fs[i].kids.length by omega)))))
   ·exact Xc dM aP (fun h=>by rw[hi] at h;exact absurd h.2 bC) (il 1 0 t [] (a8.trans (Dr aP)))
 ·have a8:DJ t.c t.la.bt t.a1 t.dP t.s.bE got (fs.map a3.bE) t.u.o t.bN=_:=if_neg kE
  by_cases aP:1<=t.s.task/\t.s.task<=fs.length
  ·obtain⟨i,h,bs⟩:=G9 aP
   replace a8:=a8.trans (zs h bs)
   have ab:=gx.dB _ (fM h)
   have ai:=(gx.lens _ (fM h)).1
   refine asf h aj dM S bs S S bd fj
    (fun O e aR aN af=>il e 0 _ [] ((a8.trans (if_pos O)).trans (Cf ai af)))
    (fun O fb g q dE o0 o1 aQ bl b n aE V aa ag=>jS _ aE (jG.of (a8.trans (if_pos O)) (CE ai V aa ag)))
    (fun j a9 O aR aN=>jS _ [_] (jG.of (a8.trans ((if_neg (show ¬got.length+1=fs[i].kids.length by omega)).trans (if_pos (show got.length+1<fs[i].kids.length by omega)))) ⟨got++[t.u.val],fs,?_,fun iD E a2 _ aK=>⟨a2.kg (t:=3) (List.Mem.head _) (show t.s.eM+1<=1000000 by omega),aK⟩,rfl,rfl,rfl,rfl,rfl,rfl,rfl,rfl,rfl⟩))
    (fun O aR aN=>il 1 0 _ [] (a8.trans ((if_neg (show ¬got.length+1=fs[i].kids.length by omega)).trans (if_neg (show ¬got.length+1<fs[i].kids.length by omega)))))
   unfold Aw
   have mg:(got++[t.u.o.val]).length=j:=by simp only[gC,oM,pz];omega
   have e:(fs[i].bE.kids.getD (got++[t.u.o.val]).length ⟨0,0⟩)=fs[i].kids[j]:=by
    rw[mg]
    show fs[i].kids.getD j ⟨0,0⟩=_
    simp[List.getD,a9]
   have adp:t.s.eM+1=j:=by omega
   rw[e,mg]
   refine congrArg (fun s=>mB.go s (got++[t.u.val]) (fs.map a3.bE) t.bN) ?_
   simp only[rm,cm.bE,adp]
  ·exact Xc dM aP (fun h=>kE h.1) (il 1 0 t [] (a8.trans (Dr aP)))
end
def mv(c:cr)(n a1 dP:Int)(s:cm)(got:List Int)(fs:List a3)(u:cI):mB:=
 if u.err≠0/\¬(s.o0=10/\u.err=16) then .fK u.err 0 else
 if s.phase=0 then Pe n a1 dP s got fs u a1 else if s.phase=1 then Jj c s fs u a1 else if s.phase=2 then JA c a1 s got fs u a1 else
 if s.phase=3 then EL c n a1 dP s fs u a1 else if s.phase=4 then DJ c n a1 dP s got fs u a1 else ER n a1 dP s fs u a1
section
theorem apy {c:cr} {la:c8} {s:cm} {bS:Option Addr} {aX bb:Nat} {a1 dP:Int} {u:ug} {got:List Int} {fs:List a3} (aB:1<=la.bt/\la.bt<=8) (aj:hP H c) (dM:gM H bS aX bb fs) (gx:ky 99999 fs) (sC:∀fn,(b8 c fn).locals<=1000) (bd:fG H s.gA s.eM s.gJ got) (fj:got.length<=100000) (aT:0<=s.at_) (aZ:u.ew<=u.h3) (agf:0<=s.phase/\s.phase<=5) (fi:s.o0=10->u.err=0\/u.err=1\/u.err=16)
  (O:∀e v aE,mv c la.bt a1 dP {s.bE with ew:=u.ew} got (fs.map a3.bE) u.o= .fK e v->K (.agg (q2 s bS aX bb a1 true e v).toArray) (Y H w0 X (aE++M)))
  (V:∀s' ni nB nt gu gq bN aE,mv c la.bt a1 dP {s.bE with ew:=u.ew} got (fs.map a3.bE) u.o= .go s'.bE gu (gq.map a3.bE) bN->(∀iD E,dc iD aE E->fG E s.gA s.eM s.gJ got->gM E bS aX bb fs->fG E s'.gA s'.eM s'.gJ gu/\gM E ni nB nt gq)->
   (s'.bK=none/\s'.aM=0/\s'.bD=0/\s'.b4=none/\s'.ns=0/\s'.cs=0/\s'.ho=u.ho/\s'.ew=u.ew/\s'.h3=u.ew)->K (.agg (q2 s' ni nB nt bN false 0 0).toArray) (Y H w0 X (aE++M))):
  ay Tryz.prog (Y H w0 X M) 104 #[.agg c.l.toArray,.agg la.l.toArray,.agg s.l.toArray,.slice bS aX bb,J a1,J dP,.agg u.l.toArray] K Z:=by
 by_cases af:u.err≠0/\¬(s.o0=10/\u.err=16)
 ·by_cases h:s.o0=10
  ·have L3:u.err=1:=by
    rcases fi h with aa|aa|aa
    ·exact absurd aa af.1
    ·exact aa
    ·exact absurd ⟨h,aa⟩ af.2
   exact asr ⟨L3,h⟩ (O u.err 0 [] (if_pos af))
  ·exact asq ⟨af.1,h⟩ (O u.err 0 [] (if_pos af))
 have aS:u.err=0\/s.o0=10/\u.err=16:=by
  by_cases h:u.err=0
  ·exact .inl h
  ·exact .inr (Classical.byContradiction fun aa=>af ⟨h,aa⟩)
 rcases(show s.phase=0\/s.phase=1\/s.phase=2\/s.phase=3\/s.phase=4\/s.phase=5 by omega) with bh|bh|bh|bh|bh|bh
 ·refine asi aS aZ bh (ak6 (t:=x4 c la s bS aX bb a1 dP u) (got:=got) (fs:=fs) aB) (fun t' aE h=>?_) (fun e v aE h=>?_)
  ·obtain⟨gu,gq,e,f,ju⟩:=h
   exact V t'.s t'.bS t'.aX t'.bb gu gq t'.bN aE ((if_neg af).trans ((if_pos bh).trans e)) f ju
  ·exact h.elim
 ·refine asj aS aZ bh (ak5 (t:=x4 c la s bS aX bb a1 dP u) (got:=got) (fs:=fs) aj dM gx) (fun t' aE h=>?_) (fun e v aE h=>?_)
  ·obtain⟨gu,gq,e,f,ju⟩:=h
   exact V t'.s t'.bS t'.aX t'.bb gu gq t'.bN aE ((if_neg af).trans ((if_neg (show ¬s.phase=0 by omega)).trans ((if_pos bh).trans e))) f ju
  ·exact O e v aE ((if_neg af).trans ((if_neg (show ¬s.phase=0 by omega)).trans ((if_pos bh).trans h)))
 ·refine asl aS aZ bh (ak7 (t:=x4 c la s bS aX bb a1 dP u) (got:=got) (fs:=fs) aj dM gx sC bd) (fun t' aE h=>?_) (fun e v aE h=>?_)
  ·obtain⟨gu,gq,e,f,ju⟩:=h
   exact V t'.s t'.bS t'.aX t'.bb gu gq t'.bN aE ((if_neg af).trans ((if_neg (show ¬s.phase=0 by omega)).trans ((if_neg (show ¬s.phase=1 by omega)).trans ((if_pos bh).trans e)))) f ju
  ·exact O e v aE ((if_neg af).trans ((if_neg (show ¬s.phase=0 by omega)).trans ((if_neg (show ¬s.phase=1 by omega)).trans ((if_pos bh).trans h))))
 ·refine asm aS aZ bh (ak3 (t:=x4 c la s bS aX bb a1 dP u) (got:=got) (fs:=fs) aB aj dM gx) (fun t' aE h=>?_) (fun e v aE h=>?_)
  ·obtain⟨gu,gq,e,f,ju⟩:=h
   exact V t'.s t'.bS t'.aX t'.bb gu gq t'.bN aE ((if_neg af).trans ((if_neg (show ¬s.phase=0 by omega)).trans ((if_neg (show ¬s.phase=1 by omega)).trans ((if_neg (show ¬s.phase=2 by omega)).trans ((if_pos bh).trans e))))) f ju
  ·exact O e v aE ((if_neg af).trans ((if_neg (show ¬s.phase=0 by omega)).trans ((if_neg (show ¬s.phase=1 by omega)).trans ((if_neg (show ¬s.phase=2 by omega)).trans ((if_pos bh).trans h)))))
 ·refine asn aS aZ bh (ak8 (t:=x4 c la s bS aX bb a1 dP u) (got:=got) (fs:=fs) aB aj dM gx bd fj aT) (fun t' aE h=>?_) (fun e v aE h=>?_)
  ·obtain⟨gu,gq,e,f,ju⟩:=h
   exact V t'.s t'.bS t'.aX t'.bb gu gq t'.bN aE ((if_neg af).trans ((if_neg (show ¬s.phase=0 by omega)).trans ((if_neg (show ¬s.phase=1 by omega)).trans ((if_neg (show ¬s.phase=2 by omega)).trans ((if_neg (show ¬s.phase=3 by omega)).trans ((if_pos bh).trans e)))))) f ju
  ·exact O e v aE ((if_neg af).trans ((if_neg (show ¬s.phase=0 by omega)).trans ((if_neg (show ¬s.phase=1 by omega)).trans ((if_neg (show ¬s.phase=2 by omega)).trans ((if_neg (show ¬s.phase=3 by omega)).trans ((if_pos bh).trans h))))))
 ·refine aso aS aZ bh (ak4 (t:=x4 c la s bS aX bb a1 dP u) (got:=got) (fs:=fs) aB dM) (fun t' aE h=>?_) (fun e v aE h=>?_)
  ·obtain⟨gu,gq,e,f,ju⟩:=h
   exact V t'.s t'.bS t'.aX t'.bb gu gq t'.bN aE ((if_neg af).trans ((if_neg (show ¬s.phase=0 by omega)).trans ((if_neg (show ¬s.phase=1 by omega)).trans ((if_neg (show ¬s.phase=2 by omega)).trans ((if_neg (show ¬s.phase=3 by omega)).trans ((if_neg (show ¬s.phase=4 by omega)).trans (e))))))) f ju
  ·exact O e v aE ((if_neg af).trans ((if_neg (show ¬s.phase=0 by omega)).trans ((if_neg (show ¬s.phase=1 by omega)).trans ((if_neg (show ¬s.phase=2 by omega)).trans ((if_neg (show ¬s.phase=3 by omega)).trans ((if_neg (show ¬s.phase=4 by omega)).trans (h)))))))
end
structure vt(n:Int)(N:Nat)(s:cm)(got:List Int):Prop where
 dE:0<=s.phase/\s.phase<=5
 at_:0<=s.at_/\s.at_<=N+16
 got:got.length<=N+101
 wS:s.phase=0->s.o0=16->0<=s.aQ/\s.aQ<n
theorem BH{x:Int}(h: -9000000000000000000<=x/\x<=9000000000000000000):cB x=x:=cK S
theorem apA{n a1 dP a:Int}(aB:1<=n/\n<=8)(kq:0<=a1/\a1<n)(a8:0<=a/\a<=1000000)(h:(qY n a1 dP a).o0=16):0<=(qY n a1 dP a).aQ/\(qY n a1 dP a).aQ<n:=by
 unfold qY at h|-
 split at h
 ·dsimp only at h;omega
 rename_i O
 rw[if_neg O]
 split at h
 ·dsimp only at h;omega
 rename_i V
 rw[if_neg V]
 split at h
 ·rename_i aa
  rw[if_pos aa]
  show 0<=(cB (cB (cB (a1+a)-n)+1)).tmod n/\(cB (cB (cB (a1+a)-n)+1)).tmod n<n
  rw[BH (x:=a1+a) S,BH (x:=a1+a-n) S,BH (x:=a1+a-n+1) S]
  exact⟨zV _ S,BZ _ S⟩
 ·dsimp only at h;omega
theorem abl{n a:Int}(aB:1<=n/\n<=8)(a8:0<=a):0<=rl n a/\rl n a<=14:=by
 unfold rl
 rw[BH (x:=2*n) S,BH (x:=2*n-1) S]
 split<;>omega
theorem ap5{n a:Int}(a8:0<=a/\a<=1000000):0<=Gd n a:=by
 unfold Gd
 split
 ·omega
 ·rw[BH S];omega
theorem ky.up{N M:Nat}{fs:List a3}(h:ky N fs)(ad:N<=M):ky M fs:=⟨h.len,fun f aK=>by have:=h.dB f aK;omega,h.lens⟩
theorem Vk{fs:List a3}{k:Nat}{g f:a3}(h:f∈kh fs k g):f∈fs\/f=r2\/f=g:=by
 rcases List.mem_or_eq_of_mem_set h with h|h
 ·rcases iw.1 h with h|h
  ·exact .inl h
  ·exact .inr (.inl (List.eq_of_mem_replicate h))
 ·exact .inr (.inr h)
theorem ky.put{N:Nat}{fs:List a3}{k:Nat}{g:a3}(h:ky N fs)(U:k<=1000)(aZ:(g.a5<=N/\g.ns<=100/\g.np<=N)/\g.np=g.path.length/\g.aM=g.loc.length/\g.ns=g.aO.length/\g.a5=g.kids.length):ky N (kh fs k g):=by
 refine⟨by have:=h.len;rw[anP];omega,fun f aK=>?_,fun f aK=>?_⟩
 ·rcases Vk aK with aK|rfl|rfl
  ·exact h.dB f aK
  ·exact⟨cY _,cY _,cY _⟩
  ·exact aZ.1
 ·rcases Vk aK with aK|rfl|rfl
  ·exact h.lens f aK
  ·exact⟨rfl,rfl,rfl,rfl⟩
  ·exact aZ.2
def Ac(n:Int)(N:Nat):mB->Prop
 | .fK _ _=>True
 | .go s got fs bN=>vt n N s got/\ky N fs/\0<=bN/\bN<n
section
variable{n a1 dP:Int}{N:Nat}{s:cm}{got:List Int}{fs:List a3}{c:cr}{u:cI}
theorem Gb{a bN:Int}(aB:1<=n/\n<=8)(kq:0<=a1/\a1<n)(aK:ky N fs)(a8:0<=a)(ar:0<=bN/\bN<n):Ac n N (zD n a1 dP s fs a bN):=by
 have h:=abl aB a8
 exact⟨⟨⟨my _,by show(0:Int)<=5;decide⟩,⟨h.1,by show rl n a<=_;omega⟩,cY _,fun _ AA=>apA aB kq S AA⟩,aK,ar⟩
theorem aek{q:l5}{task:Int}(ar:1<=s.phase/\s.phase<=5):1<=(kC s q task).dE/\(kC s q task).dE<=5:=by
 unfold kC
 split
 ·dsimp only;omega
 split
 ·dsimp only;omega
 split
 ·dsimp only;omega
 split
 ·dsimp only;omega
 split
 ·dsimp only;omega
 split
 ·dsimp only;omega
 ·exact ar
theorem VR{k:Nat}{f:a3}{bN:Int}(ar:1<=s.phase/\s.phase<=5)(U:k<=1000)(aK:ky N fs)(sv:f.np=f.path.length/\f.aM=f.loc.length/\f.ns=f.aO.length/\f.a5=f.kids.length)(dM:f.a5<=N/\f.np<=N)(xr:0<=bN/\bN<n):Ac n N (na c s fs k f bN):=by
 unfold na
 split
 ·trivial
 rename_i aP
 split
 ·trivial
 rename_i p q af
 have qD:iB c f=true:=by simpa using aP
 have c3:=Jm qD
 have h:=I3 (by have:=c3.ns;omega) af
 have bh:=aek (s:=s) (q:=xP q) (task:=f.task) ar
 refine⟨⟨⟨by show 0<=(kC s (xP q) f.task).dE;omega,bh.2⟩,⟨my _,by show(0:Int)<=_;omega⟩,by omega,fun aT=>?_⟩,aK.put U ⟨⟨dM.1,h.1.1,dM.2⟩,sv.1,rfl,rfl,sv.2.2.2⟩,xr⟩
 have aT:(kC s (xP q) f.task).dE=0:=aT
 omega
theorem G6{k:Nat}{f:a3}{vs:List Int}{bN:Int}(ar:1<=s.phase/\s.phase<=5)(U:k<=1000)(aK:ky N fs)(sv:f.np=f.path.length/\f.aM=f.loc.length/\f.ns=f.aO.length/\f.a5=f.kids.length)(dM:f.a5<=N/\f.np<=N)(xr:0<=bN/\bN<n):Ac n (N+1) (ta c s fs k f vs bN):=by
 unfold ta
 split
 ·trivial
 rename_i r af
 have ai:=W7 af
 exact VR ar U (aK.up (qp _)) ⟨sv.1,rfl,rfl,rfl⟩ ⟨by show r.kids.length<=_;omega,by show f.np<=_;omega⟩ xr
theorem Ds{x:Int}{F:Nat->a3->mB}(h:∀i (h:i<fs.length),x=((i+1:Nat):Int)->Ac n N (F (i+1) fs[i])):Ac n N (tL fs x F):=by
 unfold tL
 split
 ·trivial
 rename_i f af
 unfold EE at af
 split at af
 ·rename_i aW
  injection af with af
  have O:=h (x.toNat-1) S S
  have e:x.toNat-1+1=x.toNat:=by omega
  rw[e] at O
  rw[<-af,show fs.getD (x.toNat-1) r2=fs[x.toNat-1] from by simp[List.getD,show x.toNat-1<fs.length by omega]]
  exact O
 ·cases af
theorem LM{f:a3}{at_ bN:Int}(aK:ky N fs)(a8:0<=at_/\at_<=N+16)(aZ:got.length<=N+101)(xr:0<=bN/\bN<n):Ac n N (Aw s got fs f at_ bN):=
 ⟨⟨⟨by show(0:Int)<=4;decide,by show(4:Int)<=5;decide⟩,a8,aZ,fun h=>absurd (show(4:Int)=0 from h) bC⟩,aK,xr⟩
theorem ast(aB:1<=n/\n<=8)(eC:N<=90000)(kq:0<=a1/\a1<n)(ar:vt n N s got)(aK:ky N fs):Ac n (N+1) (mv c n a1 dP s got fs u):=by
 have qA:ky (N+1) fs:=aK.up (qp _)
 have hlen:=aK.len
 have agf:=ar.dE
 have kE:=ar.at_
 have Sn:=ar.got
 have avT:∀a:Int,a=0->0<=a:=fun a h=>by omega
 unfold mv
 split
 ·trivial
 split
 ·rename_i bh
  unfold Pe
  split
  ·exact Gb aB kq qA (ap5 S) kq
  split
  ·exact Gb aB kq qA (my _) (ar.wS bh av)
  ·exact⟨⟨⟨by show(0:Int)<=3;decide,by show(3:Int)<=5;decide⟩,⟨my _,by show(0:Int)<=_;omega⟩,by omega,fun h=>absurd (show(3:Int)=0 from h) bC⟩,qA,kq⟩
 split
 ·exact Ds fun i hi aW=>G6 S S aK (aK.lens _ (fM hi)) (by have:=aK.dB _ (fM hi);omega) kq
 split
 ·refine Ds fun i hi aW=>?_
  have O:=aK.dB _ (fM hi)
  have V:=aK.lens _ (fM hi)
  split
  ·exact G6 S S aK V S kq
  split
  ·refine⟨⟨⟨by show(0:Int)<=2;decide,by show(2:Int)<=5;decide⟩,⟨by show(0:Int)<=1;decide,by show(1:Int)<=_;omega⟩,by omega,fun h=>absurd (show(2:Int)=0 from h) bC⟩,qA.put S ⟨⟨cY _,cY _,?_⟩,rfl,rfl,rfl,rfl⟩,kq⟩
   show(fs[i].path++[fs[i].many]).length<=_
   simp only[gC,oM,pz]
   omega
  ·trivial
 split
 ·unfold EL
  split
  ·exact Gb aB kq qA (my _) kq
  ·refine Ds fun i hi aW=>?_
   have O:=aK.dB _ (fM hi)
   exact VR S S qA (aK.lens _ (fM hi)) S kq
 split
 ·unfold DJ
  split
  ·split
   ·exact Gb aB kq qA (my _) kq
   ·refine Ds fun i hi aW=>?_
    have O:=aK.dB _ (fM hi)
    split
    ·exact G6 S S aK (aK.lens _ (fM hi)) S kq
    split
    ·exact LM qA S S kq
    ·trivial
  ·refine Ds fun i hi aW=>?_
   have O:=aK.dB _ (fM hi)
   split
   ·exact G6 S S aK (aK.lens _ (fM hi)) S kq
   split
   ·refine LM qA ?_ (by simp only[gC,oM,pz];omega) kq
    rw[BH S]
    omega
   ·trivial
 ·unfold ER
  split
  ·trivial
  split
  ·exact Gb aB kq qA (my _) kq
  ·refine Ds fun i hi aW=>?_
   split
   ·exact LM qA S (cY _) kq
   ·trivial
end
end Go.Proofs.YtcflcebplhdcpaaGreat
