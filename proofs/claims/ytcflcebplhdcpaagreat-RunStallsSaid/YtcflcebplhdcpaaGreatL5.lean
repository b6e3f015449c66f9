/- Lemmas, part 5; each states its own conditions. -/
import Derived.Test.YtcflcebplhdcpaaGreatL4
namespace Go.Proofs.YtcflcebplhdcpaaGreat
open Go.RowKit
set_option linter.unusedSimpArgs false
set_option linter.unusedVariables false
set_option maxRecDepth 100000
set_option maxHeartbeats 16000000
section
variable{P:Program}{T:List (Nat×c5)}{N:gI}{C:an}{o:Oper}{ops:List Oper}
theorem anH{e:Bool}{Z:bF}{ao:Operand->cD}{jN QY:Nat->Option (TypeId×List Value)}{K:yq}(h:xL T o ao jN fun x fO=>(∀b,fO=some b->QY b=jN b)/\K C x none):qP P T e o C ao QY K Z:=by
 cases aU:o.op<;>simp only[xL,qP,aU,Hx] at h|-<;>try exact False.elim h
 case nilCheck x=>
  split at h
  ·rename_i aW;simp only[aW];exact h.2
  ·rename_i aW;simp only[aW];exact h.2
  ·exact False.elim h
 case move x=>exact h.2
 case assign x=>exact h.2
 case pick c x y=>
  split at h
  ·rename_i t bs
   rw[bs]
   exact ba.mono (·.2) (·.2) h
  ·exact False.elim h
 case build t parts=>
  split at h
  ·rename_i i ai
   split at h
   ·rename_i ji aL
    rw[ai]
    simp only[aL]
    exact oC.mono (fun ps=>nr.mono fun cs=>pM.mono fun l h=>h.2) h
   ·exact False.elim h
  ·exact False.elim h
 case fieldAddr t x f=>
  split at h
  ·rename_i i ai
   split at h
   ·rename_i ji aL
    split at h
    ·rename_i fX sz aK
     split at h
     ·rename_i b off aW
      simp only[ai,aL,aK,aW]
      exact h.2
     ·rename_i a aW
      simp only[ai,aL,aK,aW]
      exact h.2
     ·exact False.elim h
    ·exact False.elim h
   ·exact False.elim h
  ·exact False.elim h
 case load t x=>
  split at h
  ·rename_i b off aW
   split at h
   ·rename_i ty cs i ab ai
    split at h
    ·rename_i dX
     rw[mI] at h
     obtain⟨O,V,aa⟩:=oj h
     have dQ:=(V b rfl).trans ab
     simp only[aW,dQ,ai,dX,mI]
     rw[O]
     exact aa
    ·rename_i dX
     split at h
     ·rename_i v l ah
      have dQ:=(h.1 b rfl).trans ab
      simp only[aW,dQ,ai,dX,ah]
      exact h.2
     ·exact False.elim h
   ·exact False.elim h
  ·exact False.elim h
 case binOp op t x y t'=>
  refine ht.mono (fun a=>ht.mono fun b h=>?_) h
  unfold wZ
  split at h
  ·simp only
   split at h
   all_goals first
    |exact False.elim h
    |(split<;>first|contradiction|exact jO.mono (xz.mono fun v h=>h.2) h)
    |exact jO.mono (xz.mono fun v h=>h.2) h
  ·rename_i lK
   split at h
   ·rename_i fO aP
    split
    ·exact absurd rfl (lK _ _ _ _ rfl)
    ·rw[aP];exact h.2
   ·exact False.elim h
 case unOp op t x=>
  refine ht.mono (fun a h=>?_) h
  split at h
  ·exact h.2
  ·exact False.elim h
 case extract x i=>
  split at h
  ·rename_i vs aW
   split at h
   ·rename_i v ah
    simp only[aW,ah]
    exact h.2
   ·exact False.elim h
  ·exact False.elim h
 case indexAddr t x i=>
  split at h
  ·rename_i A n c aW
   split at h
   ·rename_i c2 k zk ai hi
    split at h
    ·rename_i sz aL
     simp only[aW,ai,hi,aL]
     exact gn.mono (fun v h=>h.2) h
    ·exact False.elim h
   ·exact False.elim h
  ·exact False.elim h
 case slice t x lo hi mx=>
  cases mx with
  |some m=>exact False.elim h
  |none=>
   refine ht.mono (fun a=>p6.mono fun lo=>p6.mono fun hi h=>?_) h
   unfold xW
   split at h
   ·rename_i A n c i ai
    split at h
    ·rename_i sz aL
     split at h
     ·simp only[ai,aL];exact kN.mono (fun v h=>h.2) h
     ·simp only[ai,aL];exact kN.mono (fun v h=>h.2) h
     ·simp only[ai,aL];exact kN.mono (fun v h=>h.2) h
     ·exact False.elim h
    ·exact False.elim h
   ·exact False.elim h
 case call c=>
  unfold te
  split at h
  ·rename_i aj
   simp only[aj]
   refine ki.mono (fun vs h=>?_) h
   split at h
   ·rename_i A n dD t xi
    split at h
    ·rename_i i ai
     split at h
     ·rename_i e aL
      simp only[xi,ai,aL]
      exact h.2
     ·exact False.elim h
    ·exact False.elim h
   ·exact False.elim h
  ·exact False.elim h
def hX(dst:Option Tmp)(x:cD)(ss:bQ):bQ:=match dst with
 |none=>ss
 |some d=>⟨fm ss.s d x,ss.b⟩
theorem Bp{dst:Option Tmp}{x:cD}{ss:bQ}{K:bQ->Prop}(h:hM N dst x ss K):K (hX dst x ss)/\∀y bo cG,cG (hX dst y bo)->hM N dst y bo cG:=by
 cases dst with
 |none=>exact⟨h,fun y bo cG ak=>ak⟩
 |some d=>
  obtain⟨O,V⟩:=oj h
  exact⟨V,fun y bo cG ak=>by simp only[hM];rw[O];exact ak⟩
theorem Vm{dst:Option Tmp}{x:cD}{ss:bQ}{K cG:bQ->Prop}(U:K (hX dst x ss)->cG (hX dst x ss))(h:hM N dst x ss K):hM N dst x ss cG:=by
 obtain⟨O,V⟩:=Bp h
 exact V _ _ _ (U O)
theorem aey{ss:bQ}{A aR B r3:bQ->Prop}(b0:A ss->aR ss)(eZ:B ss->r3 ss)(h:j9 ops o ss A B):j9 ops o ss aR r3:=by
 unfold j9 at*
 split at h
 ·exact b0 h
 ·rename_i j want aZ
  split at h
  ·split at h
   ·split at h
    ·rename_i g _ _ b ab
     have gb:b=true->zm ss g true=ss:=fun e=>by subst e;exact pZ ab
     have akm:b=false->zm ss g false=ss:=fun e=>by subst e;exact pZ ab
     cases b with
     |true=>
      simp only[ba,gb] at h|-
      cases want with
      |true=>exact b0 h
      |false=>exact eZ h
     |false=>
      simp only[ba,akm] at h|-
      cases want with
      |true=>exact eZ h
      |false=>exact b0 h
    ·exact eZ h
    ·exact h
   ·exact h
  ·exact h
def Leaves(o:Oper)(ss bo:bQ):Prop:=
 (∀t,o.dst≠some t->bo.s t=ss.s t)/\∀b,(ss.b b).isSome=true->(∀ty x y off,o.op= .store ty x y->ss.eval x≠ .p b off)->bo.b b=ss.b b
theorem OI{dst:Option Tmp}{x:cD}{ss:bQ}{t:Nat}(h:dst≠some t):(hX dst x ss).s t=ss.s t:=by
 cases dst with
 |none=>rfl
 |some d=>exact lv _ _ fun e=>h (by rw[e])
theorem Jh{dst:Option Tmp}{x:cD}{ss:bQ}:(hX dst x ss).b=ss.b:=by cases dst<;>rfl
theorem DH{ss:bQ}{K cG:an->bQ->Prop}{Z:kk}(U:∀C bo,Leaves o ss bo->K C bo->cG C bo)(h:kv P T N ops o C ss K Z):kv P T N ops o C ss cG Z:=by
 rw[Bx] at h|-
 refine aey (fun h=>?_) (fun h=>?_) h
 ·refine UM (fun aG x jb aK h=>?_) h
  refine Vm (fun h=>U _ _ ⟨fun t bs=>OI (ss:=⟨ss.s,wV ss.b jb⟩) bs,fun b ab ar=>?_⟩ h) h
  rw[Jh]
  show wV ss.b jb b=ss.b b
  cases jb with
  |none=>rfl
  |some jb=>
   obtain⟨d,t,cs⟩:=jb
   refine lv _ _ fun e=>?_
   subst e
   rcases aK b t cs rfl with O|⟨ty,x,y,off,O,V⟩
   ·rw[O] at ab;cases ab
   ·exact ar ty x y off O V
 ·refine Vm (fun h=>U _ _ ⟨fun t bs=>OI bs,fun b ab ar=>by rw[Jh]⟩ h) h
theorem Vn{hI eK:Option Tmp}{x y:cD}{ss:bQ}(h:∀d,hI=some d->eK≠some d):hX hI x (hX eK y ss)=hX eK y (hX hI x ss):=by
 cases hI with
 |none=>rfl
 |some a=>cases eK with
  |none=>rfl
  |some b=>
   have:a≠b:=fun e=>h a rfl (by rw[e])
   simp only[hX]
   rw[asw _ _ _ this.symm]
theorem anR{d:Option Tmp}{x:cD}{ss:bQ}{jb:Option (Nat×TypeId×List Value)}:(⟨(hX d x ss).s,wV (hX d x ss).b jb⟩:bQ)=hX d x ⟨ss.s,wV ss.b jb⟩:=by cases d<;>rfl
theorem WL{ss:bQ}{K:an->bQ->Prop}{dZ:Oper}{x:cD}{Z:kk}(b3:∀ch C,Z ch C (hX dZ.dst x ss)->Z ch C ss)(sp:dZ.apart ops.toArray o=true)(h:kv P T N ops o C (hX dZ.dst x ss) K Z):kv P T N ops o C ss (fun aG bo=>K aG (hX dZ.dst x bo)) Z:=by
 obtain⟨O,V,aa⟩:=Oper.apart_spec sp
 have rE:∀t,t∈o.looksAt ops.toArray->(hX dZ.dst x ss).s t=ss.s t:=fun t bs=>OI fun e=>O t e bs
 have jW:∀y∈o.op.operands,(hX dZ.dst x ss).eval y=ss.eval y:=fun y bV=>by
  cases y with
  |tmp t=>exact rE t (by
    unfold Oper.looksAt
    refine iw.2 (.inl (jc.2 ⟨.tmp t,by simpa using bV,rfl⟩)))
  |_=>rfl
 have aL:∀d,o.dst=some d->dZ.dst≠some d:=fun d e hJ=>V d hJ e
 have Oe:qP P T (Ht N o.dst) o C (hX dZ.dst x ss).eval (hX dZ.dst x ss).b (fun aG y jb=>hM N o.dst y ⟨(hX dZ.dst x ss).s,wV (hX dZ.dst x ss).b jb⟩ (K aG)) (fun ch aG=>Z ch aG (hX dZ.dst x ss))->qP P T (Ht N o.dst) o C ss.eval ss.b (fun aG y jb=>hM N o.dst y ⟨ss.s,wV ss.b jb⟩ fun bo=>K aG (hX dZ.dst x bo)) (fun ch aG=>Z ch aG ss):=fun h=>by
  rw[UL jW,Jh] at h
  refine UM (fun aG y jb _ h=>?_) h b3
  obtain⟨ag,a6⟩:=Bp h
  refine a6 _ _ _ ?_
  rw[<-Jh (dst:=dZ.dst) (x:=x) (ss:=ss)] at ag
  rw[anR,Vn aL] at ag
  exact ag
 have PC:hM N o.dst (.v undef) (hX dZ.dst x ss) (K C)->hM N o.dst (.v undef) ss fun bo=>K C (hX dZ.dst x bo):=fun h=>by
  obtain⟨ag,a6⟩:=Bp h
  refine a6 _ _ _ ?_
  rw[Vn aL] at ag
  exact ag
 rw[Bx] at h|-
 unfold j9 at*
 split at h
 ·exact Oe h
 ·rename_i j want aZ
  split at h
  ·rename_i v9 a9
   split at h
   ·rename_i g sw
    have HX:(hX dZ.dst x ss).s g=ss.s g:=rE g (by
     unfold Oper.looksAt
     refine iw.2 (.inr ?_)
     have kb:ops.toArray[j]?=some v9:=by rw[tM] at a9;simpa using a9
     rw[aZ]
     simp only[kb,Eo,sw,Option.toList_some,nK])
    rw[HX] at h
    split at h
    ·rename_i b ab
     have dQ:(hX dZ.dst x ss).s g= .v (.bool b):=HX.trans ab
     cases b with
     |true=>
      simp only[ba,pZ ab,pZ dQ] at h|-
      cases want with
      |true=>exact Oe h
      |false=>exact PC h
     |false=>
      simp only[ba,pZ ab,pZ dQ] at h|-
      cases want with
      |true=>exact PC h
      |false=>exact Oe h
    ·exact PC h
    ·exact h
   ·exact h
  ·exact h
end
section
variable{P:Program}{T:List (Nat×c5)}{N:gI}{C:an}{o:Oper}{ops:List Oper}{K:an->bQ->Prop}{hW:Nat->Bool}
abbrev nD(ops:List Oper)(cH:Array Bool):List Nat:=Region.ready .any ops.toArray cH
def mR(P:Program)(T:List (Nat×c5))(N:gI)(ops:List Oper)(Z:kk)(hW:Nat->Bool)(K:an->bQ->Prop):Nat->Array Bool->an->bQ->Prop
 |0,cH,C,ss=>nD ops cH=[]/\K C ss
 |fuel+1,cH,C,ss=>(nD ops cH=[]->K C ss)/\∀i∈nD ops cH,∀o,ln ops i=some o->kv P T N ops o C ss (fun aG bo=>(hW i=true->ie aG C)/\mR P T N ops Z hW K fuel (cH.setIfInBounds i true) aG bo) Z
theorem Km(bX:gO P T){E:oL}{Z:kk}(il:∀ch C ss,Z ch C ss->E (.panic ch) C ss):∀(fuel:Nat) {cH:Array Bool} {C:an} {ss:bQ} {a:Act} {w:World},mR P T N ops Z hW K fuel cH C ss->s6 N C ss a w->wpAny P .any ops.toArray (vY N K E) fuel cH a w
 |0,cH,C,ss,a,w,h,r=>⟨h.1,C,ss,r,h.2⟩
 |fuel+1,cH,C,ss,a,w,h,r=>by
  refine⟨fun e=>⟨C,ss,r,h.1 e⟩,fun i hi=>?_⟩
  obtain⟨_,o,aU,_⟩:=mem_ready.1 hi
  have C0:ln ops i=some o:=by rw[tM];simpa using aU
  obtain⟨cq,r⟩:=r
  have O:=Ph (Z:=Z) (ops:=ops.toArray) (Q:=vY N K E) (fun ch aG bo ei w' fA b3=>⟨aG,bo,fA,il ch aG bo b3⟩) bX r (by simpa using h.2 i hi o C0)
  unfold wpOp
  rw[aU]
  simp only
  split
  ·rename_i au
   rw[if_pos au] at O
   exact .inl (Oper.wp_mono (fun ei w' ⟨aG,bo,fA,ak⟩=>Km bX il fuel ak.2 fA) O)
  ·rename_i au
   rw[if_neg au] at O
   obtain⟨aG,bo,fA,ak⟩:=O
   exact Km bX il fuel ak.2 fA
def GK(ops:List Oper)(i:Nat)(dZ:Oper)(fO:Option Nat)(cH:Array Bool)(ss:bQ):Prop:=
 ∀j iS,ops.toArray[j]?=some iS->j≠i->cH.getD j true=false->(∀e∈iS.after,Region.binds .any e=true->e.on≠i)->
  dZ.apart ops.toArray iS=true/\∀b,fO=some b->∀ty x y,iS.op= .store ty x y->∃t cu off,x= .tmp t/\ss.s t= .p cu off/\cu≠b/\∀k ok,ops.toArray[k]?=some ok->cH.getD k true=false->ok.dst≠some t
def EA(P:Program)(T:List (Nat×c5))(N:gI)(ops:List Oper)(Z:kk)(dZ:Oper)(x:cD)(fO:Option Nat)(ss:bQ):Prop:=
 (∀b,fO=some b->(ss.b b).isSome=true)/\∀bo,(∀t∈dZ.looksAt ops.toArray,bo.s t=ss.s t)->(∀b,fO=some b->bo.b b=ss.b b)->∀(C:an) (K:an->bQ->Prop),K C (hX dZ.dst x bo)->kv P T N ops dZ C bo K Z
theorem Ys{Z:kk}(hinv:GV ops Z){i:Nat}{dZ:Oper}(hi:ops.toArray[i]?=some dZ){x:cD}{fO:Option Nat}:∀(fuel:Nat) (cH:Array Bool) (C:an) (ss:bQ),GK ops i dZ fO cH ss->i∈nD ops cH->EA P T N ops Z dZ x fO ss->
  mR P T N ops Z hW K fuel (cH.setIfInBounds i true) C (hX dZ.dst x ss)->mR P T N ops Z hW K (fuel+1) cH C ss:=by
 have M2:∀(C:an) (ss:bQ),∀ch C,Z ch C (hX dZ.dst x ss)->Z ch C ss:=fun _ ss ch C h=>by
  cases aL:dZ.dst with
  |none=>rw[aL] at h;exact h
  |some d=>
   rw[aL] at h
   exact hinv dZ (by have:=Array.mem_of_getElem? hi;simpa using this) d x ch C ss.s ss.b aL h
 intro fuel
 have own:∀(fuel:Nat) (cH:Array Bool) (C:an) (ss:bQ),EA P T N ops Z dZ x fO ss->mR P T N ops Z hW K fuel (cH.setIfInBounds i true) C (hX dZ.dst x ss)->∀o,ln ops i=some o->kv P T N ops o C ss (fun aG bo=>(hW i=true->ie aG C)/\mR P T N ops Z hW K fuel (cH.setIfInBounds i true) aG bo) Z:=fun fuel cH C ss bV j6 o aU=>by
  rw[tM] at aU
  have:dZ=o:=by simpa[aU] using hi.symm
  subst this
  exact bV.2 ss (fun _ _=>rfl) (fun _ _=>rfl) C _ ⟨fun _=>ie.refl C,j6⟩
 induction fuel with
 |zero=>
  intro cH C ss _ aP bV j6
  refine⟨fun h=>(by rw[h] at aP;cases aP),fun j a9=>?_⟩
  by_cases iq:j=i
  ·subst iq;exact own _ _ _ _ bV j6
  ·have:j∈nD ops (cH.setIfInBounds i true):=ready_mono a9 iq
   rw[j6.1] at this
   cases this
 |succ fuel cy=>
  intro cH C ss HV aP bV j6
  refine⟨fun h=>(by rw[h] at aP;cases aP),fun j a9=>?_⟩
  by_cases iq:j=i
  ·subst iq;exact own _ _ _ _ bV j6
  ·intro iS AR
   have O:=j6.2 j (ready_mono a9 iq) iS AR
   obtain⟨AO,xF,kb,pR⟩:=mem_ready.1 a9
   have:xF=iS:=by rw[tM] at AR;simpa[AR] using kb.symm
   subst this
   have af8:∀e∈xF.after,Region.binds .any e=true->e.on≠i:=fun e af ab afm=>by
    have O:=pR e af ab
    have aT:=(mem_ready.1 aP).1
    rw[afm] at O
    rcases pB i cH.size with ak|ak
    ·simp[ak] at aT O;rw[aT] at O;cases O
    ·simp[Array.getElem?_eq_none ak] at O
   obtain⟨sp,gg⟩:=HV j xF kb iq AO af8
   have V:=WL (M2 C ss) sp O
   refine DH (fun aG bo ai ⟨HE,aa⟩=>⟨HE,?_⟩) V
   have Mp:∀t∈dZ.looksAt ops.toArray,xF.dst≠some t:=fun t bs e=>(Oper.apart_spec sp).2.2 t e bs
   have MU:∀t∈dZ.looksAt ops.toArray,bo.s t=ss.s t:=fun t bs=>ai.1 t (Mp t bs)
   have Sb:∀b,fO=some b->bo.b b=ss.b b:=fun b e=>ai.2 b (bV.1 b e) fun ty x y off ar aW=>by
    obtain⟨t,cu,FK,rfl,ag,a6,_⟩:=gg b e ty x y ar
    have bU:ss.s t= .p b off:=aW
    rw[ag] at bU
    injection bU with bU
    exact a6 bU
   refine cy _ _ _ ?_ (ready_mono aP (Ne.symm iq)) ?_ ?_
   ·intro k ok U nV xu mj
    have agz:cH.getD k true=false:=by
     by_cases AN:j=k
     ·subst AN;exact AO
     ·rw[getD_set_ne true AN] at xu;exact xu
    obtain⟨ag,a6⟩:=HV k ok U nV agz mj
    refine⟨ag,fun b e ty x y ar=>?_⟩
    obtain⟨t,cu,off,bU,dh,cT,fz⟩:=a6 b e ty x y ar
    refine⟨t,cu,off,bU,(ai.1 t (fz j xF kb AO)).trans dh,cT,fun m amn ad SJ=>?_⟩
    refine fz m amn ad ?_
    by_cases CV:j=m
    ·subst CV;exact AO
    ·rw[getD_set_ne true CV] at SJ;exact SJ
   ·exact⟨fun b e=>by rw[Sb b e];exact bV.1 b e,fun Bw ag a6=>bV.2 Bw (fun t bs=>(ag t bs).trans (MU t bs)) (fun b e=>(a6 b e).trans (Sb b e))⟩
   ·rw[Array.setIfInBounds_comm _ _ iq]
    exact aa
def GL(ops:List Oper)(hW:Nat->Bool)(i:Nat)(dZ:Oper)(cH:Array Bool):Prop:=
 ∃ya:Nat->Bool,ya i=true/\(∀k,ya k=true->cH.getD k true=false/\(k≠i->∃ok,ops.toArray[k]?=some ok/\∃e∈ok.after,Region.binds .any e=true/\ya e.on=true))/\
  ∀j iS,ops.toArray[j]?=some iS->cH.getD j true=false->ya j=false->dZ.apart ops.toArray iS=true/\hW j=true
def KG(P:Program)(T:List (Nat×c5))(N:gI)(ops:List Oper)(Z:kk)(dZ:Oper)(x:cD)(C:an)(ss:bQ):Prop:=
 ∀aG,ie aG C->∀bo,(∀t∈dZ.looksAt ops.toArray,bo.s t=ss.s t)->∀(K:an->bQ->Prop),K aG (hX dZ.dst x bo)->kv P T N ops dZ aG bo K Z
theorem Yt{Z:kk}(hinv:GV ops Z){i:Nat}{dZ:Oper}(hi:ops.toArray[i]?=some dZ){x:cD}:∀(fuel:Nat) (cH:Array Bool) (C:an) (ss:bQ),GL ops hW i dZ cH->i∈nD ops cH->KG P T N ops Z dZ x C ss->
  mR P T N ops Z hW K fuel (cH.setIfInBounds i true) C (hX dZ.dst x ss)->mR P T N ops Z hW K (fuel+1) cH C ss:=by
 have M2:∀(C:an) (ss:bQ),∀ch C,Z ch C (hX dZ.dst x ss)->Z ch C ss:=fun _ ss ch C h=>by
  cases aL:dZ.dst with
  |none=>rw[aL] at h;exact h
  |some d=>
   rw[aL] at h
   exact hinv dZ (by have:=Array.mem_of_getElem? hi;simpa using this) d x ch C ss.s ss.b aL h
 intro fuel
 have own:∀(fuel:Nat) (cH:Array Bool) (C:an) (ss:bQ),KG P T N ops Z dZ x C ss->mR P T N ops Z hW K fuel (cH.setIfInBounds i true) C (hX dZ.dst x ss)->∀o,ln ops i=some o->kv P T N ops o C ss (fun aG bo=>(hW i=true->ie aG C)/\mR P T N ops Z hW K fuel (cH.setIfInBounds i true) aG bo) Z:=fun fuel cH C ss bV j6 o aU=>by
  rw[tM] at aU
  have:dZ=o:=by simpa[aU] using hi.symm
  subst this
  exact bV C (ie.refl C) ss (fun _ _=>rfl) _ ⟨fun _=>ie.refl C,j6⟩
 induction fuel with
 |zero=>
  intro cH C ss _ aP bV j6
  refine⟨fun h=>(by rw[h] at aP;cases aP),fun j a9=>?_⟩
  by_cases iq:j=i
  ·subst iq;exact own _ _ _ _ bV j6
  ·have:j∈nD ops (cH.setIfInBounds i true):=ready_mono a9 iq
   rw[j6.1] at this
   cases this
 |succ fuel cy=>
  intro cH C ss HV aP bV j6
  refine⟨fun h=>(by rw[h] at aP;cases aP),fun j a9=>?_⟩
  by_cases iq:j=i
  ·subst iq;exact own _ _ _ _ bV j6
  ·intro iS AR
   have O:=j6.2 j (ready_mono a9 iq) iS AR
   obtain⟨AO,xF,kb,pR⟩:=mem_ready.1 a9
   have:xF=iS:=by rw[tM] at AR;simpa[AR] using kb.symm
   subst this
   obtain⟨ya,aeL,HG,R4⟩:=HV
   have My:ya j=false:=by
    cases eZ:ya j with
    |false=>rfl
    |true=>
     obtain⟨_,au⟩:=HG j eZ
     obtain⟨ok,aC,e,af,ab,aeK⟩:=au iq
     rw[kb] at aC
     cases aC
     have O:=pR e af ab
     have aT:=(HG _ aeK).1
     rcases pB e.on cH.size with ak|ak
     ·simp[ak] at aT O;rw[aT] at O;cases O
     ·simp[Array.getElem?_eq_none ak] at O
   obtain⟨sp,Ss⟩:=R4 j xF kb AO My
   have V:=WL (M2 C ss) sp O
   refine DH (fun aG bo ai ⟨HE,aa⟩=>⟨HE,?_⟩) V
   have hC:=HE Ss
   have Mp:∀t∈dZ.looksAt ops.toArray,xF.dst≠some t:=fun t bs e=>(Oper.apart_spec sp).2.2 t e bs
   have MU:∀t∈dZ.looksAt ops.toArray,bo.s t=ss.s t:=fun t bs=>ai.1 t (Mp t bs)
   refine cy _ _ _ ?_ (ready_mono aP (Ne.symm iq)) ?_ ?_
   ·refine⟨ya,aeL,fun k U=>⟨?_,(HG k U).2⟩,fun k ok U xu eZ=>R4 k ok U ?_ eZ⟩
    ·have AN:j≠k:=fun e=>by rw[e,U] at My;cases My
     rw[getD_set_ne true AN]
     exact(HG k U).1
    ·by_cases AN:j=k
     ·subst AN;exact AO
     ·rw[getD_set_ne true AN] at xu;exact xu
   ·exact fun Yo m3 Bw ag=>bV Yo (fun w au=>hC w (m3 w au)) Bw (fun t bs=>(ag t bs).trans (MU t bs))
   ·rw[Array.setIfInBounds_comm _ _ iq]
    exact aa
def AY:Op->Bool
 | .load .. =>true
 |_=>false
def Ux(ops:List Oper)(cH:Array Bool)(t:Nat):Bool:=(List.range ops.length).all fun k=>match ops.toArray[k]? with
 |none=>true
 |some ok=>cH.getD k true||ok.dst !=some t
def LX(ops:List Oper)(cH:Array Bool)(i:Nat)(dZ:Oper)(late:List Nat):Bool:=(List.range ops.length).all fun j=>match ops.toArray[j]? with
 |none=>true
 |some iS=>j==i||cH.getD j true||iS.after.any (fun e=>Region.binds .any e&&e.on==i)||(dZ.apart ops.toArray iS&&(match iS.op with
  | .store _ x _=>!AY dZ.op||(match x with
   | .tmp t=>late.contains t&&Ux ops cH t
   |_=>false)
  |_=>true))
def Ci(i:Nat):Nat->List Oper->List Nat->List Nat
 |_,[],acc=>acc
 |j,o::l,acc=>Ci i (Nat.succ j) l (bif Nat.beq j i||o.after.toList.any (fun e=>Region.binds .any e&&sG acc e.on) then j::acc else acc)
def LY(ops:List Oper)(hW:Nat->Bool)(cH:Array Bool)(i:Nat)(dZ:Oper):Bool:=
 sG (Ci i 0 ops []) i&&(Ci i 0 ops []).all (fun k=>!(cH.getD k true)&&(Nat.beq k i||match ops.toArray[k]? with
  |some ok=>ok.after.any (fun e=>Region.binds .any e&&sG (Ci i 0 ops []) e.on)
  |none=>false))&&(List.range ops.length).all fun j=>match ops.toArray[j]? with
 |none=>true
 |some iS=>cH.getD j true||sG (Ci i 0 ops []) j||(dZ.apart ops.toArray iS&&hW j)
def vP:fx->Bool
 | .look _ _=>true
 | .pure _ _ n=>vP n
 | .alt _ n more=>vP n||vP more
 | .nx _ n more=>vP n||vP more
 |_=>false
def Ai:fx->List Nat
 | .look _ n=>Ai n
 | .pure _ _ n=>Ai n
 | .alt i n more=>i::(Ai n++Ai more)
 | .nx _ n more=>Ai n++Ai more
 |_=> []
def Fx(kM:fx):Nat->Bool:=match vP kM with
 |true=>fun i=>!sG (Ai kM) i
 |false=>fun _=>false
def y1:fx->List Nat
 | .alt i _ more=>i::y1 more
 | .nx i _ more=>i::y1 more
 |_=> []
def mD:fx->Nat
 | .done=>0
 | .stop=>0
 | .pure _ _ next=>mD next+1
 | .look _ next=>mD next+1
 | .alt _ next more=>max (mD next+1) (mD more)
 | .nx _ next more=>max (mD next+1) (mD more)
def kK(ops:List Oper)(hW:Nat->Bool):Bool->Array Bool->fx->Bool
 |top,cH,.done=>top&&(nD ops cH).isEmpty
 |top,cH,.pure i late next=>top&&match ops.toArray[i]? with
  |some o=>(nD ops cH).contains i&&LX ops cH i o late&&kK ops hW true (cH.setIfInBounds i true) next
  |none=>false
 |top,cH,.look i next=>top&&match ops.toArray[i]? with
  |some o=>(nD ops cH).contains i&&LY ops hW cH i o&&kK ops hW true (cH.setIfInBounds i true) next
  |none=>false
 |top,cH,.alt i next more=>(!top||y1 (.alt i next more)==nD ops cH)&&(!hW i&&kK ops hW true (cH.setIfInBounds i true) next)&&kK ops hW false cH more
 |top,cH,.nx i next more=>(!top||y1 (.nx i next more)==nD ops cH)&&kK ops hW true (cH.setIfInBounds i true) next&&kK ops hW false cH more
 |top,_,.stop=>!top
theorem SZ:∀{l:List Nat} {t:Nat},sG l t=true->t∈l
 |d::l,t,h=>by
  simp only[sG] at h
  cases e:Nat.beq t d with
  |true=>rw[mA e];exact List.mem_cons_self
  |false=>rw[e] at h;exact List.mem_cons_of_mem _ (SZ h)
theorem GL.of{i:Nat}{dZ:Oper}{cH:Array Bool}(h:LY ops hW cH i dZ=true):GL ops hW i dZ cH:=by
 unfold LY at h
 generalize Ci i 0 ops []=B at h
 simp only[e3] at h
 obtain⟨⟨O,V⟩,aa⟩:=h
 refine⟨sG B,O,fun k U=>?_,fun j iS kb xu eZ=>?_⟩
 ·have ag:=yg.1 V k (SZ U)
  simp only[e3] at ag
  refine⟨by simpa using ag.1,fun nV=>?_⟩
  have a6:=ag.2
  have e1:Nat.beq k i=false:=by
   cases e:Nat.beq k i with
   |false=>rfl
   |true=>exact absurd (mA e) nV
  rw[e1] at a6
  simp only[wI] at a6
  split at a6
  ·rename_i ok aC
   refine⟨ok,aC,?_⟩
   rw[<-Array.any_toList,B0] at a6
   obtain⟨e,af,ab⟩:=a6
   simp only[e3] at ab
   exact⟨e,by simpa using af,ab.1,ab.2⟩
  ·cases a6
 ·have sy:j<ops.length:=by
   rcases pB j ops.length with ak|ak
   ·exact ak
   ·simp[List.getElem?_eq_none ak] at kb
  have ag:=yg.1 aa j (List.mem_range.2 sy)
  rw[kb] at ag
  simp only[xu,eZ,wI,e3] at ag
  exact ag
theorem GK.of{i:Nat}{dZ:Oper}{late:List Nat}{cH:Array Bool}{ss:bQ}{fO:Option Nat}(h:LX ops cH i dZ late=true)(agj:∀b,fO=some b->AY dZ.op=true)(ai:qH ss fO late True):GK ops i dZ fO cH ss:=by
 intro j iS kb iq xu mj
 have sy:j<ops.length:=by
  rcases pB j ops.length with ak|ak
  ·exact ak
  ·simp[List.getElem?_eq_none ak] at kb
 have O:=yg.1 h j (List.mem_range.2 sy)
 rw[kb] at O
 simp only at O
 have e1:(j==i)=false:=by simpa using iq
 have e2:(iS.after.any (fun e=>Region.binds .any e&&e.on==i))=false:=by
  rw[Array.any_eq_false]
  intro k U
  simp only[Bool.not_eq_true,Bool.and_eq_false_iff]
  cases ab:Region.binds .any iS.after[k] with
  |false=>exact .inl rfl
  |true=>exact .inr (by simpa using mj _ (Array.getElem_mem U) ab)
 rw[e1,xu,e2] at O
 simp only[wI,e3] at O
 refine⟨O.1,fun b e ty x y ar=>?_⟩
 have V:=O.2
 rw[ar] at V
 simp only[agj b e,BP,wI] at V
 cases x with
 |tmp t=>
  simp only[e3] at V
  have vT:t∈late:=by simpa using V.1
  have agb:=yg.1 V.2
  have key:∀l:List Nat,qH ss fO l True->t∈l->∃cu off,ss.s t= .p cu off/\cu≠b:=by
   intro l
   induction l with
   |nil=>intro _ h;cases h
   |cons u l cy=>
    intro h ad
    unfold qH at h
    rw[e] at h
    simp only at h
    split at h
    ·rename_i cu off aS
     split at h
     ·exact False.elim h
     ·rename_i kr
      cases ad with
      |head=>exact⟨cu,off,aS,fun hJ=>by rw[hJ,B7] at kr;cases kr⟩
      |tail _ ad=>exact cy (by rw[e];exact h) ad
    ·exact False.elim h
  obtain⟨cu,off,aa,ag⟩:=key late ai vT
  refine⟨t,cu,off,rfl,aa,ag,fun k ok U afO=>?_⟩
  have sA:k<ops.length:=by
   rcases pB k ops.length with ak|ak
   ·exact ak
   ·simp[List.getElem?_eq_none ak] at U
  have a6:=agb k (List.mem_range.2 sA)
  rw[U] at a6
  simp only[afO,wI] at a6
  simpa using a6
 |_=>simp at V
theorem TO{ss:bQ}{fO:Option Nat}:∀{l:List Nat} {A:Prop},qH ss fO l A->A/\qH ss fO l True
 |[],A,h=>⟨h,trivial⟩
 |t::l,A,h=>by
  unfold qH at*
  split at h
  ·exact⟨h,trivial⟩
  ·split at h
   ·split at h
    ·exact False.elim h
    ·obtain⟨O,V⟩:=TO h
     refine⟨O,?_⟩
     simp only[*]
   ·exact False.elim h
end
section
variable{P:Program}{T:List (Nat×c5)}{N:gI}{D:Nat->fx}{C:an}{o:Oper}{ops:List Oper}{K:an->bQ->Prop}
theorem aez{Z:kk}{ss:bQ}{i:Nat}{o:Oper}(aU:ln ops i=some o){q7:bQ->Prop}{late:List Nat}(h:j9 ops o ss (fun ss=>xL T o ss.eval ss.b fun x fO=>qH ss fO late (hM N o.dst x ss q7)) (fun ss=>hM N o.dst (.v undef) ss q7)):
  ∃x fO,q7 (hX o.dst x ss)/\(∀b,fO=some b->AY o.op=true)/\qH ss fO late True/\EA P T N ops Z o x fO ss:=by
 have PY:(xL T o ss.eval ss.b fun x fO=>qH ss fO late (hM N o.dst x ss q7))->(∀bo:bQ,(∀t∈o.looksAt ops.toArray,bo.s t=ss.s t)->∀A B:bQ->Prop,A bo->j9 ops o bo A B)->∃x fO,q7 (hX o.dst x ss)/\(∀b,fO=some b->AY o.op=true)/\qH ss fO late True/\EA P T N ops Z o x fO ss:=fun h aZ=>by
  obtain⟨x,fO,O,V,aa⟩:=anG h
  obtain⟨ag,a6⟩:=TO O
  obtain⟨bU,dh⟩:=Bp ag
  refine⟨x,fO,bU,fun b e=>?_,a6,fun b e=>(V b e).1,fun bo ar ab C K U=>?_⟩
  ·obtain⟨_,t,y,ai⟩:=V b e
   rw[ai];rfl
  ·rw[Bx]
   refine aZ bo ar _ _ ?_
   have jW:∀y∈o.op.operands,bo.eval y=ss.eval y:=fun y bV=>by
    cases y with
    |tmp t=>exact ar t (by
      unfold Oper.looksAt
      exact iw.2 (.inl (jc.2 ⟨.tmp t,by simpa using bV,rfl⟩)))
    |_=>rfl
   rw[UL jW]
   exact anH (aa _ ⟨ab,dh _ _ _ U⟩)
 have p2:hM N o.dst (.v undef) ss q7->(∀bo:bQ,(∀t∈o.looksAt ops.toArray,bo.s t=ss.s t)->∀A B:bQ->Prop,B bo->j9 ops o bo A B)->∃x fO,q7 (hX o.dst x ss)/\(∀b,fO=some b->AY o.op=true)/\qH ss fO late True/\EA P T N ops Z o x fO ss:=fun h aZ=>by
  obtain⟨bU,dh⟩:=Bp h
  have ai:qH ss none late True:=by cases late<;>exact trivial
  refine⟨.v undef,none,bU,?_,ai,?_,fun bo ar ab C K U=>?_⟩
  ·intro b e;cases e
  ·intro b e;cases e
  ·rw[Bx]
   exact aZ bo ar _ _ (dh _ _ _ U)
 unfold j9 at h
 split at h
 ·rename_i aZ
  exact PY h fun bo _ A B b0=>by unfold j9;rw[aZ];exact b0
 ·rename_i j want aZ
  split at h
  ·rename_i v9 a9
   split at h
   ·rename_i g sw
    have fj:g∈o.looksAt ops.toArray:=by
     unfold Oper.looksAt
     refine iw.2 (.inr ?_)
     have kb:ops.toArray[j]?=some v9:=by rw[tM] at a9;simpa using a9
     rw[aZ]
     simp only[kb,Eo,sw,Option.toList_some,nK]
    split at h
    ·rename_i b ab
     have xT:∀bo:bQ,(∀t∈o.looksAt ops.toArray,bo.s t=ss.s t)->∀A B:bQ->Prop,(if b=want then A bo else B bo)->j9 ops o bo A B:=fun bo ar A B xc=>by
      have dQ:bo.s g= .v (.bool b):=(ar g fj).trans ab
      unfold j9
      rw[aZ]
      simp only[a9,sw,dQ]
      cases b with
      |true=>
       simp only[ba,pZ dQ]
       cases want with
       |true=>simpa[vN] using xc
       |false=>simpa[vN] using xc
      |false=>
       simp only[ba,pZ dQ]
       cases want with
       |true=>simpa[vN] using xc
       |false=>simpa[vN] using xc
     cases b with
     |true=>
      simp only[ba,pZ ab] at h
      cases want with
      |true=>exact PY h fun bo ar A B b0=>xT bo ar A B (by simpa using b0)
      |false=>exact p2 h fun bo ar A B eZ=>xT bo ar A B (by simpa using eZ)
     |false=>
      simp only[ba,pZ ab] at h
      cases want with
      |true=>exact p2 h fun bo ar A B eZ=>xT bo ar A B (by simpa using eZ)
      |false=>exact PY h fun bo ar A B b0=>xT bo ar A B (by simpa using b0)
    ·rename_i vs ab
     exact p2 h fun bo ar A B eZ=>by
      have dQ:bo.s g= .v (.tuple vs):=(ar g fj).trans ab
      unfold j9
      rw[aZ]
      simp only[a9,sw,dQ]
      exact eZ
    ·exact False.elim h
   ·exact False.elim h
  ·exact False.elim h
theorem aeA{ss:bQ}{o:Oper}{A B:bQ->Prop}(h:j9 ops o ss A B):
  (A ss/\∀bo:bQ,(∀t∈o.looksAt ops.toArray,bo.s t=ss.s t)->∀aR r3:bQ->Prop,aR bo->j9 ops o bo aR r3)\/
  (B ss/\∀bo:bQ,(∀t∈o.looksAt ops.toArray,bo.s t=ss.s t)->∀aR r3:bQ->Prop,r3 bo->j9 ops o bo aR r3):=by
 unfold j9 at h
 split at h
 ·rename_i aZ
  exact .inl ⟨h,fun bo _ A B b0=>by unfold j9;rw[aZ];exact b0⟩
 ·rename_i j want aZ
  split at h
  ·rename_i v9 a9
   split at h
   ·rename_i g sw
    have fj:g∈o.looksAt ops.toArray:=by
     unfold Oper.looksAt
     refine iw.2 (.inr ?_)
     have kb:ops.toArray[j]?=some v9:=by rw[tM] at a9;simpa using a9
     rw[aZ]
     simp only[kb,Eo,sw,Option.toList_some,nK]
    split at h
    ·rename_i b ab
     have xT:∀bo:bQ,(∀t∈o.looksAt ops.toArray,bo.s t=ss.s t)->∀A B:bQ->Prop,(if b=want then A bo else B bo)->j9 ops o bo A B:=fun bo ar A B xc=>by
      have dQ:bo.s g= .v (.bool b):=(ar g fj).trans ab
      unfold j9
      rw[aZ]
      simp only[a9,sw,dQ]
      cases b with
      |true=>
       simp only[ba,pZ dQ]
       cases want with
       |true=>simpa[vN] using xc
       |false=>simpa[vN] using xc
      |false=>
       simp only[ba,pZ dQ]
       cases want with
       |true=>simpa[vN] using xc
       |false=>simpa[vN] using xc
     cases b with
     |true=>
      simp only[ba,pZ ab] at h
      cases want with
      |true=>exact .inl ⟨h,fun bo ar A B b0=>xT bo ar A B (by simpa using b0)⟩
      |false=>exact .inr ⟨h,fun bo ar A B eZ=>xT bo ar A B (by simpa using eZ)⟩
     |false=>
      simp only[ba,pZ ab] at h
      cases want with
      |true=>exact .inr ⟨h,fun bo ar A B eZ=>xT bo ar A B (by simpa using eZ)⟩
      |false=>exact .inl ⟨h,fun bo ar A B b0=>xT bo ar A B (by simpa using b0)⟩
    ·rename_i vs ab
     exact .inr ⟨h,fun bo ar A B eZ=>by
      have dQ:bo.s g= .v (.tuple vs):=(ar g fj).trans ab
      unfold j9
      rw[aZ]
      simp only[a9,sw,dQ]
      exact eZ⟩
    ·exact False.elim h
   ·exact False.elim h
  ·exact False.elim h
theorem aex{Z:kk}{ss:bQ}{o:Oper}{q7:bQ->Prop}(h:j9 ops o ss (fun ss=>IW P o C ss.eval fun x=>hM N o.dst x ss q7) (fun ss=>hM N o.dst (.v undef) ss q7)):
  ∃x,q7 (hX o.dst x ss)/\KG P T N ops Z o x C ss:=by
 rcases aeA h with⟨h,aZ⟩|⟨h,aZ⟩
 ·unfold IW at h
  split at h
  ·rename_i t y aU
   split at h
   ·rename_i x aW
    obtain⟨v,ah,U⟩:=h.out
    obtain⟨bU,dh⟩:=Bp U
    refine⟨.v v,bU,fun aG m3 bo ar K U=>?_⟩
    rw[Bx]
    refine aZ bo ar _ _ ?_
    have jW:bo.eval y= .v x:=by
     rw[<-aW]
     cases y with
     |tmp t=>exact ar t (by
       unfold Oper.looksAt
       exact iw.2 (.inl (jc.2 ⟨.tmp t,by simp[aU,Op.operands],rfl⟩)))
     |_=>rfl
    simp only[qP,aU,jW]
    exact⟨fun w au=>⟨v,w,aG,ah w (m3 w au),iJ.refl aG w,au,dh _ _ _ U⟩⟩
   ·exact False.elim h
  ·exact False.elim h
 ·obtain⟨bU,dh⟩:=Bp h
  refine⟨.v undef,bU,fun aG _ bo ar K U=>?_⟩
  rw[Bx]
  exact aZ bo ar _ _ (dh _ _ _ U)
theorem anc{Z:kk}{i:Nat}{next more:fx}{ss:bQ}(h:jC P T N ops Z (.alt i next more) C ss K):(∃o,ln ops i=some o/\kv P T N ops o C ss (fun aG bo=>jC P T N ops Z next aG bo K) Z)/\(more= .stop\/jC P T N ops Z more C ss K):=by
 simp only[ane] at h
 split at h
 ·rename_i o aU
  split at h
  ·exact⟨⟨o,aU,h⟩,.inl rfl⟩
  ·exact⟨⟨o,aU,h.1⟩,.inr h.2⟩
 ·exact False.elim h
theorem anf{Z:kk}{i:Nat}{next more:fx}{ss:bQ}(h:jC P T N ops Z (.nx i next more) C ss K):(∃o,ln ops i=some o/\kv P T N ops o C ss (fun aG bo=>gN aG C (jC P T N ops Z next aG bo K)) Z)/\(more= .stop\/jC P T N ops Z more C ss K):=by
 simp only[ang] at h
 split at h
 ·rename_i o aU
  split at h
  ·exact⟨⟨o,aU,h⟩,.inl rfl⟩
  ·exact⟨⟨o,aU,h.1⟩,.inr h.2⟩
 ·exact False.elim h
theorem G5{Z:kk}{hW:Nat->Bool}{cH:Array Bool}{ss:bQ}:∀(kM:fx),kK ops hW false cH kM=true->(kM= .stop\/jC P T N ops Z kM C ss K)->∀k∈y1 kM,∃next,kK ops hW true (cH.setIfInBounds k true) next=true/\mD next<mD kM/\∃o,ln ops k=some o/\kv P T N ops o C ss (fun aG bo=>(hW k=true->ie aG C)/\jC P T N ops Z next aG bo K) Z
 | .done,h,_,k,U=>by cases U
 | .stop,h,_,k,U=>by cases U
 | .pure _ _ _,h,_,k,U=>by cases U
 | .look _ _,h,_,k,U=>by cases U
 | .alt i next more,h,bh,k,U=>by
  rcases bh with bh|bh
  ·cases bh
  ·obtain⟨O,V⟩:=anc bh
   simp only[kK,e3] at h
   cases U with
   |head=>
    obtain⟨o,aU,O⟩:=O
    have aT:hW i=false:=by simpa using h.1.2.1
    exact⟨next,h.1.2.2,by simp only[mD];omega,o,aU,DH (fun aG bo _ dh=>⟨fun e=>(by rw[aT] at e;cases e),dh⟩) O⟩
   |tail _ U=>
    obtain⟨dT,aa,ag,a6⟩:=G5 more h.2 V k U
    exact⟨dT,aa,by simp only[mD];omega,a6⟩
 | .nx i next more,h,bh,k,U=>by
  rcases bh with bh|bh
  ·cases bh
  ·obtain⟨O,V⟩:=anf bh
   simp only[kK,e3] at h
   cases U with
   |head=>
    obtain⟨o,aU,O⟩:=O
    exact⟨next,h.1.2,by simp only[mD];omega,o,aU,DH (fun aG bo _ dh=>⟨fun _=>dh.le,dh.out⟩) O⟩
   |tail _ U=>
    obtain⟨dT,aa,ag,a6⟩:=G5 more h.2 V k U
    exact⟨dT,aa,by simp only[mD];omega,a6⟩
theorem FV{Z:kk}{hW:Nat->Bool}(hinv:GV ops Z):∀(fuel:Nat) (kM:fx) (cH:Array Bool) (C:an) (ss:bQ),mD kM<=fuel->kK ops hW true cH kM=true->jC P T N ops Z kM C ss K->mR P T N ops Z hW K fuel cH C ss
 |fuel,.done,cH,C,ss,aK,aC,h=>by
  simp only[kK,BQ,List.isEmpty_iff] at aC
  cases fuel with
  |zero=>exact⟨aC,h⟩
  |succ f=>exact⟨fun _=>h,fun i hi=>by rw[aC] at hi;cases hi⟩
 |fuel,.stop,cH,C,ss,aK,aC,h=>by simp[kK] at aC
 |0,.pure i late next,cH,C,ss,aK,aC,h=>by simp[mD] at aK
 |fuel+1,.pure i late next,cH,C,ss,aK,aC,h=>by
  simp only[kK,BQ] at aC
  split at aC
  ·rename_i o aU
   simp only[e3] at aC
   have C0:ln ops i=some o:=by rw[tM];simpa using aU
   simp only[ani,C0] at h
   obtain⟨x,fO,O,V,aa,ag⟩:=aez (P:=P) C0 h
   exact Ys hinv aU fuel cH C ss (GK.of aC.1.2 V aa) (by simpa using aC.1.1) ag (FV hinv fuel next _ C _ (by simp only[mD] at aK;omega) aC.2 O)
  ·cases aC
 |0,.look i next,cH,C,ss,aK,aC,h=>by simp[mD] at aK
 |fuel+1,.look i next,cH,C,ss,aK,aC,h=>by
  simp only[kK,BQ] at aC
  split at aC
  ·rename_i o aU
   simp only[e3] at aC
   have C0:ln ops i=some o:=by rw[tM];simpa using aU
   simp only[anh,C0] at h
   obtain⟨x,O,ag⟩:=aex (P:=P) (T:=T) (Z:=Z) h
   exact Yt hinv aU fuel cH C ss (GL.of aC.1.2) (by simpa using aC.1.1) ag (FV hinv fuel next _ C _ (by simp only[mD] at aK;omega) aC.2 O)
  ·cases aC
 |0,.alt i next more,cH,C,ss,aK,aC,h=>by simp only[mD] at aK;omega
 |fuel+1,.alt i next more,cH,C,ss,aK,aC,h=>by
  have MJ:kK ops hW false cH (.alt i next more)=true:=by
   simp only[kK,e3] at aC|-
   exact⟨⟨rfl,aC.1.2⟩,aC.2⟩
  simp only[kK,e3] at aC
  have eb:y1 (.alt i next more)=nD ops cH:=by
   have:=aC.1.1
   simp only[BP,wI] at this
   exact eq_of_beq this
  refine⟨fun e=>?_,fun k U o aU=>?_⟩
  ·rw[<-eb] at e;cases e
  ·rw[<-eb] at U
   obtain⟨dT,aa,ag,fX,a6,bU⟩:=G5 _ MJ (.inr h) k U
   rw[aU] at a6
   injection a6 with a6
   subst a6
   refine DH (fun aG bo _ dh=>⟨dh.1,FV hinv fuel dT _ aG bo S aa dh.2⟩) bU
 |0,.nx i next more,cH,C,ss,aK,aC,h=>by simp only[mD] at aK;omega
 |fuel+1,.nx i next more,cH,C,ss,aK,aC,h=>by
  have MJ:kK ops hW false cH (.nx i next more)=true:=by
   simp only[kK,e3] at aC|-
   exact⟨⟨rfl,aC.1.2⟩,aC.2⟩
  simp only[kK,e3] at aC
  have eb:y1 (.nx i next more)=nD ops cH:=by
   have:=aC.1.1
   simp only[BP,wI] at this
   exact eq_of_beq this
  refine⟨fun e=>?_,fun k U o aU=>?_⟩
  ·rw[<-eb] at e;cases e
  ·rw[<-eb] at U
   obtain⟨dT,aa,ag,fX,a6,bU⟩:=G5 _ MJ (.inr h) k U
   rw[aU] at a6
   injection a6 with a6
   subst a6
   refine DH (fun aG bo _ dh=>⟨dh.1,FV hinv fuel dT _ aG bo S aa dh.2⟩) bU
def iW(D:Nat->fx):Code->Bool
 | .region id ops true=>kK ops.toList (Fx (D id)) true (Array.replicate ops.size false) (D id)&&Nat.ble (mD (D id)) ops.size
 | .seq x y=>iW D x&&iW D y
 | .cond _ x y=>iW D x&&iW D y
 | .block _ c=>iW D c
 | .loop c=>iW D c
 |_=>true
theorem vF(bX:gO P T)(ad:P.follows .mixedOrders=true):∀(c:Code),iW D c=true->oU P T N D c:=by
 intro c
 induction c with
 |region id ops draw=>
  intro h
  cases draw with
  |false=>exact trivial
  |true=>
   simp only[iW,e3] at h
   intro Iu C ss K E a w bh ⟨cq,r⟩
   refine wp_region_any ad ?_
   have O:=FV (hW:=Fx (D id)) (Ae.inv _ _) ops.size (D id) _ C ss (nm h.2) h.1 bh
   have V:=Km (E:=E) bX (fun ch C ss b3=>b3.here) ops.size O ⟨cq,r.drew⟩
   simpa using V
 |seq x y rH o8=>intro h;simp only[iW,e3] at h;exact⟨rH h.1,o8 h.2⟩
 |cond c x y rH o8=>intro h;simp only[iW,e3] at h;exact⟨rH h.1,o8 h.2⟩
 |block id c cy=>exact fun h=>cy h
 |loop c cy=>exact fun h=>cy h
 |_=>exact fun _=>trivial
end
def mG:List Nat->Nat->Bool
 |[],_=>false
 |d::l,t=>bif Nat.beq t d then true else mG l t
theorem Hp{P:Program}{f:FuncId}{fn:Func}(aK:P.funcs[f]?=some fn)(aB:(fn.name== "runtime.NumGoroutine")=false)(ab:fn.body.isNone=false):oa P f:=fun args w=>by
 have AP:fn.name≠ "runtime.NumGoroutine" :=by simpa using aB
 have dQ:fn.body≠none:=fun e=>by rw[e] at ab;cases ab
 simp[callFunc,aK,AP,dQ]
theorem aca {P:Program} {T:List (Nat×c5)} {D:Nat->fx} (bX:gO P T) (ad:P.follows .mixedOrders=true) {f:FuncId} {fn:Func} (n:Nat) (X:Nat->Bool) (aK:P.funcs[f]?=some fn) (ab:fn.body.isNone=false) (eC:fn.ntmps=n) (aL:iW D (fn.body.getD .skip)=true) {args:List Value} (hlen:Nat.ble args.length n=true) {w:World} {R:Ending->World->Prop} (C:an) (c3:C.R w)
  (h:hv P T {n:=n,esc:=X} D (fn.body.getD .skip) C ⟨g1 args,jA⟩ (Eu P T fn R) (KU P T fn R)):Calls P f args.toArray w R:=by
 cases e:fn.body with
 |none=>rw[e] at ab;cases ab
 |some c=>
  rw[e] at h aL
  exact ab5 bX aK e eC rfl hlen (vF bX ad c aL) C c3 h
def Ks{X:Type}(L:X->List (Nat×cD))(ly:X->List (Nat×TypeId×List Value))(n9:X->an)(I:X->Prop):an->bQ->Prop:=fun C ss=> ∃x r,I x/\C=n9 x/\ss=⟨tH (L x) r,tG (ly x)⟩
theorem hA.on{X:Type}{L:X->List (Nat×cD)}{ly:X->List (Nat×TypeId×List Value)}{n9:X->an}{I:X->Prop}{C:an}{ss:bQ}(x:X)(cM:I x)(O:CA ss (L x))(V:Cz ss (ly x))(hC:C=n9 x:=by rfl)(bh:we (ly x) (L x)=true:=by rfl):hA ss (Ks L ly n9 I C):=
 hA.fit (L x) (ly x) O V bh fun r=>⟨x,r,cM,hC,rfl⟩
theorem eS.on{X:Type}(L:X->List (Nat×cD))(ly:X->List (Nat×TypeId×List Value))(n9:X->an)(I:X->Prop){A:(an->bQ->Prop)->Prop}{K:an->bQ->Prop}(h:A (fun C ss=>hA ss (Ks L ly n9 I C)))(U:∀x r,I x->K (n9 x) ⟨tH (L x) r,tG (ly x)⟩):eS A K:=
 eS.cut (Ks L ly n9 I) h fun C ss ⟨x,r,cM,hC,ar⟩=>by subst hC ar;exact U x r cM
def Kr{X:Type}(L:X->List (Nat×cD))(ly:X->List (Nat×TypeId×List Value))(n9:X->an)(I:X->Prop)(jF:X->Nat):Nat->an->bQ->Prop:=fun n C ss=> ∃x r,I x/\jF x=n/\C=n9 x/\ss=⟨tH (L x) r,tG (ly x)⟩
theorem cC{X:Type}{L:X->List (Nat×cD)}{ly:X->List (Nat×TypeId×List Value)}{n9:X->an}{I:X->Prop}{jF:X->Nat}{n:Nat}{C:an}{ss:bQ}(x:X)(pY:jF x<n)(cM:I x)(O:CA ss (L x))(V:Cz ss (ly x))(hC:C=n9 x:=by rfl)(bh:we (ly x) (L x)=true:=by rfl):∃dT,dT<n/\hA ss (Kr L ly n9 I jF dT C):=
 ⟨jF x,pY,hA.fit (L x) (ly x) O V bh fun r=>⟨x,r,cM,rfl,hC,rfl⟩⟩
theorem c9.on{X:Type}(L:X->List (Nat×cD))(ly:X->List (Nat×TypeId×List Value))(n9:X->an)(I:X->Prop)(jF:X->Nat){B:an->bQ->(an->bQ->Prop)->Prop}{C:an}{ss:bQ}(x0:X)(cM:I x0)(O:CA ss (L x0))(V:Cz ss (ly x0))(h:∀x r,I x->B (n9 x) ⟨tH (L x) r,tG (ly x)⟩ fun aG bo=> ∃dT,dT<jF x/\hA bo (Kr L ly n9 I jF dT aG))(hC:C=n9 x0:=by rfl)(bh:we (ly x0) (L x0)=true:=by rfl):c9 B C ss:=by
 refine c9.intro (Kr L ly n9 I jF) (jF x0) (hA.fit (L x0) (ly x0) O V bh fun r=>⟨x0,r,cM,rfl,hC,rfl⟩) fun n C ss ⟨x,r,cM,aB,hC,ar⟩=>?_
 subst aB hC ar
 exact h x r cM
end Go.Proofs.YtcflcebplhdcpaaGreat
