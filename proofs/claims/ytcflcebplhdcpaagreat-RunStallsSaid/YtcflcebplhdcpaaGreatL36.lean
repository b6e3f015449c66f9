/- Lemmas, part 36; each states its own conditions. -/
import Derived.Test.YtcflcebplhdcpaaGreatL33
namespace Go.Proofs.YtcflcebplhdcpaaGreat
open Go.RowKit
set_option linter.unusedSimpArgs false
set_option linter.unusedVariables false
set_option maxRecDepth 100000
set_option maxHeartbeats 16000000
theorem sj{k:aI}{a:c4}{s s':aq}{r:oP}(h:hp k a s= .ok r s'):s'.made=s.made+1/\s'.gone=s.gone/\s'.made<=k.log.length:=by
 have aZ:=dx.oT _ _ h
 unfold hp at h
 split at h
 ·injection h with O V
  subst V
  exact⟨rfl,rfl,aZ.2⟩
 ·cases h
theorem xC{k:aI}{c v:Int}{s s':aq}(h:gF k c s= .ok v s'):s'.made=s.made+1/\s'.gone=s.gone/\s'.made<=k.log.length:=by
 obtain⟨a,s1,e1,e2⟩:=ax.and_eq h
 injection e2 with _ e2
 subst e2
 exact sj e1
theorem WT{k:aI}{c v:Int}{u:Unit}{s s':aq}(h:jl k c v s= .ok u s'):s'.made=s.made+1/\s'.gone=s.gone/\s'.made<=k.log.length:=by
 obtain⟨a,s1,e1,e2⟩:=ax.and_eq h
 injection e2 with _ e2
 subst e2
 exact sj e1
theorem Hf{k:aI}{c o v:Int}{b:Bool}{s s':aq}(h:ld k c o v s= .ok b s'):s'.made=s.made+1/\s'.gone=s.gone/\s'.made<=k.log.length:=by
 obtain⟨a,s1,e1,e2⟩:=ax.and_eq h
 injection e2 with _ e2
 subst e2
 exact sj e1
def bn{ck:Type}(k:aI)(s:aq)(r:ax ck):Prop:=∀a s',r= .ok a s'->s.made<=s'.made/\s'.gone.length+s.made<=s.gone.length+s'.made
theorem bn.and{ck gH:Type}{k:aI}{s:aq}{r:ax ck}{f:ck->aq->ax gH}(h:bn k s r)(aK:∀a s',r= .ok a s'->bn k s' (f a s')):bn k s (r.and f):=fun b aV e=>by
 obtain⟨a,s',e1,e2⟩:=ax.and_eq e
 have O:=h a s' e1
 have V:=aK a s' e1 b aV e2
 omega
theorem bn.ok{ck:Type}{k:aI}{s s':aq}{a:ck}(h:s.made<=s'.made/\s'.gone.length+s.made<=s.gone.length+s'.made):bn k s (.ok a s'):=fun b aV e=>by
 injection e with _ e;subst e;exact h
theorem bn.same{ck:Type}{k:aI}{s:aq}{a:ck}:bn k s (.ok a s):=bn.ok ⟨Nat.le_refl _,Nat.le_refl _⟩
theorem bn.hB{ck:Type}{k:aI}{s:aq}{a:ck}{i e:Int}:bn k s (.ok a (mr s i e)):=bn.ok (by rw[rU,zB];exact⟨Nat.le_refl _,Nat.le_refl _⟩)
theorem bn.ite{ck:Type}{k:aI}{s:aq}{c:Prop}[Decidable c]{j2 lU:ax ck}(O:bn k s j2)(V:bn k s lU):bn k s (if c then j2 else lU):=by
 split
 ·exact O
 ·exact V
theorem bn.oT{k:aI}{a:c4}{s:aq}:bn k s (hp k a s):=fun r s' h=>by
 have:=sj h
 rw[this.2.1];omega
theorem bn.load{k:aI}{c:Int}{s:aq}:bn k s (gF k c s):=fun r s' h=>by
 have:=xC h
 rw[this.2.1];omega
theorem bn.store{k:aI}{c v:Int}{s:aq}:bn k s (jl k c v s):=fun r s' h=>by
 have:=WT h
 rw[this.2.1];omega
theorem bn.ik{k:aI}{c o v:Int}{s:aq}:bn k s (ld k c o v s):=fun r s' h=>by
 have:=Hf h
 rw[this.2.1];omega
theorem bn.loop{σ gH:Type}{k:aI}{body:σ->aq->ax (gH ⊕ σ)}(ab:∀x s,bn k s (body x s)):∀(n:Nat) (x:σ) (s:aq),bn k s (tE body n x s):=by
 intro n
 induction n with
 |zero=>intro x s a s' e;cases e
 |succ n cy=>
  intro x s
  simp only[tE]
  refine(ab x s).and fun r s' _=>?_
  cases r with
  |inl b=>exact bn.same
  |inr de=>exact cy de s'
theorem Gj{k:aI}{slot cell:Int}{s:aq}:bn k s (qy k slot cell s):=bn.loop (fun x s=>bn.load.and fun _ _ _=>bn.load.and fun _ _ _=>bn.ite bn.same (bn.store.and fun _ _ _=>bn.hB)) _ _ _
theorem Pr{k:aI}{i e:Int}{s:aq}:bn k s (pK k i e s):=bn.ite bn.same (bn.store.and fun _ _ _=>bn.hB)
theorem nF{k:aI}{s:aq}:bn k s (lf k s):=Pr.and fun _ _ _=>Pr.and fun _ _ _=>Pr
theorem Pv{k:aI}{s:aq}:bn k s (u7 k s):=bn.loop (fun x s=>bn.load.and fun _ _ _=>bn.ite bn.same (bn.load.and fun _ _ _=>bn.ik.and fun _ _ _=>bn.ite (bn.load.and fun _ _ _=>bn.store.and fun _ _ _=>bn.same) bn.same)) _ _ _
theorem JN{k:aI}{n:Int}{s:aq}:bn k s (tm k n s):=bn.loop (fun x s=>bn.load.and fun _ _ _=>bn.store.and fun _ _ _=>bn.ik.and fun _ _ _=>bn.ite bn.same bn.same) _ _ _
theorem WY{k:aI}:∀(t acc:List Int) (s:aq),bn k s (AK k t acc s)
 |[],acc,s=>bn.same
 |c::t,acc,s=>bn.load.and fun _ _ _=>WY t _ _
theorem Pu{k:aI}{held:List Int}:∀(t stay:List cz) (s:aq),bn k s (qZ k held t stay s)
 |[],stay,s=>bn.same
 |g::t,stay,s=>by
  unfold qZ
  exact bn.load.and fun v s1 _=>bn.ite (Pu t _ _) (JN.and fun _ _ _=>Pu t _ _)
theorem Pa{k:aI}{held:List Int}:∀(t stay:List cz) (s:aq) (l:List cz) (s':aq),qZ k held t stay s= .ok l s'->l.length<=stay.length+t.length
 |[],stay,s,l,s',h=>by
  unfold qZ at h
  injection h with O V
  rw[<-O];simp
 |g::t,stay,s,l,s',h=>by
  unfold qZ at h
  obtain⟨v,s1,_,h⟩:=ax.and_eq h
  split at h
  ·have:=Pa t _ _ _ _ h
   simp at this|-;omega
  ·obtain⟨u,aV,_,h⟩:=ax.and_eq h
   have:=Pa t _ _ _ _ h
   simp at this|-;omega
theorem JO{k:aI}{n:Int}{s:aq}:bn k s (tP k n s):=fun u s' h=>by
 obtain⟨e,s1,e1,h⟩:=ax.and_eq h
 obtain⟨x,aV,e2,h⟩:=ax.and_eq h
 have hk:=xC e1
 have iR:=sj e2
 split at h
 ·injection h with _ h
  subst h
  have cR:aV.gone.length=s.gone.length:=by rw[iR.2.1,hk.2.1]
  simp only[gC,oM,pz]
  omega
 ·obtain⟨held,bu,cR,h⟩:=ax.and_eq h
  obtain⟨stay,cw,dR,h⟩:=ax.and_eq h
  injection h with _ h
  subst h
  have aa:=WY _ _ _ _ _ cR
  have ag:=Pu _ _ _ _ _ dR
  have a6:=Pa _ _ _ _ _ dR
  have gj:aV.gone.length=s.gone.length:=by rw[iR.2.1,hk.2.1]
  simp only[gC,oM,pz] at a6
  simp only at aa|-
  omega
theorem JM{k:aI}{head o:Int}{s:aq}:bn k s (uD k head o s):=bn.loop (fun x s=>by
 cases x with
 |none=>exact Gj.and fun _ _ _=>bn.same
 |some q=>exact Gj.and fun _ _ _=>bn.load.and fun _ _ _=>bn.ite (bn.load.and fun _ _ _=>bn.ite (bn.ik.and fun _ _ _=>bn.ite (JO.and fun _ _ _=>bn.same) bn.same) (bn.ite bn.same (bn.ite bn.same bn.same))) bn.same) _ _ _
theorem aq1{k:aI}{head o:Int}{s:aq}:bn k s (pN k head o s):=JM.and fun _ _ _=>bn.ite (bn.load.and fun _ _ _=>nF.and fun _ _ _=>bn.same) (nF.and fun _ _ _=>bn.same)
theorem WZ{k:aI}{f:hQ}{n:Int}{s:aq}:bn k s (tO k f n s):=bn.store.and fun _ _ _=>bn.ik.and fun _ _ _=>bn.ite (nF.and fun _ _ _=>bn.same) bn.same
theorem aq7{k:aI}{head o v:Int}{s:aq}:bn k s (sQ k head o v s):=bn.loop (fun n s=>JM.and fun _ _ _=>bn.ite (bn.ite (nF.and fun _ _ _=>bn.same) (JN.and fun _ _ _=>nF.and fun _ _ _=>bn.same))
 (bn.ite (Pv.and fun _ _ _=>bn.ite (bn.store.and fun _ _ _=>bn.store.and fun _ _ _=>WZ) (nF.and fun _ _ _=>bn.same)) WZ)) _ _ _
theorem aqZ{k:aI}{head o:Int}{s:aq}:bn k s (uC k head o s):=bn.loop (fun n s=>JM.and fun _ _ _=>bn.ite (bn.ik.and fun _ _ _=>bn.ite (bn.ik.and fun _ _ _=>bn.ite (nF.and fun _ _ _=>JO.and fun _ _ _=>bn.same) (JM.and fun _ _ _=>nF.and fun _ _ _=>bn.same)) bn.same) (nF.and fun _ _ _=>bn.same)) _ _ _
theorem zn{σ gH:Type}{body:σ->aq->ax (gH ⊕ σ)}{I:σ->aq->Prop}{Q:gH->aq->Prop}(ab:∀x s,I x s->∀r s',body x s= .ok r s'->Sum.elim (fun b=>Q b s') (fun y=>I y s') r):∀(n:Nat) (x:σ) (s:aq),I x s->∀b s',tE body n x s= .ok b s'->Q b s':=by
 intro n
 induction n with
 |zero=>intro x s _ b s' e;cases e
 |succ n cy=>
  intro x s cM b s' e
  simp only[tE] at e
  obtain⟨r,s1,e1,e2⟩:=ax.and_eq e
  have O:=ab x s cM r s1 e1
  cases r with
  |inl cu=>
   simp only[gy] at e2
   injection e2 with cR dR
   subst cR dR
   exact O
  |inr y=>exact cy y s1 O b s' e2
theorem L2{k:aI}{slot cell:Int}{s s':aq}{w:Int×Int}(h:qy k slot cell s= .ok w s'):w.2+2=s'.made:=by
 refine zn (I:=fun _ _=>True) (Q:=fun w s'=>w.2+2=(s'.made:Int)) (fun x s _ r s' h=>?_) _ _ _ trivial _ _ h
 obtain⟨v,s1,e1,h⟩:=ax.and_eq h
 obtain⟨e,aV,e2,h⟩:=ax.and_eq h
 have hk:=xC e1
 have iR:=xC e2
 split at h
 ·injection h with O V
  subst O V
  simp only[Sum.elim_inl]
  omega
 ·obtain⟨u,bu,cR,h⟩:=ax.and_eq h
  injection h with O V
  subst O V
  exact trivial
def Ky(x:Option nH)(s:aq):Prop:=match x with
 |none=>True
 |some q=>q.f.there=false/\q.f.c0<s.made
def Kz(f:hQ)(s:aq):Prop:=f.c0<s.made/\(f.there=true->f.c0+2<s.made)
theorem N6{a b c:Int}{f:hQ}{s:aq}(h:f.there=false)(bh:f.c0<s.made):Sum.elim (fun b=>Kz b s) (fun y=>Ky y s) (qL a b c f):=by
 unfold qL
 split
 ·exact⟨bh,fun e=>by rw[h] at e;cases e⟩
 ·exact⟨h,bh⟩
theorem LQ{k:aI}{head o:Int}{s s':aq}{f:hQ}(h:uD k head o s= .ok f s'):Kz f s':=by
 refine zn (I:=Ky) (Q:=Kz) (fun x s cM r s' h=>?_) _ none _ (show Ky none s from trivial) _ _ h
 cases x with
 |none=>
  obtain⟨w,s1,e1,h⟩:=ax.and_eq h
  injection h with O V
  subst O V
  have:=L2 e1
  exact N6 rfl (by show w.2<_;omega)
 |some q=>
  obtain⟨uM,Ih⟩:=cM
  obtain⟨w,s1,e1,h⟩:=ax.and_eq h
  obtain⟨seen,aV,e2,h⟩:=ax.and_eq h
  have hk:=L2 e1
  have iR:=xC e2
  split at h
  ·obtain⟨order,bu,cR,h⟩:=ax.and_eq h
   have o9:=xC cR
   unfold ti at h
   split at h
   ·obtain⟨c,cw,dR,h⟩:=ax.and_eq h
    have pa:=Hf dR
    split at h
    ·obtain⟨u,fF,gj,h⟩:=ax.and_eq h
     have NT:=CH _ _ gj
     injection h with O V
     subst O V
     exact N6 uM (by show((cw.made:Int)-1)<_;omega)
    ·injection h with O V
     subst O V
     exact trivial
   ·split at h
    ·injection h with O V
     subst O V
     exact N6 uM (by show w.2<_;omega)
    ·split at h
     ·injection h with O V
      subst O V
      exact⟨by show w.2<_;omega,fun _=>by show w.2+2<_;omega⟩
     ·injection h with O V
      subst O V
      exact⟨by show((aV.made:Int)-1)<_;omega,fun e=>by have e:q.f.there=true:=e;rw[uM] at e;cases e⟩
  ·injection h with O V
   subst O V
   exact trivial
def z7(put:Bool)(o:cI)(s:aq):Prop:=o.c0<s.made/\(put=true->o.err=0->o.eG=false->o.c0+2<s.made)
theorem aef{k:aI}{head o:Int}{s s':aq}{r:cI}(h:pN k head o s= .ok r s'):z7 false r s':=by
 obtain⟨f,s1,e1,h⟩:=ax.and_eq h
 have hk:=LQ e1
 split at h
 ·obtain⟨v,aV,e2,h⟩:=ax.and_eq h
  obtain⟨u,bu,cR,h⟩:=ax.and_eq h
  have iR:=xC e2
  have o9:=kd _ _ cR
  injection h with O V
  subst O V
  exact⟨by have:=hk.1;show f.c0<_;omega,fun e=>by cases e⟩
 ·obtain⟨u,bu,cR,h⟩:=ax.and_eq h
  have o9:=kd _ _ cR
  injection h with O V
  subst O V
  exact⟨by have:=hk.1;show f.c0<_;omega,fun e=>by cases e⟩
theorem ac1{k:aI}{head o:Int}{s s':aq}{r:cI}(h:uC k head o s= .ok r s'):z7 false r s':=by
 refine zn (I:=fun _ _=>True) (Q:=z7 false) (fun x s _ r s' h=>?_) _ _ _ trivial _ _ h
 obtain⟨f,s1,e1,h⟩:=ax.and_eq h
 have hk:=LQ e1
 split at h
 ·obtain⟨c,aV,e2,h⟩:=ax.and_eq h
  have iR:=Hf e2
  split at h
  ·obtain⟨bA,bu,cR,h⟩:=ax.and_eq h
   have o9:=Hf cR
   split at h
   ·obtain⟨u,cw,dR,h⟩:=ax.and_eq h
    obtain⟨Gq,fF,gj,h⟩:=ax.and_eq h
    have pa:=kd _ _ dR
    have NT:=CH _ _ gj
    injection h with O V
    subst O V
    exact⟨by show((aV.made:Int)-1)<_;omega,fun e=>by cases e⟩
   ·obtain⟨u,cw,dR,h⟩:=ax.and_eq h
    obtain⟨Gq,fF,gj,h⟩:=ax.and_eq h
    have pa:=CF _ _ dR
    have NT:=kd _ _ gj
    injection h with O V
    subst O V
    exact⟨by show((aV.made:Int)-1)<_;omega,fun e=>by cases e⟩
  ·injection h with O V
   subst O V
   exact trivial
 ·obtain⟨u,bu,cR,h⟩:=ax.and_eq h
  have o9:=kd _ _ cR
  injection h with O V
  subst O V
  exact⟨by have:=hk.1;show f.c0<_;omega,fun e=>by cases e⟩
theorem aqY{k:aI}{s s':aq}{t:Int×Int×Bool}(h:u7 k s= .ok t s'):t.2.1<s'.made:=by
 refine zn (I:=fun _ _=>True) (Q:=fun t s'=>t.2.1<(s'.made:Int)) (fun x s _ r s' h=>?_) _ _ _ trivial _ _ h
 obtain⟨f,s1,e1,h⟩:=ax.and_eq h
 split at h
 ·injection h with O V
  subst O V
  simp only[Sum.elim_inl]
  omega
 ·obtain⟨l,aV,e2,h⟩:=ax.and_eq h
  obtain⟨c,bu,cR,h⟩:=ax.and_eq h
  split at h
  ·obtain⟨b,cw,dR,h⟩:=ax.and_eq h
   obtain⟨u,fF,gj,h⟩:=ax.and_eq h
   have pa:=xC dR
   have NT:=WT gj
   injection h with O V
   subst O V
   simp only[Sum.elim_inl]
   omega
  ·injection h with O V
   subst O V
   exact trivial
theorem Vj{k:aI}{f:hQ}{n:Int}{s s':aq}{r:cI ⊕ Int}(h:tO k f n s= .ok r s'):Sum.elim (fun b=>z7 true b s') (fun _=>True) r:=by
 obtain⟨u,s1,e1,h⟩:=ax.and_eq h
 obtain⟨c,aV,e2,h⟩:=ax.and_eq h
 split at h
 ·obtain⟨u,bu,cR,h⟩:=ax.and_eq h
  have o9:=kd _ _ cR
  injection h with O V
  subst O V
  exact⟨by show((aV.made:Int)-1)<_;omega,fun _ _ e=>by cases e⟩
 ·injection h with O V
  subst O V
  exact trivial
theorem anW{k:aI}{head o v:Int}{s s':aq}{r:cI}(h:sQ k head o v s= .ok r s'):z7 true r s':=by
 refine zn (I:=fun _ _=>True) (Q:=z7 true) (fun x s _ r s' h=>?_) _ _ _ trivial _ _ h
 obtain⟨f,s1,e1,h⟩:=ax.and_eq h
 have hk:=LQ e1
 split at h
 ·rename_i uM
  have IX:=hk.2 uM
  split at h
  ·obtain⟨u,aV,e2,h⟩:=ax.and_eq h
   have iR:=kd _ _ e2
   injection h with O V
   subst O V
   exact⟨by show f.c0<_;omega,fun _ _ _=>by show f.c0+2<_;omega⟩
  ·obtain⟨u,aV,e2,h⟩:=ax.and_eq h
   obtain⟨Gq,bu,cR,h⟩:=ax.and_eq h
   have iR:=(m1 CG) _ _ e2
   have o9:=kd _ _ cR
   injection h with O V
   subst O V
   exact⟨by show f.c0<_;omega,fun _ _ _=>by show f.c0+2<_;omega⟩
 ·split at h
  ·obtain⟨t,aV,e2,h⟩:=ax.and_eq h
   have iR:=aqY e2
   split at h
   ·obtain⟨u,bu,cR,h⟩:=ax.and_eq h
    obtain⟨Gq,cw,dR,h⟩:=ax.and_eq h
    have:=Vj h
    cases r with
    |inl b=>exact this
    |inr y=>exact trivial
   ·obtain⟨u,bu,cR,h⟩:=ax.and_eq h
    have o9:=kd _ _ cR
    injection h with O V
    subst O V
    exact⟨by show t.2.1<_;omega,fun _ e _=>by cases e⟩
  ·have:=Vj h
   cases r with
   |inl b=>exact this
   |inr y=>exact trivial
theorem akN{k:aI}{gs gv:List cz}{op:dp}{o:cI}(h:jy k gs op= .done o gv):o.c0<k.log.length/\(op.o0=2->o.err=0->o.eG=false->o.c0+2<k.log.length)/\gv.length<=gs.length+k.log.length:=by
 have yP:∀{put:Bool} {r:ax cI},e9.of r= .done o gv->dx k (aq.start gs) r->bn k (aq.start gs) r->(∀fX s',r= .ok fX s'->z7 put fX s')->o.c0<k.log.length/\(put=true->o.err=0->o.eG=false->o.c0+2<k.log.length)/\gv.length<=gs.length+k.log.length:=by
  intro put r e aZ bs bd
  cases r with
  |ask a=>cases e
  |ok fX s'=>
   injection e with e1 e2
   subst e1 e2
   have O:=(aZ _ _ rfl).2
   have V:=(bs _ _ rfl).2
   have aa:=bd _ _ rfl
   have e0:(aq.start gs).made=0:=rfl
   have e1:(aq.start gs).gone=gs:=rfl
   rw[e0,e1] at V
   exact⟨by have:=aa.1;omega,fun a b c=>by have:=aa.2 a b c;omega,by omega⟩
 have ref:e9.done o gv=m9 gs->o.c0<k.log.length/\(op.o0=2->o.err=0->o.eG=false->o.c0+2<k.log.length)/\gv.length<=gs.length+k.log.length:=by
  intro e
  injection e with e1 e2
  subst e1 e2
  exact⟨by show(-1:Int)<_;omega,(fun _ e=>by cases e),by omega⟩
 unfold jy at h
 split at h
 ·exact ref h.symm
 ·split at h
  ·rename_i O
   have:=yP (put:=false) h (CF.nq fun _ _ _=>by
    split
    ·exact dx.load.ee.and fun _ _ _=>kd.and fun _ _ _=>di.ok rfl
    ·exact kd.and fun _ _ _=>di.ok rfl) aq1 (fun _ _ e=>aef e)
   exact⟨this.1,fun e=>by omega,this.2.2⟩
  ·split at h
   ·have:=yP (put:=true) h (m1 RV) aq7 (fun _ _ e=>anW e)
    exact⟨this.1,fun _=>this.2.1 rfl,this.2.2⟩
   ·split at h
    ·rename_i O
     have:=yP (put:=false) h (m1 RR) aqZ (fun _ _ e=>ac1 e)
     exact⟨this.1,fun e=>by omega,this.2.2⟩
    ·exact ref h.symm
end Go.Proofs.YtcflcebplhdcpaaGreat
