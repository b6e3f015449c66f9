/- Lemmas, part 28; each states its own conditions. -/
import Derived.Test.YtcflcebplhdcpaaGreatL27
namespace Go.Proofs.YtcflcebplhdcpaaGreat
open Go.RowKit
set_option linter.unusedSimpArgs false
set_option linter.unusedVariables false
set_option maxRecDepth 100000
set_option maxHeartbeats 16000000
def auD(ca:aI->aq->cg->Nat->Nat->Nat->aw->aw):Prop:=∀{H:World} {k:aI} {s:aq} {g:cg} {p bx a0:Nat} {M:aw} (h:bc H k s g),s4 H (ca k s g p bx a0 M) g.A g.n g.c s.gone
theorem axk {P:Prop} (h:P:=by
 rename_i H k s g p bx a0 M
 intro h
 cases aU:g.own with
 |false=>exact .inl (h.ea aU)
 |true=>exact .inr (by simp[ca,eY,aU])):P:=h
def auo(g4:c4->List PanicEntry)(ca:aI->aq->cg->Nat->Nat->Nat->aw->aw)(jo:FuncId):Prop:=∀{H:World} {w0:World} {X:Nat->Prop} {M:aw} {K:Value->an->Prop} {Z:bF} {k:aI} {s:aq} {g:cg} {p bx a0:Nat} {a:c4} (h:bc H k s g) (aC:∀r s',hp k a s= .ok r s'->bc H k s' g->s.made<s'.made->s'.gone=s.gone->K (.agg (hs r).toArray) (Y H w0 X (ca k s' g p bx a0 M))) (cl:∀ei s',hp k a s= .ask ei->bc H k s' g->Z (g4 ei) (Y H w0 X (ca k s' g p bx a0 M))),a4 H w0 X (ca k s g p bx a0 M) jo #[.agg a.l.toArray,ae bx,ae a0] K Z
theorem aw6 {P:Prop} (h:P:=by
 rename_i H w0 X M K Z k s g p bx a0 a
 intro h aC cl
 have ad:=h.made
 have ai:=h.kJ
 have aW:=h.lm
 refine a7 (by first|exact aiP|exact ai5|exact ajF) ?_
 intro az aF
 conv=>whnf
 repeat'((first
  |(show eB _ _ _ _;first|(refine Gg (J ((s.made+1:Nat):Int)) (by rw[cK S];rfl) ?_))
  |(show gn _ _ _ _ _;first|(refine xx hs 2 xQ S h.tF h.kJ s.made ((cK S).trans S) S (fun cu fX b0 gw=>?_)))
  |(show bk _ _ _ _;first|(refine iZ (hs _) av aD W W ?_))
  |(exact k1 (cl _ s (Hj S) h))
  |(exact c1 (aC _ {s with made:=s.made+1} (Hk S) (h.up (qp _) (show s.made+1<=_ by omega) rfl) (El _) rfl))
  |refine Ez ?_
  |(refine oQ ?_ ?_<;>(try with_reducible intro ab)<;>(try(exfalso;omega)))
  |with_reducible intro r)<;>(try conv=>whnf))):P:=h
def auw(g4:c4->List PanicEntry)(ca:aI->aq->cg->Nat->Nat->Nat->aw->aw)(jo:FuncId):Prop:=∀{H:World} {w0:World} {X:Nat->Prop} {M:aw} {K:Value->an->Prop} {Z:bF} {k:aI} {s:aq} {g:cg} {p bx a0:Nat} {c:Int} (h:bc H k s g) (aC:∀r s',gF k c s= .ok r s'->bc H k s' g->s.made<s'.made->s'.gone=s.gone->K (J r) (Y H w0 X (ca k s' g p bx a0 M))) (cl:∀a s',gF k c s= .ask a->bc H k s' g->Z (g4 a) (Y H w0 X (ca k s' g p bx a0 M))),a4 H w0 X (ca k s g p bx a0 M) jo #[ae p,J c] K Z
theorem axe {P:Prop} (h:P:=by
 rename_i H w0 X M K Z k s g p bx a0 c
 intro h aC cl
 refine a7 (by first|exact aiW|exact ai9|exact ajG) ?_
 intro az aF
 conv=>whnf
 repeat'((first
  |(show ay _ _ _ _ _ _;first|(refine Lm (a:=⟨1,c,0,0⟩) h (fun r s' e ak ad aZ=>?_) (fun a s' e ak=>?_)))
  |(show ff _ _ _ _ _;first|(refine qO 3 0 W rfl bP aD W W ?_))
  |(exact k1 (cl _ _ (by simp only[gF,e,ax.dq]) ak))
  |(exact c1 (aC _ _ (by simp only[gF,e,ax.cx]) ak ad aZ))
  |refine jJ ?_
  |(refine oQ ?_ ?_<;>(try with_reducible intro ab)<;>(try(exfalso;omega)))
  |with_reducible intro r)<;>(try conv=>whnf))):P:=h
def auE(g4:c4->List PanicEntry)(ca:aI->aq->cg->Nat->Nat->Nat->aw->aw)(jo:FuncId):Prop:=∀{H:World} {w0:World} {X:Nat->Prop} {M:aw} {K:Value->an->Prop} {Z:bF} {k:aI} {s:aq} {g:cg} {p bx a0:Nat} {c v:Int} (h:bc H k s g) (aC:∀u s',jl k c v s= .ok u s'->bc H k s' g->s.made<s'.made->s'.gone=s.gone->K (.tuple #[]) (Y H w0 X (ca k s' g p bx a0 M))) (cl:∀a s',jl k c v s= .ask a->bc H k s' g->Z (g4 a) (Y H w0 X (ca k s' g p bx a0 M))),a4 H w0 X (ca k s g p bx a0 M) jo #[ae p,J c,J v] K Z
theorem axl {P:Prop} (h:P:=by
 rename_i H w0 X M K Z k s g p bx a0 c v
 intro h aC cl
 refine a7 (by first|exact aiS|exact ajB|exact ajL) ?_
 intro az aF
 conv=>whnf
 repeat'((first
  |(show ay _ _ _ _ _ _;first|(refine Lm (a:=⟨2,c,0,v⟩) h (fun r s' e ak ad aZ=>?_) (fun a s' e ak=>?_)))
  |(show ff _ _ _ _ _;first|(refine qO 3 0 W rfl bP aD W W ?_))
  |(exact k1 (cl _ _ (by simp only[jl,e,ax.dq]) ak))
  |(exact c1 (aC () _ (by simp only[jl,e,ax.cx]) ak ad aZ))
  |refine jJ ?_
  |(refine oQ ?_ ?_<;>(try with_reducible intro ab)<;>(try(exfalso;omega)))
  |with_reducible intro r)<;>(try conv=>whnf))):P:=h
def aum(g4:c4->List PanicEntry)(ca:aI->aq->cg->Nat->Nat->Nat->aw->aw)(jo:FuncId):Prop:=∀{H:World} {w0:World} {X:Nat->Prop} {M:aw} {K:Value->an->Prop} {Z:bF} {k:aI} {s:aq} {g:cg} {p bx a0:Nat} {c o v:Int} (h:bc H k s g) (aC:∀r s',ld k c o v s= .ok r s'->bc H k s' g->s.made<s'.made->s'.gone=s.gone->K (.bool r) (Y H w0 X (ca k s' g p bx a0 M))) (cl:∀a s',ld k c o v s= .ask a->bc H k s' g->Z (g4 a) (Y H w0 X (ca k s' g p bx a0 M))),a4 H w0 X (ca k s g p bx a0 M) jo #[ae p,J c,J o,J v] K Z
theorem aw4 {P:Prop} (h:P:=by
 rename_i H w0 X M K Z k s g p bx a0 c o v
 intro h aC cl
 refine a7 (by first|exact aiZ|exact aja|exact ajN) ?_
 intro az aF
 conv=>whnf
 repeat'((first
  |(show ay _ _ _ _ _ _;first|(refine Lm (a:=⟨3,c,o,v⟩) h (fun r s' e ak ad aZ=>?_) (fun a s' e ak=>?_)))
  |(show ff _ _ _ _ _;first|(refine qO 4 1 W rfl bP aD W W ?_))
  |(exact k1 (cl _ _ (by simp only[ld,e,ax.dq]) ak))
  |(exact c1 (aC _ _ (by simp only[ld,e,ax.cx]) ak ad aZ))
  |refine jJ ?_
  |(refine oQ ?_ ?_<;>(try with_reducible intro ab)<;>(try(exfalso;omega)))
  |with_reducible intro r)<;>(try conv=>whnf))):P:=h
def auu(ca:aI->aq->cg->Nat->Nat->Nat->aw->aw)(jo:FuncId):Prop:=∀{H:World} {w0:World} {X:Nat->Prop} {M:aw} {K:Value->an->Prop} {Z:bF} {k:aI} {s:aq} {g:cg} {p bx a0:Nat} (h:bc H k s g) (U:∀v,v=(s.made:Int)-1->K (J v) (Y H w0 X (ca k s g p bx a0 M))),a4 H w0 X (ca k s g p bx a0 M) jo #[ae p] K Z
theorem axc {P:Prop} (h:P:=by
 rename_i H w0 X M K Z k s g p bx a0
 intro h U
 have ad:=h.made
 have ai:=h.kJ
 have aW:=h.lm
 refine a7 (by first|exact aiV|exact ajb|exact ajO) ?_
 intro az aF
 conv=>whnf
 repeat'((first
  |(exact c1 (U _ (cK S)))
  |refine jJ ?_
  |(refine oQ ?_ ?_<;>(try with_reducible intro ab)<;>(try(exfalso;omega)))
  |with_reducible intro r)<;>(try conv=>whnf))):P:=h
def auy(ca:aI->aq->cg->Nat->Nat->Nat->aw->aw)(jo:FuncId):Prop:=∀{H:World} {w0:World} {X:Nat->Prop} {M:aw} {K:Value->an->Prop} {Z:bF} {k:aI} {s:aq} {g:cg} {p bx a0:Nat} {n i:Int} (h:bc H k s g) (U:∀v,v=eL k.la n i->K (J v) (Y H w0 X (ca k s g p bx a0 M))),a4 H w0 X (ca k s g p bx a0 M) jo #[ae p,J n,J i] K Z
theorem axf {P:Prop} (h:P:=by
 rename_i H w0 X M K Z k s g p bx a0 n i
 intro h U
 refine a7 (by first|exact aiT|exact ai8|exact ajH) ?_
 intro az aF
 conv=>whnf
 repeat'((first
  |(show ay _ _ _ _ _ _;first|(refine FI h.la (fun v ah=>?_)))
  |(exact c1 (U _ ah))
  |refine jJ ?_
  |(refine oQ ?_ ?_<;>(try with_reducible intro ab)<;>(try(exfalso;omega)))
  |with_reducible intro r)<;>(try conv=>whnf))):P:=h
namespace fC
abbrev g4(a:c4):List PanicEntry:=[{v:= .iface 329 (.agg a.l.toArray),recovered:=false}]
def FU(k:aI)(s:aq)(g:cg)(bx a0:Nat):List Value:=[J k.la.bt,J k.la.nodes,J k.la.buckets,J k.la.h6,J k.la.en,J k.la.cells,J k.la.maps,J k.la.dj,J k.la.cF,J k.la.done,J k.la.count,J k.la.era,J k.la.free,J k.la.alive,J k.la.owner,J k.la.qV,J k.la.qv,J k.la.ring,J k.la.task,J k.la.cell,J k.la.map,J k.la.stack,J k.la.chan,J k.la.node,J k.la.size,J k.a1,.slice g.A g.n g.c,J (s.made:Int),J s.e0,J s.e1,J s.e2,.func (.func 305) #[] #[ae bx,ae a0]]
def ca(k:aI)(s:aq)(g:cg)(p bx a0:Nat)(M:aw):aw:=(ae p,.cs 327 (FU k s g bx a0))::(ae bx,.cs 305 [ae p])::(ae a0,.cs 75 [.slice k.bK k.aM k.bD])::(eY g s++M)
theorem WC:auD ca:=axk
theorem Lm:auo g4 ca 305:=aw6
theorem mK:auw g4 ca 313:=axe
theorem u3:auE g4 ca 309:=axl
theorem qu:aum g4 ca 316:=aw4
theorem tA:auu ca 312:=axc
theorem rM:auy ca 310:=axf
end fC
namespace eQ
abbrev g4(a:c4):List PanicEntry:=[{v:= .iface 337 (.agg a.l.toArray),recovered:=false}]
def FU(k:aI)(s:aq)(g:cg)(bx a0:Nat):List Value:=[J k.la.bt,J k.la.nodes,J k.la.buckets,J k.la.h6,J k.la.en,J k.la.cells,J k.la.maps,J k.la.dj,J k.la.cF,J k.la.done,J k.la.count,J k.la.era,J k.la.free,J k.la.alive,J k.la.owner,J k.la.qV,J k.la.qv,J k.la.ring,J k.la.task,J k.la.cell,J k.la.map,J k.la.stack,J k.la.chan,J k.la.node,J k.la.size,J k.a1,.slice g.A g.n g.c,J (s.made:Int),J s.e0,J s.e1,J s.e2,.func (.func 322) #[] #[ae bx,ae a0]]
def ca(k:aI)(s:aq)(g:cg)(p bx a0:Nat)(M:aw):aw:=(ae p,.cs 335 (FU k s g bx a0))::(ae bx,.cs 309 [ae p])::(ae a0,.cs 75 [.slice k.bK k.aM k.bD])::(eY g s++M)
theorem WC:auD ca:=axk
theorem Lm:auo g4 ca 322:=aw6
theorem mK:auw g4 ca 326:=axe
theorem u3:auE g4 ca 357:=axl
theorem qu:aum g4 ca 327:=aw4
theorem tA:auu ca 328:=axc
theorem rM:auy ca 325:=axf
end eQ
namespace dV
abbrev g4(a:c4):List PanicEntry:=[{v:= .iface 359 (.agg a.l.toArray),recovered:=false}]
def FU(k:aI)(s:aq)(g:cg)(bx a0:Nat):List Value:=[J k.la.bt,J k.la.nodes,J k.la.buckets,J k.la.h6,J k.la.en,J k.la.cells,J k.la.maps,J k.la.dj,J k.la.cF,J k.la.done,J k.la.count,J k.la.era,J k.la.free,J k.la.alive,J k.la.owner,J k.la.qV,J k.la.qv,J k.la.ring,J k.la.task,J k.la.cell,J k.la.map,J k.la.stack,J k.la.chan,J k.la.node,J k.la.size,J k.a1,.slice g.A g.n g.c,J (s.made:Int),J s.e0,J s.e1,J s.e2,.func (.func 364) #[] #[ae bx,ae a0]]
def ca(k:aI)(s:aq)(g:cg)(p bx a0:Nat)(M:aw):aw:=(ae p,.cs 357 (FU k s g bx a0))::(ae bx,.cs 345 [ae p])::(ae a0,.cs 75 [.slice k.bK k.aM k.bD])::(eY g s++M)
theorem WC:auD ca:=axk
theorem Lm:auo g4 ca 364:=aw6
theorem mK:auw g4 ca 367:=axe
theorem u3:auE g4 ca 372:=axl
theorem qu:aum g4 ca 374:=aw4
theorem tA:auu ca 375:=axc
theorem rM:auy ca 368:=axf
end dV
theorem Gw {P:Prop} (h:P:=by
 repeat'((first
  |(show ay _ _ _ _ _ _;first|(refine u3 aW (fun r s' e ak ad aZ=>?_) (fun a s' e ak=>?_))|(refine DC (i:=0) aW.la (fun v ah=>?_);subst ah)|(refine DC (i:=1) aW.la (fun v ah=>?_);subst ah)|(refine DC (i:=2) aW.la (fun v ah=>?_);subst ah))
  |(show ff _ _ _ _ _;first|(refine Du (n:=3) (e:=3) 0 W W W W bP aD W W bC W ?_)|(refine Du (n:=3) (e:=3) 1 W W W W bP aD W W bC W ?_)|(refine Du (n:=3) (e:=3) 2 W W W W bP aD W W bC W ?_))
  |(show eB _ _ _ _;first|(refine avy ?_)|(refine avz ?_)|(refine avA ?_))
  |(refine xw (n:=3) (e:=3) p 28 2 ?_)
  |(refine mK (c:=k.la.era) av (fun era s' e ak ad aZ=>?_) (fun a s' e ak=>?_))
  |(refine mK av (fun r s' e ak ad aZ=>?_) (fun a s' e ak=>?_))
  |(refine u3 av (fun r s' e ak ad aZ=>?_) (fun a s' e ak=>?_))
  |(refine tA av (fun v ah=>?_);subst ah)
  |(refine DC (by assumption:bc _ _ _ _).la (fun v ah=>?_);subst ah)
  |(refine xw (n:=3) (e:=3) p 28 1 ?_)
  |(refine xw (n:=3) (e:=3) p 28 0 ?_)
  |(exact hD (cl _ _ (by rw[<-dF];simp only[uA,pK,ab,cZ,e,ax.dq]) ak))
  |(exact cC (X:=Nat×aq) (3,x) S ⟨by omega,aW,pX,o7,by rw[<-dF];simp only[uA,pK,ab,dm,ax.cx]⟩ ⟨rfl,rfl,rfl,trivial⟩ trivial)
  |(exact cC (X:=Nat×aq) (3,mr s' 2 0) S ⟨by omega,ak.hB 2 0,by show s.made<=(mr s' 2 0).made;rw[rU];omega,by show(mr s' 2 0).gone=_;rw[zB,aZ,o7],by rw[<-dF];simp only[uA,pK,ab,cZ,e,ax.cx]⟩ ⟨rfl,rfl,rfl,trivial⟩ trivial)
  |(exact cC (X:=Nat×aq) (2,x) S ⟨by omega,aW,pX,o7,by rw[<-dF];simp only[uA,pK,ab,dm,ax.cx]⟩ ⟨rfl,rfl,rfl,trivial⟩ trivial)
  |(exact cC (X:=Nat×aq) (2,mr s' 1 0) S ⟨by omega,ak.hB 1 0,by show s.made<=(mr s' 1 0).made;rw[rU];omega,by show(mr s' 1 0).gone=_;rw[zB,aZ,o7],by rw[<-dF];simp only[uA,pK,ab,cZ,e,ax.cx]⟩ ⟨rfl,rfl,rfl,trivial⟩ trivial)
  |(exact cC (X:=Nat×aq) (1,x) S ⟨by omega,aW,pX,o7,by rw[<-dF];simp only[uA,pK,ab,dm,ax.cx]⟩ ⟨rfl,rfl,rfl,trivial⟩ trivial)
  |(exact cC (X:=Nat×aq) (1,mr s' 0 0) S ⟨by omega,ak.hB 0 0,by show s.made<=(mr s' 0 0).made;rw[rU];omega,by show(mr s' 0 0).gone=_;rw[zB,aZ,o7],by rw[<-dF];simp only[uA,pK,ab,cZ,e,ax.cx]⟩ ⟨rfl,rfl,rfl,trivial⟩ trivial)
  |(exact hD (cl _ _ (by rw[<-dF];simp only[vO,ax.cx,ax.dq,Cs,Ct,Cu,cZ, *]) av))
  |(exact cA (aC (_,_) _ (by rw[<-dF];simp only[vO,ax.cx,gy,Cs,Ct,Cu,dm,cZ, *]) av S (by simp only[*])))
  |(exact cC (X:=aq) (mr s' 1 era) (by rw[rU];omega) ⟨bc.hB av _ _,by rw[rU];omega,by rw[zB];simp only[*],by rw[<-dF];simp only[vO,ax.cx,gy,Cs,Ct,Cu,cZ, *]⟩ ⟨rfl,rfl,rfl,trivial⟩ trivial)
  |(exact cC (X:=aq) (mr s' 0 era) (by rw[rU];omega) ⟨bc.hB av _ _,by rw[rU];omega,by rw[zB];simp only[*],by rw[<-dF];simp only[vO,ax.cx,gy,Cs,Ct,Cu,cZ, *]⟩ ⟨rfl,rfl,rfl,trivial⟩ trivial)
  |refine eg ?_
  |(refine eh ?_ ?_<;>(try with_reducible intro ab)<;>(try(exfalso;omega)))
  |with_reducible intro r)<;>(try conv=>whnf))):P:=h
def aut(g4:c4->List PanicEntry)(ca:aI->aq->cg->Nat->Nat->Nat->aw->aw)(jo:FuncId):Prop:=∀{H:World} {w0:World} {X:Nat->Prop} {M:aw} {K:Value->an->Prop} {Z:bF} {k:aI} {s:aq} {g:cg} {p bx a0:Nat} {slot c:Int} (ar:slot=0\/slot=1\/slot=2) (h:bc H k s g) (aC:∀r s',qy k slot c s= .ok r s'->bc H k s' g->s.made<s'.made->s'.gone=s.gone->K (.tuple #[J r.1,J r.2]) (Y H w0 X (ca k s' g p bx a0 M))) (cl:∀a s',qy k slot c s= .ask a->bc H k s' g->Z (g4 a) (Y H w0 X (ca k s' g p bx a0 M))),a4 H w0 X (ca k s g p bx a0 M) jo #[ae p,J slot,J c] K Z
theorem axb {P:Prop} (h:P:=by
 rename_i H w0 X M K Z k s g p bx a0 slot c
 intro ar h aC cl
 refine a7 (by first|exact ajx|exact ai7|exact ajS) ?_
 intro az aF
 conv=>whnf
 refine c9.on (X:=aq) (fun x=> [(0,.v (ae p)),(1,.v (J slot)),(2,.v (J c))]) (fun _=> []) (fun x=>Y H az aF (ca k x g p bx a0 M)) (fun x=>bc H k x g/\s.made<=x.made/\x.gone=s.gone/\qy k slot c x=qy k slot c s) (fun x=>k.log.length+1-x.made) s ⟨h,Nat.le_refl _,rfl,rfl⟩ ⟨rfl,rfl,rfl,trivial⟩ trivial ?_
 rintro x iC ⟨aW,pX,o7,dF⟩
 have lM:=aW.made
 rw[aeB lM] at dF
 conv=>whnf
 rcases ar with rfl|rfl|rfl
 ·exact Gw
 ·exact Gw
 ·repeat'((first
   |(refine mK (c:=k.la.era) av (fun era s' e ak ad aZ=>?_) (fun a s' e ak=>?_))
   |(refine mK av (fun r s' e ak ad aZ=>?_) (fun a s' e ak=>?_))
   |(refine u3 av (fun r s' e ak ad aZ=>?_) (fun a s' e ak=>?_))
   |(refine tA av (fun v ah=>?_);subst ah)
   |(refine DC (by assumption:bc _ _ _ _).la (fun v ah=>?_);subst ah)
   |(refine xw (n:=3) (e:=3) p 28 2 ?_)
   |(exact hD (cl _ _ (by rw[<-dF];simp only[vO,ax.cx,ax.dq,Cs,Ct,Cu,cZ, *]) av))
   |(exact cA (aC (_,_) _ (by rw[<-dF];simp only[vO,ax.cx,gy,Cs,Ct,Cu,dm,cZ, *]) av S (by simp only[*])))
   |(exact cC (X:=aq) (mr s' 2 era) (by rw[rU];omega) ⟨bc.hB av _ _,by rw[rU];omega,by rw[zB];simp only[*],by rw[<-dF];simp only[vO,ax.cx,gy,Cs,Ct,Cu,cZ, *]⟩ ⟨rfl,rfl,rfl,trivial⟩ trivial)
   |refine jJ ?_
   |(refine QB ?_ ?_<;>(try with_reducible intro ab)<;>(try(exfalso;omega)))
   |with_reducible intro r)<;>(try conv=>whnf))):P:=h
def aup(ca:aI->aq->cg->Nat->Nat->Nat->aw->aw):Prop:=∀{H:World} {w0:World} {X:Nat->Prop} {M:aw} {k:aI} {s:aq} {g:cg} {p bx a0:Nat} {e:Int} {K:an->Prop} (h:K (Y H w0 X (ca k (mr s 0 e) g p bx a0 M))),eB Tryz.prog (Y H w0 X (ca k s g p bx a0 M)) (Instr.storeAt 3 (.pointer (some ⟨p,28,none⟩)) (J e)) K
theorem aw7 {P:Prop} (h:P:=by
 rename_i H w0 X M k s g p bx a0 e K
 intro h
 refine st ?_
 exact h):P:=h
def auq(ca:aI->aq->cg->Nat->Nat->Nat->aw->aw):Prop:=∀{H:World} {w0:World} {X:Nat->Prop} {M:aw} {k:aI} {s:aq} {g:cg} {p bx a0:Nat} {e:Int} {K:an->Prop} (h:K (Y H w0 X (ca k (mr s 1 e) g p bx a0 M))),eB Tryz.prog (Y H w0 X (ca k s g p bx a0 M)) (Instr.storeAt 3 (.pointer (some ⟨p,29,none⟩)) (J e)) K
theorem aw8 {P:Prop} (h:P:=by
 rename_i H w0 X M k s g p bx a0 e K
 intro h
 refine st ?_
 exact h):P:=h
def aur(ca:aI->aq->cg->Nat->Nat->Nat->aw->aw):Prop:=∀{H:World} {w0:World} {X:Nat->Prop} {M:aw} {k:aI} {s:aq} {g:cg} {p bx a0:Nat} {e:Int} {K:an->Prop} (h:K (Y H w0 X (ca k (mr s 2 e) g p bx a0 M))),eB Tryz.prog (Y H w0 X (ca k s g p bx a0 M)) (Instr.storeAt 3 (.pointer (some ⟨p,30,none⟩)) (J e)) K
theorem aw9 {P:Prop} (h:P:=by
 rename_i H w0 X M k s g p bx a0 e K
 intro h
 refine st ?_
 exact h):P:=h
def aun(g4:c4->List PanicEntry)(ca:aI->aq->cg->Nat->Nat->Nat->aw->aw)(jo:FuncId):Prop:=∀{H:World} {w0:World} {X:Nat->Prop} {M:aw} {K:Value->an->Prop} {Z:bF} {k:aI} {s:aq} {g:cg} {p bx a0:Nat} (h:bc H k s g) (aC:∀s',lf k s= .ok () s'->bc H k s' g->s.made<=s'.made->s'.gone=s.gone->K (.tuple #[]) (Y H w0 X (ca k s' g p bx a0 M))) (cl:∀a s',lf k s= .ask a->bc H k s' g->Z (g4 a) (Y H w0 X (ca k s' g p bx a0 M))),a4 H w0 X (ca k s g p bx a0 M) jo #[ae p] K Z
theorem aw5 {P:Prop} (h:P:=by
 rename_i H w0 X M K Z k s g p bx a0
 intro h aC cl
 refine a7 (by first|exact ai3|exact ajd|exact ajI) ?_
 intro az aF
 conv=>whnf
 have gw:lf k s=uA k s.e0 s.e1 s.e2 0 s:=rfl
 rw[gw] at aC cl
 refine IM ?_
 conv=>whnf
 refine c9.on (X:=Nat×aq) (fun x=> [(0,.v (ae p)),(7,.v (.agg #[J s.e0,J s.e1,J s.e2])),(8,.v (J (x.1:Int)))]) (fun _=> []) (fun x=>Y H az aF (ca k x.2 g p bx a0 M)) (fun x=>x.1<=3/\bc H k x.2 g/\s.made<=x.2.made/\x.2.gone=s.gone/\uA k s.e0 s.e1 s.e2 x.1 x.2=uA k s.e0 s.e1 s.e2 0 s) (fun x=>3-x.1) (0,s) ⟨by omega,h,Nat.le_refl _,rfl,rfl⟩ ⟨rfl,rfl,rfl,trivial⟩ trivial ?_
 rintro⟨i,x⟩ iC ⟨hi,aW,pX,o7,dF⟩
 dsimp only at hi aW pX o7 dF
 dsimp only
 by_cases cR:i=3
 ·subst cR
  conv=>whnf
  exact cA (aC _ (by rw[<-dF];rfl) aW pX o7)
 by_cases e0:i=0
 ·subst e0
  conv=>whnf
  exact Gw
 by_cases e1:i=1
 ·subst e1
  conv=>whnf
  exact Gw
 by_cases e2:i=2
 ·subst e2
  conv=>whnf
  exact Gw
 omega):P:=h
def auF(g4:c4->List PanicEntry)(ca:aI->aq->cg->Nat->Nat->Nat->aw->aw)(jo:FuncId):Prop:=∀{H:World} {w0:World} {X:Nat->Prop} {M:aw} {K:Value->an->Prop} {Z:bF} {k:aI} {s:aq} {g:cg} {p bx a0:Nat} (h:bc H k s g) (aC:∀r s',u7 k s= .ok r s'->bc H k s' g->s.made<s'.made->s'.gone=s.gone->K (.tuple #[J r.1,J r.2.1,.bool r.2.2]) (Y H w0 X (ca k s' g p bx a0 M))) (cl:∀a s',u7 k s= .ask a->bc H k s' g->Z (g4 a) (Y H w0 X (ca k s' g p bx a0 M))),a4 H w0 X (ca k s g p bx a0 M) jo #[ae p] K Z
theorem axm {P:Prop} (h:P:=by
 rename_i H w0 X M K Z k s g p bx a0
 intro h aC cl
 refine a7 (by first|exact aiR|exact ajf|exact ajK) ?_
 intro az aF
 conv=>whnf
 refine c9.on (X:=aq) (fun x=> [(0,.v (ae p))]) (fun _=> []) (fun x=>Y H az aF (ca k x g p bx a0 M)) (fun x=>bc H k x g/\s.made<=x.made/\x.gone=s.gone/\u7 k x=u7 k s) (fun x=>k.log.length+1-x.made) s ⟨h,Nat.le_refl _,rfl,rfl⟩ ⟨rfl,trivial⟩ trivial ?_
 rintro x iC ⟨aW,pX,o7,dF⟩
 have lM:=aW.made
 rw[aqX lM] at dF
 conv=>whnf
 repeat'((first
  |(show ay _ _ _ _ _ _;first|(refine mK (c:=k.la.era) av (fun hB s' e ak ad aZ=>?_) (fun a s' e ak=>?_))|(refine mK (c:=k.la.free) av (fun jR s' e ak ad aZ=>?_) (fun a s' e ak=>?_))|(refine mK av (fun link s' e ak ad aZ=>?_) (fun a s' e ak=>?_))|(refine u3 av (fun r s' e ak ad aZ=>?_) (fun a s' e ak=>?_))|(refine qu av (fun c s' e ak ad aZ=>?_) (fun a s' e ak=>?_))|(refine tA av (fun v ah=>?_);subst ah)|(refine rM av (fun v ah=>?_);subst ah)|(refine tJ ?_)|(refine Gp (r:=fq _) ?_)|(refine uW (r:=rZ (fq _) _) ?_))
  |(exact hD (cl _ _ (by rw[<-dF];simp only[DM,ax.cx,ax.dq,gy,dm,cZ,dH, *]) av))
  |(exact cA (aC (_,_,_) _ (by rw[<-dF];simp only[DM,ax.cx,ax.dq,gy,dm,cZ,dH, *]) av S (by simp only[*])))
  |(exact cC (X:=aq) s' S ⟨by assumption,by omega,by simp only[*],by rw[<-dF];simp only[DM,ax.cx,ax.dq,gy,dm,cZ,dH, *]⟩ ⟨rfl,trivial⟩ trivial)
  |refine jJ ?_
  |(refine QB ?_ ?_<;>(try with_reducible intro ab)<;>(try(exfalso;omega)))
  |with_reducible intro r)<;>(try conv=>whnf))):P:=h
def aus(g4:c4->List PanicEntry)(ca:aI->aq->cg->Nat->Nat->Nat->aw->aw)(jo:FuncId):Prop:=∀{H:World} {w0:World} {X:Nat->Prop} {M:aw} {K:Value->an->Prop} {Z:bF} {k:aI} {s:aq} {g:cg} {p bx a0:Nat} {n:Int} (h:bc H k s g) (aC:∀u s',tm k n s= .ok u s'->bc H k s' g->s.made<s'.made->s'.gone=s.gone->K (.tuple #[]) (Y H w0 X (ca k s' g p bx a0 M))) (cl:∀a s',tm k n s= .ask a->bc H k s' g->Z (g4 a) (Y H w0 X (ca k s' g p bx a0 M))),a4 H w0 X (ca k s g p bx a0 M) jo #[ae p,J n] K Z
theorem axa {P:Prop} (h:P:=by
 rename_i H w0 X M K Z k s g p bx a0 n
 intro h aC cl
 refine a7 (by first|exact ai1|exact ajc|exact ajJ) ?_
 intro az aF
 conv=>whnf
 refine c9.on (X:=aq) (fun x=> [(0,.v (ae p)),(1,.v (J n))]) (fun _=> []) (fun x=>Y H az aF (ca k x g p bx a0 M)) (fun x=>bc H k x g/\s.made<=x.made/\x.gone=s.gone/\tm k n x=tm k n s) (fun x=>k.log.length+1-x.made) s ⟨h,Nat.le_refl _,rfl,rfl⟩ ⟨rfl,rfl,trivial⟩ trivial ?_
 rintro x iC ⟨aW,pX,o7,dF⟩
 have lM:=aW.made
 rw[aeg lM] at dF
 conv=>whnf
 repeat'((first
  |(show ay _ _ _ _ _ _;first|(refine mK av (fun jR s' e ak ad aZ=>?_) (fun a s' e ak=>?_))|(refine u3 av (fun r s' e ak ad aZ=>?_) (fun a s' e ak=>?_))|(refine qu av (fun c s' e ak ad aZ=>?_) (fun a s' e ak=>?_))|(refine tA av (fun v ah=>?_);subst ah)|(refine rM av (fun v ah=>?_);subst ah)|(refine tJ ?_)|(refine Gp (r:=fq _) ?_)|(refine uW (r:=rZ (fq _) _) ?_))
  |(exact hD (cl _ _ (by rw[<-dF];simp only[CD,ax.cx,ax.dq,gy,dm,cZ,dH, *]) av))
  |(exact cA (aC () _ (by rw[<-dF];simp only[CD,ax.cx,ax.dq,gy,dm,cZ,dH, *]) av S (by simp only[*])))
  |(exact cC (X:=aq) s' S ⟨by assumption,by omega,by simp only[*],by rw[<-dF];simp only[CD,ax.cx,ax.dq,gy,dm,cZ,dH, *]⟩ ⟨rfl,rfl,trivial⟩ trivial)
  |refine jJ ?_
  |(refine QB ?_ ?_<;>(try with_reducible intro ab)<;>(try(exfalso;omega)))
  |with_reducible intro r)<;>(try conv=>whnf))):P:=h
namespace fC
theorem E1:aut g4 ca 353:=axb
theorem avy:aup ca:=aw7
theorem avz:auq ca:=aw8
theorem avA:aur ca:=aw9
theorem yF:aun g4 ca 320:=aw5
theorem Pq:auF g4 ca 308:=axm
theorem HB:aus g4 ca 318:=axa
end fC
namespace eQ
theorem E1:aut g4 ca 324:=axb
theorem avy:aup ca:=aw7
theorem avz:auq ca:=aw8
theorem avA:aur ca:=aw9
theorem yF:aun g4 ca 330:=aw5
theorem Pq:auF g4 ca 332:=axm
theorem HB:aus g4 ca 329:=axa
end eQ
namespace dV
theorem E1:aut g4 ca 379:=axb
theorem avy:aup ca:=aw7
theorem avz:auq ca:=aw8
theorem avA:aur ca:=aw9
theorem yF:aun g4 ca 369:=aw5
theorem Pq:auF g4 ca 371:=axm
theorem HB:aus g4 ca 370:=axa
end dV
def auv(jo:FuncId):Prop:=∀{H:World} {w0:World} {X:Nat->Prop} {M:aw} {K:Value->an->Prop} {Z:bF} {f gX gr r:Int} {dK iL:Nat} (aK:(ae dK,aY.cs 3 [J f])∈M) (aZ:(ae iL,aY.cs 187 [J gX,J gr])∈M) (U:K (.bool (decide (f<=r)&&decide (r<=gr))) (Y H w0 X M)),a4 H w0 X M jo #[J r,ae dK,ae iL] K Z
theorem axd {P:Prop} (h:P:=by
 rename_i H w0 X M K Z f gX gr r dK iL
 intro aK aZ U
 refine a7 (by first|exact ajA|exact ajC|exact ajT) ?_
 intro az aF
 conv=>whnf
 repeat'((first
  |(show bk _ _ _ _;first|(refine fv aK aD W W ?_)|(refine fv (off:=1) aZ aD W W ?_))
  |(refine xw (n:=2) (e:=3) iL 0 1 ?_)
  |(rw[show(decide (f<=r)&&decide (r<=gr))=decide (r<=gr) by simp[ab]] at U;exact cA U)
  |(rw[show(decide (f<=r)&&decide (r<=gr))=false by simp[ab]] at U;exact cA U)
  |refine jJ ?_
  |(refine oQ ?_ ?_<;>(try with_reducible intro ab)<;>(try(exfalso;omega)))
  |with_reducible intro r)<;>(try conv=>whnf))):P:=h
def auC(g4:c4->List PanicEntry)(ca:aI->aq->cg->Nat->Nat->Nat->aw->aw)(jo:FuncId):Prop:=∀{H:World} {w0:World} {X:Nat->Prop} {M:aw} {K:Value->an->Prop} {Z:bF} {k:aI} {s:aq} {g:cg} {p bx a0:Nat} {n:Int} (h:bc H k s g) (aC:∀s' bH,tP k n s= .ok () s'->bc H k s' bH->s.made<s'.made->K (.tuple #[]) (Y H w0 X (ca k s' bH p bx a0 M))) (cl:∀a s' bH,tP k n s= .ask a->bc H k s' bH->Z (g4 a) (Y H w0 X (ca k s' bH p bx a0 M))),a4 H w0 X (ca k s g p bx a0 M) jo #[ae p,J n] K Z
theorem axj {P:Prop} (h:P:=by
 rename_i H w0 X M K Z k s g p bx a0 n
 intro h aC cl
 have MR:∀(gs:List cz) (e:Int),gs.flatMap ft++[J n,J e]=(gs++[(n,e)]).flatMap ft:=fun gs e=>by simp[ft]
 have fu:g.n<=2000000:=by have:=h.fh;have:=h.pO;have:=h.made;have:=h.lm;omega
 have lL:=h.la.bt
 refine a7 (by first|exact ai4|exact aji|exact ajQ) ?_
 intro az aF
 conv=>whnf
 repeat'((first
  |(show eS _ _;first|(refine eS.on (X:=Unit) (fun _=> [(0,.v (ae p)),(1,.v (J n)),(55,.v (.bool (decide (((g.n+1:Nat):Int)<IntKind.i64.wrap (2*k.la.bt)))))]) (fun _=> []) (fun _=>Y H az aF (ca k {aV with gone:=aV.gone++[(n,era)]} ⟨true,bf,g.n+1,bA⟩ p bx a0 ((Value.slice none 0 0,aY.row 3 1 (is []))::(Value.slice none 0 0,aY.row 187 2 (List.flatMap ft []))::M))) (fun _=>0<=bA) ?_ ?_)|(refine eS.on (X:=aq) (fun _=> [(0,.v (ae p)),(1,.v (J n)),(4,.v (J era))]) (fun _=> []) (fun x=>Y H az aF (ca k x g p bx a0 M)) (fun x=>(∃iC,hp k ⟨4,k.la.era,0,1⟩ s1= .ok iC x)/\bc H k x g/\s1.made<x.made/\x.gone=s1.gone) ?_ ?_))
  |(show ay _ _ _ _ _ _;first|(refine mK (c:=k.la.era) h (fun era s1 e1 O mJ rz=>?_) (fun a s' e ak=>?_))|(refine Lm (a:=⟨4,k.la.era,0,1⟩) O (fun iC aV e2 V nW kF=>?_) (fun a s' e ak=>?_))|(refine uy (WC V) V.fh S V.pP (fun br bz dS ep=>?_)))
  |(show bk _ _ _ _;first|(refine yC (n:=2) (e:=3) bP aD aD ?_)|(refine hb qw W ?_)|(refine jL qw (fy.own (l:=[J n,J era]) qw (List.Mem.head _) LZ 1) h8.here S ?_;intro bf bA ka iz;rw[MR])|(refine bk.imp (aE:=ca k {aV with gone:=aV.gone++[(n,era)]} ⟨true,bf,g.n+1,bA⟩ p bx a0 ((Value.slice none 0 0,aY.row 3 1 (is []))::(Value.slice none 0 0,aY.row 187 2 (List.flatMap ft []))::M)) (aJ.trans aJ.gone (aJ.trans (aJ.Bc [_,_,_,_] none 187 2) (aJ.Bc [_,_,_,_] none 3 1))) (uS ?_)))
  |(show _/\_;first|(refine⟨by rfl,fun nO=>?_⟩))
  |(exact hA.on (X:=Unit) () (cY _) ⟨rfl,rfl,rfl,trivial⟩ trivial)
  |(exact hA.on (X:=aq) _ ⟨⟨_,by assumption⟩,by assumption,by assumption,by assumption⟩ ⟨rfl,rfl,rfl,trivial⟩ trivial)
  |(rintro(_:Unit) r aT)
  |(rintro(aV:aq) r ⟨⟨iC,e2⟩,V,nW,kF⟩)
  |(exact hD (cl _ _ g (by simp only[tP,ax.cx,ax.dq, *]) av))
  |refine jJ ?_
  |(refine lF ?_ ?_)
  |with_reducible intro r)<;>(try conv=>whnf))
 have au:IntKind.i64.wrap (2*k.la.bt)=2*k.la.bt:=cK S
 have fj:=V.fh
 have kp:=h.pO
 have ME:=V.made
 have avR:aV.gone.length=s.gone.length:=by rw[kF,rz]
 have aa:bc H k {aV with gone:=aV.gone++[(n,era)]} ⟨true,bf,g.n+1,bA⟩:=V.own _ (by rw[gC,fj];rfl) ka (by rw[gC];show _+1<=_;omega) iz
 refine ba.dec (fun ab=>?_) (fun ab=>?_)
 ·conv=>whnf
  refine c1 (aC _ _ ?_ aa (show s.made<aV.made by omega))
  rw[tP,e1,ax.cx,e2,ax.cx,if_pos S]
 conv=>whnf
 repeat'((first
  |(show bk _ _ _ _;first|(refine uS ?_)))<;>(try conv=>whnf))
 generalize c3:AK k (w2 k) [] {aV with gone:=aV.gone++[(n,era)]}=R
 have C3:tP k n s=R.and fun held bu=>(qZ k held (aV.gone++[(n,era)]) [] bu).and fun stay cw=> .ok () {cw with gone:=stay}:=by
  rw[tP,e1,ax.cx,e2,ax.cx,if_neg S,c3]
 generalize HX:aV.gone++[(n,era)]=gs at*
 have Mv:gs.length=g.n+1:=by rw[<-HX,gC,fj];rfl
 refine c9.on (X:=Nat×aq×(Option Addr×Nat)×List Int) (fun x=> [(0,.v (ae p)),(5,.v (.slice x.2.2.1.1 x.2.2.2.length x.2.2.1.2)),(61,.v (J k.la.bt)),(62,.v (J (x.1:Int)))]) (fun _=> []) (fun x=>Y H az aF (ca k x.2.1 ⟨true,bf,g.n+1,bA⟩ p bx a0 ((.slice x.2.2.1.1 x.2.2.2.length x.2.2.1.2,.row 3 1 (is x.2.2.2))::(Value.slice none 0 0,aY.row 187 2 (List.flatMap ft []))::M))) (fun x=>(x.1:Int)<=k.la.bt/\x.2.2.2.length=3*x.1/\wM H k ⟨true,bf,g.n+1,bA⟩ gs s.made R x.2.1 x.2.2.1.1 x.2.2.1.2 x.2.2.2) (fun x=>k.la.bt.toNat-x.1) (0,{aV with gone:=gs},(none,0),[]) ⟨by show(0:Int)<=_;omega,rfl,aa,rfl,by show s.made<aV.made;omega,Nat.le_refl _,fun h=>absurd h (Nat.lt_irrefl 0),c3⟩ ⟨rfl,rfl,rfl,rfl,trivial⟩ trivial ?_
 rintro⟨i,x,⟨lx,ch⟩,xs⟩ r ⟨hi,AW,cM⟩
 dsimp only at hi AW cM
 dsimp only
 conv=>whnf
 refine ba.dec (fun ab=>?_) (fun ab=>?_)
 ·conv=>whnf
  refine c9.on (X:=Nat×aq×(Option Addr×Nat)×List Int) (fun x=> [(0,.v (ae p)),(5,.v (.slice x.2.2.1.1 x.2.2.2.length x.2.2.1.2)),(6,.v (J (i:Int))),(61,.v (J k.la.bt)),(62,.v (J (i:Int))),(65,.v (J (x.1:Int)))]) (fun _=> []) (fun x=>Y H az aF (ca k x.2.1 ⟨true,bf,g.n+1,bA⟩ p bx a0 ((.slice x.2.2.1.1 x.2.2.2.length x.2.2.1.2,.row 3 1 (is x.2.2.2))::(Value.slice none 0 0,aY.row 187 2 (List.flatMap ft []))::M))) (fun x=>x.1<=3/\x.2.2.2.length=3*i+x.1/\wM H k ⟨true,bf,g.n+1,bA⟩ gs s.made R x.2.1 x.2.2.1.1 x.2.2.1.2 x.2.2.2) (fun x=>3-x.1) (0,x,(lx,ch),xs) ⟨cY _,AW,cM⟩ ⟨rfl,rfl,rfl,rfl,rfl,rfl,trivial⟩ trivial ?_
  rintro⟨j,x,⟨lx,ch⟩,xs⟩ r ⟨a9,AW,cM⟩
  dsimp only at a9 AW cM
  dsimp only
  conv=>whnf
  refine ba.dec (fun hc=>?_) (fun hc=>?_)
  ·conv=>whnf
   repeat'((first
    |(show ay _ _ _ _ _ _;first|(refine DC cM.ok.la (fun v ah=>?_);subst ah)|(refine mK cM.ok (fun v de e ak ad aZ=>?_) (fun a de e ak=>?_)))
    |(show bk _ _ _ _;first|(refine hb gK W ?_)|(refine jL gK (fy.own (l:=[J v]) gK (List.Mem.head _) (Dt _) 1) mw S ?_;intro eJ fa Sd L4;rw[Nj]))
    |(show _/\_;first|(refine⟨by rfl,fun auU=>?_⟩))
    |(exact k1 (cl a de ⟨true,bf,g.n+1,bA⟩ (by rw[C3,<-cM.step S AW ab,e];rfl) ak))
    |(exact cC (X:=Nat×aq×(Option Addr×Nat)×List Int) (j+1,de,(eJ,fa),xs++[v]) (by show 3-(j+1)<3-j;omega) ⟨by show j+1<=3;omega,by rw[gC,AW];rfl,cM.next S AW ab e ak ad aZ Sd L4⟩ ⟨rfl,by rw[gC];rfl,rfl,rfl,rfl,eD S,trivial⟩ trivial (hC:=by rw[gC];rfl))
    |refine jJ ?_
    |(refine lF ?_ ?_)
    |with_reducible intro r)<;>(try conv=>whnf))
  conv=>whnf
  exact cC (X:=Nat×aq×(Option Addr×Nat)×List Int) (i+1,x,(lx,ch),xs) (by show _-(i+1)<_-i;omega) ⟨by show((i+1:Nat):Int)<=_;omega,by show xs.length=3*(i+1);omega,cM⟩ ⟨rfl,rfl,rfl,eD S,trivial⟩ trivial
 conv=>whnf
 have aeX:=cM.end_ S
 rw[aeX,ax.cx] at C3
 have av9:xs.length<=24:=by omega
 generalize aeV:qZ k xs gs [] x=aaM at C3
 refine uS ?_
 conv=>whnf
 refine c9.on (X:=Nat×aq×(Option Addr×Nat)×List cz) (fun x=> [(0,.v (ae p)),(5,.v (.slice lx xs.length ch)),(8,.v (.slice x.2.2.1.1 x.2.2.2.length x.2.2.1.2)),(85,.v (.slice bf (g.n+1) bA)),(86,.v (J ((g.n+1:Nat):Int))),(87,.v (J (x.1:Int)))]) (fun _=> []) (fun x=>Y H az aF (ca k x.2.1 ⟨true,bf,g.n+1,bA⟩ p bx a0 ((Value.slice lx xs.length ch,aY.row 3 1 (is xs))::(Value.slice x.2.2.1.1 x.2.2.2.length x.2.2.1.2,aY.row 187 2 (x.2.2.2.flatMap ft))::M))) (fun x=>x.1<=g.n+1/\Ew H k ⟨true,bf,g.n+1,bA⟩ gs s.made xs aaM x.1 x.2.1 x.2.2.1.1 x.2.2.1.2 x.2.2.2) (fun x=>g.n+1-x.1) (0,x,(none,0),[]) ⟨cY _,cM.ok,cM.gone,cM.made,Nat.le_refl _,Nat.le_refl _,fun h=>absurd h (Nat.lt_irrefl 0),aeV⟩ ⟨rfl,rfl,rfl,rfl,rfl,rfl,trivial⟩ trivial ?_
 rintro⟨i,x,⟨b4,cs⟩,stay⟩ r ⟨hi,ko⟩
 dsimp only at hi ko
 dsimp only
 have rD:=ko.len
 have awu:=ko.adN
 conv=>whnf
 refine ba.dec (fun ab=>?_) (fun ab=>?_)
 rotate_left
 ·conv=>whnf
  refine st ?_
  conv=>whnf
  have aeW:=ko.end_ S
  refine c1 (aC {x with gone:=stay} ⟨true,b4,stay.length,cs⟩ (by rw[C3,aeW];rfl) (ko.ok.own stay rfl ko.len (by have:=ko.ok.pO;rw[ko.gone] at this;omega) ko.own) ko.made)
 have So:i<gs.length:=by omega
 have gg:=ko.step So
 have agm:stay.flatMap ft++[J gs[i].1,J gs[i].2]=(stay++[gs[i]]).flatMap ft:=by simp[ft]
 conv=>whnf
 refine M7 iz ka S S (fun cU ae8=>?_)
 conv=>whnf
 refine zl (b:=cU) (ft gs[i]) (by rw[<-ae8];repeat(first|exact List.Mem.head _|refine dr _ ?_)) aD W W (by rw[ko.gone];exact uF ft 2 L0 gs i So) ?_
 conv=>whnf
 refine hT aD _ rfl (fun iL=>?_)
 conv=>whnf
 refine eB.imp (aE:=ca k x ⟨true,bf,g.n+1,bA⟩ p bx a0 ((ae iL,.cs 187 [J 0,J 0])::(Value.slice lx xs.length ch,aY.row 3 1 (is xs))::(Value.slice b4 stay.length cs,aY.row 187 2 (stay.flatMap ft))::M)) (aJ.sink [_,_,_,_] _) (st ?_)
 conv=>whnf
 repeat'((first
  |(show ay _ _ _ _ _ _;first|(refine rM (i:=6) ko.ok (fun v ah=>?_);subst ah)|(refine mK ko.ok (fun v de e ak ad aZ=>?_) (fun a de e ak=>?_))|(refine acC (kl:=[ae dK,ae iL]) rfl b7 rfl cM.len cM.own S (IP v gs[i].2) (fun w0 X K Z r U=>awE b7 b7 U) ?_))
  |(show bk _ _ _ _;first|(refine IZ ?_)|(refine hT (c2:=⟨1,J 0,.int .i64,[]⟩) aD _ rfl (fun dK=>?_)))
  |(show eB _ _ _ _;first|(refine eB.imp (aE:=ca k de ⟨true,bf,g.n+1,bA⟩ p bx a0 ((ae dK,.cs 3 [J 0])::(ae iL,aY.cs 187 (ft gs[i]))::(Value.slice lx xs.length ch,aY.row 3 1 (is xs))::(Value.slice b4 stay.length cs,aY.row 187 2 (stay.flatMap ft))::M)) (aJ.sink [_,_,_,_] _) (st ?_)))
  |(show ff _ _ _ _ _;first|(refine kZ W ?_))
  |(refine xw (n:=2) (e:=3) iL 0 0 ?_)
  |(exact k1 (cl a de ⟨true,bf,g.n+1,bA⟩ (by rw[C3,<-gg,e];rfl) ak))
  |refine jJ ?_
  |(refine lF ?_ ?_)
  |with_reducible intro r)<;>(try conv=>whnf))
 cases MC:xs.any (IP v gs[i].2) with
 |true=>
  conv=>whnf
  repeat'((first
   |(show bk _ _ _ _;first|(refine hb qw W ?_)|(refine bk.imp (aE:=(.slice (some ⟨abE,0,none⟩) 1 1,.row 187 2 [J gs[i].1,J gs[i].2])::ca k de ⟨true,bf,g.n+1,bA⟩ p bx a0 ((Value.slice lx xs.length ch,aY.row 3 1 (is xs))::(Value.slice b4 stay.length cs,aY.row 187 2 (stay.flatMap ft))::M)) (aJ.sub cn) (jL qw (fy.own (l:=[J gs[i].1,J gs[i].2]) qw (List.Mem.head _) LZ 1) mw S ?_);intro gS gW afa aeE;rw[agm]))
   |(show _/\_;first|(refine⟨by rfl,fun abE=>?_⟩))
   |(exact cC (X:=Nat×aq×(Option Addr×Nat)×List cz) (i+1,de,(gS,gW),stay++[gs[i]]) (by show g.n+1-(i+1)<g.n+1-i;omega) ⟨by show i+1<=_;omega,ak,aZ.trans ko.gone,by have:=ko.made;show s.made<de.made;omega,by rw[gC];exact afa,by rw[gC];show _+1<=i+1;omega,aeE,by rw[<-gg,e,ax.cx,MC];rfl⟩ ⟨rfl,rfl,by rw[gC];rfl,rfl,rfl,eD S,trivial⟩ trivial (hC:=by rw[gC];rfl))
   |refine jJ ?_
   |(refine lF ?_ ?_)
   |with_reducible intro r)<;>(try conv=>whnf))
 |false=>
  conv=>whnf
  repeat'((first
   |(show ay _ _ _ _ _ _;first|(refine ay.imp (aE:=ca k de ⟨true,bf,g.n+1,bA⟩ p bx a0 ((Value.slice lx xs.length ch,aY.row 3 1 (is xs))::(Value.slice b4 stay.length cs,aY.row 187 2 (stay.flatMap ft))::M)) (aJ.sub cn) (HB ak (fun u fL e2 V nW kF=>?_) (fun a fL e2 V=>?_))))
   |(refine xw (n:=2) (e:=3) iL 0 0 ?_)
   |(exact k1 (cl a fL ⟨true,bf,g.n+1,bA⟩ (by rw[C3,<-gg,e,ax.cx,MC];simp only[e2,ax.dq,dH,cZ]) V))
   |(exact cC (X:=Nat×aq×(Option Addr×Nat)×List cz) (i+1,fL,(b4,cs),stay) (by show g.n+1-(i+1)<g.n+1-i;omega) ⟨by show i+1<=_;omega,V,kF.trans (aZ.trans ko.gone),by have:=ko.made;show s.made<fL.made;omega,ko.len,by show stay.length<=i+1;omega,ko.own,by rw[<-gg,e,ax.cx,MC];simp only[e2,ax.cx,dH,cZ]⟩ ⟨rfl,rfl,rfl,rfl,rfl,eD S,trivial⟩ trivial)
   |refine jJ ?_
   |(refine lF ?_ ?_)
   |with_reducible intro r)<;>(try conv=>whnf))):P:=h
namespace fC
theorem awE:auv 356:=axd
theorem F4:auC g4 ca 321:=axj
end fC
namespace eQ
theorem awE:auv 358:=axd
theorem F4:auC g4 ca 335:=axj
end eQ
namespace dV
theorem awE:auv 380:=axd
theorem F4:auC g4 ca 377:=axj
end dV
end Go.Proofs.YtcflcebplhdcpaaGreat
