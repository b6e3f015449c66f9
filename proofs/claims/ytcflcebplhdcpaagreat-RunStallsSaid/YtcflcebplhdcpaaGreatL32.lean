/- Lemmas, part 32; each states its own conditions. -/
import Derived.Test.YtcflcebplhdcpaaGreatL25
import Derived.Test.YtcflcebplhdcpaaGreatL30
namespace Go.Proofs.YtcflcebplhdcpaaGreat
open Go.RowKit
set_option linter.unusedSimpArgs false
set_option linter.unusedVariables false
set_option maxRecDepth 100000
set_option maxHeartbeats 16000000
variable{H w0:World}{X:Nat->Prop}{M:aw}{K:Value->an->Prop}{Z:bF}
theorem JZ {P:Prop} (h:P:=by
 repeat'((first
  |(show ff _ _ _ _ _;first|(refine kZ W ?_)|(refine FN W W aD W ?_))
  |(show ay _ _ _ _ _ _;first|(refine uy h aB ad b3 (fun br bz dS ep=>?_)))
  |(refine p9 b7 aD W ?_)
  |(refine sR b7 aD W W ?_)
  |(exact c1 (cl a (by rw[e];rfl)) (.cons _ (.cons _ (.cons _ (.cons _ (.refl _))))))
  |(exact hy.drop _ (List.Sublist.refl _) U)
  |(exact cA (U _ _ dS ep))
  |(exact cd.imp (K:=K) (fC.ca k (aq.start gs) ⟨false,g.A,g.n,g.c⟩ _ _ _ M) (aJ.perm (kO _ _ _)) (U _ _ _))
  |refine eg ?_
  |(refine eh ?_ ?_)
  |with_reducible intro r)<;>(try conv=>whnf))):P:=h
section
theorem abw{k:aI}{gs:List cz}{g:cg}(U:∀p bx a0,K (ae p) (Y H w0 X (fC.ca k (aq.start gs) ⟨false,g.A,g.n,g.c⟩ p bx a0 M))):a4 H w0 X M 266 #[.agg k.la.l.toArray,J k.a1,.slice g.A g.n g.c,.slice k.bK k.aM k.bD] K Z:=by
 refine a7 aiv ?_
 intro az aF
 conv=>whnf
 exact JZ
theorem aoN{A:Option Addr}{n c:Nat}{gs:List cz}(h:s4 H M A n c gs)(aB:n=gs.length)(ad:n<=1000000000)(b3:A=none->n=0)(U:∀aR aN,n<=aN->(0<aN->∃b,aR=some ⟨b,0,none⟩)->K (.tuple #[.agg #[J 0,J 0,J 0,J 0],.agg #[J 0,.bool false,J 1,J (-1),.slice aR n aN],.bool true]) (Y H w0 X ((.slice aR n aN,.row 187 2 (gs.flatMap ft))::M))):a4 H w0 X M 265 #[.slice A n c] K Z:=by
 refine a7 aiu ?_
 intro az aF
 conv=>whnf
 exact JZ
abbrev Va(df cU cj el:Nat):Deferred:={target:= .fn (.func 307) #[ae df,ae cU,ae cj,ae el],args:=#[]}
def FY(df cU cj el p:Nat)(acc:List Value)(M:aw):aw:=(ae el,.cs 4 [.bool false])::(ae cj,.cs 145 [J 0,.bool false,J 0,J 0,.slice none 0 0])::(ae df,.cs 136 acc)::(ae cU,.cs 305 [ae p])::M
theorem aoF{a:c4}{df cU cj el p:Nat}{K:FrameMode->an->Prop}(U:K (.panicking [{v:= .iface 329 (.agg a.l.toArray),recovered:=true}]) (Y H w0 X (FY df cU cj el p a.l M))):
  h0 Tryz.prog (Y H w0 X (FY df cU cj el p [J 0,J 0,J 0,J 0] M)) (Va df cU cj el) (.panicking (fC.g4 a)) K:=by
 refine yI e8 i6 Tx VD W bP (args:=[ae df,ae cU,ae cj,ae el]) W rfl rfl ?_
 intro az aF
 conv=>whnf
 refine zA false (.inr ⟨_,_,rfl,rfl⟩) rfl bP ?_
 conv=>whnf
 exact JZ
theorem aoJ{df cU cj el:Nat}{K:FrameMode->an->Prop}(U:K .returning (Y H w0 X M)):h0 Tryz.prog (Y H w0 X M) (Va df cU cj el) .returning K:=by
 refine yI e8 i6 Tx VD W bP (args:=[ae df,ae cU,ae cj,ae el]) W rfl rfl ?_
 intro az aF
 conv=>whnf
 refine zA true (.inl ⟨rfl,rfl⟩) rfl bP ?_
 conv=>whnf
 exact hy.drop _ (List.Sublist.refl _) U
theorem Vb {k:aI} {s:aq} {g:cg} {p bx a0:Nat} {R:ax cI} {nS:FuncId} {kl:List Value} (h:bc H k s g)
  (bh:∀(w0:World) (X:Nat->Prop) (aE:aw) (K:Value->an->Prop) (Z:bF),List.Sublist M aE->(∀o s' bH,R= .ok o s'->bc H k s' bH->K (.agg (cI.l o).toArray) (Y H w0 X (fC.ca k s' bH p bx a0 aE)))->(∀a s' bH,R= .ask a->bc H k s' bH->Z (fC.g4 a) (Y H w0 X (fC.ca k s' bH p bx a0 aE)))->a4 H w0 X (fC.ca k s g p bx a0 aE) nS kl.toArray K Z)
  (aC:∀o gs aR aN,e9.of R= .done o gs->gs.length<=aN->(0<aN->∃b,aR=some ⟨b,0,none⟩)->K (.tuple #[.agg #[J 0,J 0,J 0,J 0],.agg #[J o.val,.bool o.eG,J o.err,J o.c0,.slice aR gs.length aN],.bool true]) (Y H w0 X ((.slice aR gs.length aN,.row 187 2 (gs.flatMap ft))::M)))
  (cl:∀a,e9.of R= .ask a->K (.tuple #[.agg a.l.toArray,.agg #[J 0,.bool false,J 0,J 0,.slice none 0 0],.bool false]) (Y H w0 X M)):a4 H w0 X (fC.ca k s g p bx a0 M) 268 #[ae p,.func (.func nS) #[] kl.toArray] K Z:=by
 refine sH e8 i6 aix W ?_
 intro az aF
 conv=>whnf
 refine h2 _ rfl (fun cU=>?_)
 conv=>whnf
 refine hT aD _ rfl (fun df=>?_)
 conv=>whnf
 refine hT aD _ rfl (fun cj=>?_)
 conv=>whnf
 refine hT aD _ rfl (fun el=>?_)
 conv=>whnf
 refine kZ W ?_
 conv=>whnf
 rw[mI]
 conv=>whnf
 refine ay.imp (aE:=fC.ca k s g p bx a0 (FY df cU cj el p [J 0,J 0,J 0,J 0] M)) (aJ.JK (_::_::_::eY g s) M) (bh _ _ _ _ _ (.cons _ (.cons _ (.cons _ (.cons _ (.refl _))))) (fun o s' bH e ak=>?_) (fun a s' bH e ak=>?_))
 ·conv=>whnf
  refine eB.imp (aE:=FY df cU cj el p [J 0,J 0,J 0,J 0] (fC.ca k s' bH p bx a0 M)) (aJ.Pl (_::_::_::eY bH s') M) (st ?_)
  conv=>whnf
  have kp:bH.n<=1000000000:=by have:=ak.fh;have:=ak.pO;have:=ak.made;have:=ak.lm;omega
  repeat'((first
   |(show ay _ _ _ _ _ _;first|(refine uy ((fC.WC ak).more (.cons _ (.cons _ (.cons _ (.cons _ (.refl _)))))) ak.fh kp ak.pP (fun br bz dS ep=>?_)))
   |(show h0 _ _ _ _ _;first|(refine aoJ ?_))
   |(refine p9 b7 aD W ?_)
   |(refine sR b7 aD W W ?_)
   |refine jJ ?_
   |(refine lF ?_ ?_)
   |with_reducible intro r)<;>(try conv=>whnf))
  all_goals
   have U:=aC o s'.gone br bz (by rw[e];rfl) (by rw[<-ak.fh];exact dS) ep
   rw[<-ak.fh] at U
   exact c1 U (.cons_cons _ (.cons _ (.cons _ (.cons _ (.cons _ (.cons _ (.cons _ (.cons _ (od _ _)))))))))
 ·conv=>whnf
  refine h0.imp (aE:=FY df cU cj el p [J 0,J 0,J 0,J 0] M) (aJ.sub (od (_::_::_::eY bH s') _)) (aoF ?_)
  conv=>whnf
  exact JZ
end
theorem J0 {P:Prop} (h:P:=by
 repeat'((first
  |(show ay _ _ _ _ _ _;first|(refine ap1 a8 (fun v ah=>?_))|(refine anJ h (fun o s' e ak ad aZ=>?_) (fun a s' e ak=>?_))|(refine ann h (fun o s' bH e ak ad=>?_) (fun a s' bH e ak=>?_))|(refine arZ h.la (fun v ah=>?_);subst ah)|(refine abw (gs:=gs) (g:=g) (fun p bx a0=>?_))|(refine ap0 h.la (fun v ah=>?_);subst ah)|(refine aoN (gs:=gs) (.inl (h.ea rfl)) h.fh kp h.pP (fun aR aN aj b0=>?_))|(refine Vb (R:=(rP k (wx k.la op.o1) (xX k.la k.a1 op.o1) op.aQ (aq.start gs))) (kl:=[ae _,ae _,ae _,ae _]) h ?_ (fun o gv aR aN e aj b0=>?_) (fun a e=>?_))|(refine Vb (R:=(sO k (wx k.la op.o1) (xX k.la k.a1 op.o1) (aq.start gs))) (kl:=[ae _,ae _,ae _]) h ?_ (fun o gv aR aN e aj b0=>?_) (fun a e=>?_)))
  |(show bk _ _ _ _;first|(refine fv (.tail _ (.tail _ (.tail _ (db _ hr)))) aD W W ?_)|(refine fv (.tail _ (.tail _ (.tail _ (db _ hc)))) aD W W ?_)|(refine fv (.tail _ (.tail _ (.tail _ (db _ jU)))) aD W W ?_)|(refine fv (off:=2) (.tail _ (.tail _ (.tail _ (db _ vQ)))) aD W W ?_)|(refine h2 _ rfl (fun cj=>?_)))
  |(show eB _ _ _ _;first|(refine eB.imp (aJ.sink [_,_,_] _) (st ?_)))
  |(show ff _ _ _ _ _;first|(refine kZ W ?_))
  |(exact fun w0 X aE K Z ar aU a8=>alG h (ar.subset b7) (ar.subset b7) (ar.subset b7) (ar.subset b7) aU a8)
  |(exact fun w0 X aE K Z ar aU a8=>alH h (ar.subset b7) (ar.subset b7) (ar.subset b7) aU a8)
  |(rw[show oV k gs op=m9 gs by(unfold oV;repeat(first|rfl|refine(if_pos S).trans ?_|refine(if_neg S).trans ?_))] at U;have fz:=U aR aN (by rw[<-fj];exact aj) b0;rw[<-fj] at fz;exact c1 fz cn)
  |(rw[show oV k gs op=e9.of (rP k (wx k.la op.o1) (xX k.la k.a1 op.o1) op.aQ (aq.start gs)) by(unfold oV;repeat(first|rfl|refine(if_pos S).trans ?_|refine(if_neg S).trans ?_)),e] at U;exact c1 (U aR aN aj b0) cn)
  |(rw[show oV k gs op=e9.of (sO k (wx k.la op.o1) (xX k.la k.a1 op.o1) (aq.start gs)) by(unfold oV;repeat(first|rfl|refine(if_pos S).trans ?_|refine(if_neg S).trans ?_)),e] at U;exact c1 (U aR aN aj b0) cn)
  |(rw[show oV k gs op=e9.of (rP k (wx k.la op.o1) (xX k.la k.a1 op.o1) op.aQ (aq.start gs)) by(unfold oV;repeat(first|rfl|refine(if_pos S).trans ?_|refine(if_neg S).trans ?_)),e] at U;exact c1 U cn)
  |(rw[show oV k gs op=e9.of (sO k (wx k.la op.o1) (xX k.la k.a1 op.o1) (aq.start gs)) by(unfold oV;repeat(first|rfl|refine(if_pos S).trans ?_|refine(if_neg S).trans ?_)),e] at U;exact c1 U cn)
  |(exact hD (cl _ _ _ av av))
  |(exact cA (aC ⟨_,_,_,_⟩ _ _ av av))
  |(exact c1 (U _ ah))
  |(exact fun h=>absurd h S)
  |(omega)
  |refine eg ?_
  |(refine eh ?_ ?_<;>(try with_reducible intro ab)<;>(try(exfalso;omega)))
  |with_reducible intro r)<;>(try conv=>whnf))):P:=h
def jn(H w0:World)(X:Nat->Prop)(M:aw)(K:Value->an->Prop):e9->Prop
 | .ask a=>K (.tuple #[.agg a.l.toArray,.agg #[J 0,.bool false,J 0,J 0,.slice none 0 0],.bool false]) (Y H w0 X M)
 | .done o gs=> ∀aR aN,gs.length<=aN->(0<aN->∃b,aR=some ⟨b,0,none⟩)->K (.tuple #[.agg #[J 0,J 0,J 0,J 0],.agg #[J o.val,.bool o.eG,J o.err,J o.c0,.slice aR gs.length aN],.bool true]) (Y H w0 X ((.slice aR gs.length aN,.row 187 2 (gs.flatMap ft))::M))
def xX(la:c8)(a1 s:Int):Int:=Wv la s ((cB (a1.tmod la.h6+la.h6)).tmod la.h6)
def oV(k:aI)(gs:List cz)(op:dp):e9:=
 if wx k.la op.o1<0 then m9 gs else
 if op.o0=4/\0<=op.aQ/\op.aQ<4294967296 then e9.of (rP k (wx k.la op.o1) (xX k.la k.a1 op.o1) op.aQ (aq.start gs)) else
 if op.o0=5 then e9.of (sO k (wx k.la op.o1) (xX k.la k.a1 op.o1) (aq.start gs)) else m9 gs
section
theorem ap0{a:c8}{a1 s:Int}(a8:ig a)(U:∀v,v=xX a a1 s->K (J v) (Y H w0 X M)):a4 H w0 X M 267 #[.agg a.l.toArray,J a1,J s] K Z:=by
 refine a7 aiw ?_
 intro az aF
 conv=>whnf
 have rD:=a8.h6
 exact J0
theorem alG{k:aI}{s:aq}{g:cg}{p bx a0 cU bO jt cj:Nat}{top slot:Int}{op:dp}(h:bc H k s g)(hr:(ae cU,aY.cs 305 [ae p])∈M)(hc:(ae bO,aY.cs 3 [J top])∈M)(jU:(ae jt,aY.cs 3 [J slot])∈M)(vQ:(ae cj,aY.cs 72 op.l)∈M)(aC:∀o s' bH,rP k top slot op.aQ s= .ok o s'->bc H k s' bH->K (.agg (cI.l o).toArray) (Y H w0 X (fC.ca k s' bH p bx a0 M)))(cl:∀a s' bH,rP k top slot op.aQ s= .ask a->bc H k s' bH->Z (fC.g4 a) (Y H w0 X (fC.ca k s' bH p bx a0 M))):a4 H w0 X (fC.ca k s g p bx a0 M) 269 #[ae cU,ae bO,ae jt,ae cj] K Z:=by
 refine a7 aiy ?_
 intro az aF
 conv=>whnf
 exact J0
theorem alH{k:aI}{s:aq}{g:cg}{p bx a0 cU bO jt:Nat}{top slot:Int}(h:bc H k s g)(hr:(ae cU,aY.cs 305 [ae p])∈M)(hc:(ae bO,aY.cs 3 [J top])∈M)(jU:(ae jt,aY.cs 3 [J slot])∈M)(aC:∀o s' bH,sO k top slot s= .ok o s'->bc H k s' bH->K (.agg (cI.l o).toArray) (Y H w0 X (fC.ca k s' bH p bx a0 M)))(cl:∀a s' bH,sO k top slot s= .ask a->bc H k s' bH->Z (fC.g4 a) (Y H w0 X (fC.ca k s' bH p bx a0 M))):a4 H w0 X (fC.ca k s g p bx a0 M) 271 #[ae cU,ae bO,ae jt] K Z:=by
 refine a7 aiA ?_
 intro az aF
 conv=>whnf
 exact J0
theorem adu{k:aI}{gs:List cz}{g:cg}{op:dp}(h:bc H k (aq.start gs) ⟨false,g.A,g.n,g.c⟩)(U:jn H w0 X M K (oV k gs op)):a4 H w0 X M 204 #[.agg k.la.l.toArray,J k.a1,.slice g.A g.n g.c,.agg op.l.toArray,.slice k.bK k.aM k.bD] K Z:=by
 have kp:g.n<=1000000000:=by
  have O:g.n=gs.length:=h.fh
  have V:gs.length<=1000000+0:=h.pO
  omega
 have fj:g.n=gs.length:=h.fh
 refine a7 ah8 ?_
 intro az aF
 conv=>whnf
 exact J0
end
section
theorem asq{c:cr}{la:c8}{s:cm}{bS:Option Addr}{aX bb:Nat}{a1 dP:Int}{u:ug}(aS:u.err≠0/\s.o0≠10)(V:K (.agg (q2 s bS aX bb a1 true u.err 0).toArray) (Y H w0 X M)):
  ay Tryz.prog (Y H w0 X M) 104 #[.agg c.l.toArray,.agg la.l.toArray,.agg s.l.toArray,.slice bS aX bb,J a1,J dP,.agg u.l.toArray] K Z:=by
 obtain⟨val,eG,err,c0,DY,Dl,Cm⟩:=u
 obtain⟨phase,at_,task,hN,iA,gZ,gG,hl,j1,p3,gA,eM,gJ,o0,o1,aQ,bl,bK,aM,bD,b4,ns,cs,ho,ew,h3,hold⟩:=s
 replace aS:err≠0/\o0≠10:=aS
 refine sH e8 i6 IC W ?_
 intro az aF
 conv=>whnf
 refine h2 (cm.l _) rfl fun mC=>?_
 conv=>whnf
 refine h2 [.slice bS aX bb] rfl fun mT=>?_
 conv=>whnf
 refine h2 [J a1] rfl fun mU=>?_
 conv=>whnf
 refine hT aD _ rfl fun jM=>?_
 conv=>whnf
 refine kZ W ?_
 conv=>whnf
 refine eS.go ?_
 conv=>whnf
 refine ba.sM (fun ab=>?_) (fun ab=>absurd ab aS.1)
 conv=>whnf
 refine uS ?_
 conv=>whnf
 refine ba.sk (fun fi=>absurd fi aS.2) (fun fi=>?_)
 conv=>whnf
 refine Oc W aD W ?_
 conv=>whnf
 refine Od W W ?_
 conv=>whnf
 refine h0.imp (aJ.refl _) (PA (s:=⟨phase,at_,task,hN,iA,gZ,gG,hl,j1,p3,gA,eM,gJ,o0,o1,aQ,bl,bK,aM,bD,b4,ns,cs,ho,ew,h3,hold⟩) (bS:=bS) (aX:=aX) (bb:=bb) (a1:=a1) (d:=BE) (M:=M) rfl ?_)
 conv=>whnf
 refine p9 b7 aD W ?_
 conv=>whnf
 exact cd.imp (K:=K) M (aJ.sub ua) V
theorem asr{c:cr}{la:c8}{s:cm}{bS:Option Addr}{aX bb:Nat}{a1 dP:Int}{u:ug}(aS:u.err=1/\s.o0=10)(V:K (.agg (q2 s bS aX bb a1 true u.err 0).toArray) (Y H w0 X M)):
  ay Tryz.prog (Y H w0 X M) 104 #[.agg c.l.toArray,.agg la.l.toArray,.agg s.l.toArray,.slice bS aX bb,J a1,J dP,.agg u.l.toArray] K Z:=by
 obtain⟨val,eG,err,c0,DY,Dl,Cm⟩:=u
 obtain⟨phase,at_,task,hN,iA,gZ,gG,hl,j1,p3,gA,eM,gJ,o0,o1,aQ,bl,bK,aM,bD,b4,ns,cs,ho,ew,h3,hold⟩:=s
 replace aS:err=1/\o0=10:=aS
 obtain⟨rfl,rfl⟩:=aS
 refine sH e8 i6 IC W ?_
 intro az aF
 conv=>whnf
 refine h2 (cm.l _) rfl fun mC=>?_
 conv=>whnf
 refine h2 [.slice bS aX bb] rfl fun mT=>?_
 conv=>whnf
 refine h2 [J a1] rfl fun mU=>?_
 conv=>whnf
 refine hT aD _ rfl fun jM=>?_
 conv=>whnf
 refine kZ W ?_
 conv=>whnf
 refine eS.go ?_
 conv=>whnf
 refine uS ?_
 conv=>whnf
 refine Oc W aD W ?_
 conv=>whnf
 refine Od W W ?_
 conv=>whnf
 refine h0.imp (aJ.refl _) (PA (s:=⟨phase,at_,task,hN,iA,gZ,gG,hl,j1,p3,gA,eM,gJ,10,o1,aQ,bl,bK,aM,bD,b4,ns,cs,ho,ew,h3,hold⟩) (bS:=bS) (aX:=aX) (bb:=bb) (a1:=a1) (d:=BE) (M:=M) rfl ?_)
 conv=>whnf
 refine p9 b7 aD W ?_
 conv=>whnf
 exact cd.imp (K:=K) M (aJ.sub ua) V
end
end Go.Proofs.YtcflcebplhdcpaaGreat
