/- Lemmas, part 45; each states its own conditions. -/
import Derived.Test.YtcflcebplhdcpaaGreatL44
namespace Go.Proofs.YtcflcebplhdcpaaGreat
open Go.RowKit
set_option linter.unusedSimpArgs false
set_option linter.unusedVariables false
set_option maxRecDepth 100000
set_option maxHeartbeats 16000000
def xZ(x:gi)(M:aw):aw:=(.slice x.m.gm x.m.ec x.m.hj,.row 78 19 ((x.ct.map eP.s).flatMap cm.l))::(.slice x.m.eU x.m.b6 x.m.ci,.row 3 1 (is x.cf))::(.slice x.m.ed x.m.ev x.m.bp,.row 4 1 (x.al.map Value.bool))::(.slice x.m.gT x.m.dO x.m.gP,.row 3 1 (is x.mem))::M
structure wQ(H:World)(L:aw)(n N G:Nat)(x:gi):Prop where
 ok:iV H L n N G x
 ao:x.ao=[]/\x.m.ne=0
 bp:x.bp=[]/\x.m.bB=0/\x.m.dD=0
 ct:∀y∈x.ct,y.log=[]/\y.steps=[]/\y.s.aM=0/\y.s.ns=0
 al:∃w,x.al.getD w false=true
def eP.dL(y:eP):eP:={y with s:=uz y.s}
def gi.own(x:gi)(br:Option Addr)(bz:Nat)(bf:Option Addr)(bA:Nat)(da:Option Addr)(c7:Nat)(eJ:Option Addr)(fa:Nat)(gS:Option Addr)(gW:Nat):gi:=
 ⟨{x.m with gT:=br,gP:=bz,gm:=bf,hj:=bA,eU:=da,ci:=c7,ed:=eJ,bp:=fa,hO:=gS,ne:=0,ce:=gW,dD:=x.m.bB},x.ct.map eP.dL,x.cf,x.al,x.mem,[],[],x.fs⟩
theorem amA{x:gi}{br bf da eJ gS:Option Addr}{bz bA c7 fa gW:Nat}(O:x.ao=[])(V:x.bp=[]):(x.own br bz bf bA da c7 eJ fa gS gW).c=x.c:=by
 unfold gi.c gi.own
 rw[O,V]
 simp only[wO]
 rfl
section
variable{H:World}{L:aw}{n N G:Nat}{x:gi}{br bf da eJ gS:Option Addr}{bz bA c7 fa gW:Nat}
theorem amC:(x.own br bz bf bA da c7 eJ fa gS gW).ct.map eP.s=(x.ct.map eP.s).map uz:=by simp only[gi.own,wO];rfl
theorem iV.own(aU:iV H L n N G x)(h:wQ H L n N G x)(aB:1<=n)(O:x.m.dO<=bz/\(0<bz->∃b,br=some ⟨b,0,none⟩))(V:x.m.ec<=bA/\(0<bA->∃b,bf=some ⟨b,0,none⟩))(aa:x.m.b6<=c7/\(0<c7->∃b,da=some ⟨b,0,none⟩))(ag:x.m.ev<=fa/\(0<fa->∃b,eJ=some ⟨b,0,none⟩)):iV H L n N G (x.own br bz bf bA da c7 eJ fa gS gW):=by
 have o:=h.ok
 have ar:=o.bt
 have hi:=o.bN
 have a8:=o.al
 refine{la:=o.la,i7:=o.i7,code:=o.code,lc:=o.lc,bt:=⟨V.2 S,ar.2.1,by show n<=bA;omega,by simp only[gi.own,kz];exact ar.2.2.2⟩,bN:=⟨aa.2 S,hi.2.1,by show n<=c7;omega,hi.2.2.2⟩,k4:=o.k4,al:=⟨ag.2 S,a8.2.1,by show n<=fa;omega,a8.2.2.2⟩,ct:=fun k y bV=>?_,rd:=o.rd,fs:=o.fs,bp:=⟨h.bp.2.1,Nat.le_refl _,cY _⟩,a1:=⟨O.2,o.a1.2.1,O.1,o.a1.2.2.2⟩,ao:=⟨rfl,cY _,cY _⟩,N:=o.N,G:=o.G}
 have bV:(x.ct.map eP.dL)[k]?=some y:=bV
 rw[oc] at bV
 cases e:x.ct[k]? with
 |none=>rw[e] at bV;cases bV
 |some z=>
  rw[e] at bV
  injection bV with bV
  subst bV
  have b3:=o.ct k z e
  have SU:=h.ct z (List.mem_of_getElem? e)
  exact⟨⟨b3.log.1,Nat.le_refl _,by show z.log.length<=0;rw[SU.1];exact Nat.le_refl _⟩,⟨b3.steps.1,Nat.le_refl _,by show z.steps.length<=0;rw[SU.2.1];exact Nat.le_refl _⟩,b3.gone,b3.rd,⟨b3.ct.dE,b3.ct.at_,b3.ct.got,b3.ct.wS⟩⟩
theorem aJ.Uv{pre M:aw}:∀{l:List eP},(∀y∈l,y.log=[]/\y.steps=[]/\y.s.aM=0/\y.s.ns=0)->aJ (pre++M) (pre++((l.map eP.dL).flatMap k3++M))
 |[],_=>aJ.refl _
 |y::l,h=>by
  obtain⟨O,V,aa,ag⟩:=h y (List.mem_cons_self ..)
  have e:k3 y.dL=[(.slice y.s.bK 0 0,.row 129 2 []),(.slice y.s.b4 0 0,.row 3 1 [])]:=by
   show [(Value.slice y.s.bK y.s.aM y.s.aM,aY.row 129 2 (y.log.flatMap hs)),(Value.slice y.s.b4 y.s.ns y.s.ns,aY.row 3 1 (is y.steps))]=_
   rw[O,V,aa,ag]
   rfl
  rw[vn,qn,e]
  refine aJ.trans (aJ.Uv (l:=l) fun y bV=>h y (List.mem_cons_of_mem _ bV)) ?_
  exact aJ.trans (aJ.Bc pre _ _ _) (aJ.Bc pre _ _ _)
theorem aJ.own{pm dv:Nat}{M:aw}(h:wQ H L n N G x):
  aJ ([(ae pm,.cs 85 (x.own br bz bf bA da c7 eJ fa gS gW).m.l),(.slice bf x.m.ec bA,.row 78 19 (((x.ct.map eP.s).map uz).flatMap cm.l)),(.slice da x.m.b6 c7,.row 3 1 (is x.cf)),(.slice br x.m.dO bz,.row 3 1 (is x.mem)),(.slice gS 0 gW,.row 138 8 []),(.slice eJ x.m.ev fa,.row 4 1 (x.al.map Value.bool)),(ae dv,.cs 80 [ae pm])]++xZ x (L++M))
   (g9 (x.own br bz bf bA da c7 eJ fa gS gW) pm L ((ae dv,.cs 80 [ae pm])::M)):=by
 generalize ab:(ae dv,aY.cs 80 [ae pm])=b
 refine aJ.trans (aJ.sub (aE:=_::_::_::_::_::_::b::(L++M)) (.cons_cons _ (.cons_cons _ (.cons_cons _ (.cons_cons _ (.cons_cons _ (.cons_cons _ (.cons_cons _ (.cons _ (.cons _ (.cons _ (.cons _ (List.Sublist.refl _))))))))))))) ?_
 have MR:g9 (x.own br bz bf bA da c7 eJ fa gS gW) pm L (b::M)=[(ae pm,.cs 85 (x.own br bz bf bA da c7 eJ fa gS gW).m.l),(.slice bf x.m.ec bA,.row 78 19 (((x.ct.map eP.s).map uz).flatMap cm.l)),(.slice da x.m.b6 c7,.row 3 1 (is x.cf))]++((.slice x.m.fY 0 0,.row 133 10 [])::([(.slice br x.m.dO bz,.row 3 1 (is x.mem)),(.slice gS 0 gW,.row 138 8 []),(.slice eJ x.m.ev fa,.row 4 1 (x.al.map Value.bool))]++((x.ct.map eP.dL).flatMap k3++(L++b::M)))):=by
  unfold g9 ag
  rw[amC]
  simp only[gi.own,zo,yN,qq,h.bp.2.1]
  rfl
 rw[MR]
 refine aJ.trans ?_ (aJ.Bc _ _ _ _)
 rw[<-ob]
 refine aJ.trans ?_ (aJ.Uv h.ct)
 refine aJ.perm ?_
 classical
 rw[B4]
 intro z
 simp only[B1,B2,List.count_nil]
 omega
end
theorem Xu {P:Prop} (h:P:=by
 repeat'((first
  |(refine I1 ?_)
  |(exact cC (X:=Nat×Int×gi×aw) (at_+1,last,{fL with m:={fL.m with cP:=true,err:=11,value:=0}},cp) (by show 0<xI _ _ _ fL;unfold xI;rw[AS];show 0<1+_+_;omega) (cM.aH AS S HJ HI) ⟨rfl,rfl,rfl,rfl,rfl,rfl,eD S,trivial⟩ ⟨rfl,trivial⟩)
  |(exact cd.imp (K:=K) _ (aJ.sub aqP) (aL fL pm cp _ _ af aC cM.aj cM.ai (cM.eq _ (.fK aW))))
  |refine eg ?_
  |(refine eh ?_ ?_)
  |with_reducible intro r)<;>(try conv=>whnf))):P:=h
def at5:c8:=⟨0,0,0,0,0,0,0,0,0,0,0,0,0,0,0,0,0,0,0,0,0,0,0,0,0⟩
def at3:cr:=⟨none,0,0,none,0,0,0,0,0,0,[]⟩
def Gh:hz:=⟨at5,at3,none,0,0,none,0,0,none,0,0,none,0,0,none,0,0,none,0,0,none,0,0,false,0,0⟩
structure uh(H:World)(c:cr)(la:c8)(n N G P:Nat)(most:Int)(fc:List e5)(pI:hG)(at_:Nat)(last:Int)(x:gi)(cp:aw):Prop where
 ok:iV H cp n (N+3*at_) (G+7*at_) x
 le:x.m.cP=true\/at_<=P+x.ao.length
 aj:x.m.c=c
 ai:x.m.la=la
 calm:x.m.cP=true\/BS la x.c
 some:Ex x.al
 eq:∀y,oN c la n most (fc.map fun p=>(p.kind,p.a)) at_ last x.c y->oN c la n most (fc.map fun p=>(p.kind,p.a)) 0 (-1) pI y
theorem uh.aH{H:World}{c:cr}{la:c8}{n N G P at_:Nat}{most last:Int}{fc:List e5}{pI:hG}{x:gi}{cp:aw}(h:uh H c la n N G P most fc pI at_ last x cp)(eI:x.m.cP=false)(jW:most<=x.ao.length)(eC:N+3*(at_+1)<=80000)(e6:G+7*(at_+1)<=180000):uh H c la n N G P most fc pI (at_+1) last {x with m:={x.m with cP:=true,err:=11,value:=0}} cp:=
 ⟨(h.ok.ended 11 0).mono S S eC e6,.inl rfl,h.aj,h.ai,.inl rfl,h.some,fun y bV=>by
  have:=oN.EN bV (.fK rfl)
  subst this
  exact h.eq _ (.aH eI jW)⟩
def xI(P:Nat)(most:Int)(at_:Nat)(x:gi):Nat:=bif x.m.cP then 0 else 1+(P-at_)+(most.toNat-x.ao.length)
section
variable{H w0:World}{X:Nat->Prop}{M:aw}{K:Value->an->Prop}{Z:bF}{n N G pm dv:Nat}{c:cr}{la:c8}{most:Int}{fc:List e5}{pI:hG}{cp qm:aw}{x de:gi}{at_:Nat}{last:Int}
theorem aqI{w:Nat}{x:hG}:x.ao.length<=(nd c la w x).ao.length:=by
 unfold nd
 split
 ·exact Nat.le_refl _
 split
 ·exact Nat.le_refl _
 ·rename_i e
  rcases(WK e).2 with⟨h,_⟩|⟨h,_⟩
  ·rw[h];exact qp _
  ·rw[h];exact Nat.le_refl _
theorem amU{kind a:Int}{x:hG}:x.ao.length<=(m6 c la n kind a x).ao.length:=by
 unfold m6
 split
 ·exact aqI
 split
 ·show _<=(x.ao++[_]).length
  rw[gC];exact Nat.le_add_right _ _
 ·exact Nat.le_refl _
theorem uh.step (h:uh H c la n N G fc.length most fc pI at_ last x cp) (eI:x.m.cP=false) (jW:(x.ao.length:Int)<most) (eC:N+3*(at_+1)<=80000) (e6:G+7*(at_+1)<=180000) (bh:¬at_<fc.length)
  (O:iV H qm n (N+3*at_+3) (G+7*at_+7) de) (V:de.c=nd x.m.c x.m.la (j0 x.al last).toNat x.c) (aa:de.m.c=x.m.c) (ag:de.m.la=x.m.la):uh H c la n N G fc.length most fc pI (at_+1) (j0 x.al last) de qm/\xI fc.length most (at_+1) de<xI fc.length most at_ x:=by
 have aj:=h.aj
 have ai:=h.ai
 rw[aj,ai] at V
 have so:de.al=x.al:=by
  have:de.c.al=x.c.al:=by rw[V,WM]
  exact this
 have aB:=N5 (last:=last) h.some
 have yY:=WO (c:=c) (la:=la) (w:=(j0 x.al last).toNat) (x:=x.c) eI (by
   rcases h.calm with h|h
   ·rw[eI] at h;cases h
   ·exact h) (by
   have a6:=h.ok.al.2.2.2
   have bU:=h.ok.k4 (j0 x.al last).toNat S
   have dh:=h.ok.bt.2.2.2
   show(x.cf.getD (j0 x.al last).toNat 0).toNat<(x.ct.map eP.bE).length
   rw[kz]
   omega)
 rw[<-V] at yY
 have m3:=h.le
 have age:de.c.cP=de.m.cP:=rfl
 have afn:de.c.ao=de.ao:=rfl
 have afo:x.c.ao=x.ao:=rfl
 rw[age,afn,afo] at yY
 refine⟨⟨O,?_,aa.trans aj,ag.trans ai,yY.imp id fun h=>h.2,by rw[so];exact h.some,fun y bV=>h.eq y (.zK eI jW (by rw[List.getElem?_eq_none (by rw[kz];omega)]) (V▸bV))⟩,?_⟩
 ·rcases yY with a6|⟨a6,_⟩
  ·exact .inl a6
  ·rcases m3 with bU|bU
   ·rw[eI] at bU;cases bU
   ·exact .inr S
 ·unfold xI
  rw[eI]
  rcases yY with h|⟨h,_⟩
  ·rw[h];show 0<1+_+_;omega
  ·rw[h]
   cases de.m.cP
   ·show 1+_+_<1+_+_;omega
   ·show 0<1+_+_;omega
theorem uh.pick (h:uh H c la n N G fc.length most fc pI at_ last x cp) (eI:x.m.cP=false) (jW:(x.ao.length:Int)<most) (eC:N+3*(at_+1)<=80000) (e6:G+7*(at_+1)<=180000) (bh:at_<fc.length)
  (O:iV H qm n (N+3*at_+3) (G+7*at_+7) de) (V:de.c=m6 x.m.c x.m.la n fc[at_].kind fc[at_].a x.c) (aa:de.m.c=x.m.c) (ag:de.m.la=x.m.la):uh H c la n N G fc.length most fc pI (at_+1) last de qm/\xI fc.length most (at_+1) de<xI fc.length most at_ x:=by
 have aj:=h.aj
 have ai:=h.ai
 rw[aj,ai] at V
 have yY:=amT (c:=c) (la:=la) (n:=n) (kind:=fc[at_].kind) (a:=fc[at_].a) (x:=x.c) eI (by
   rcases h.calm with h|h
   ·rw[eI] at h;cases h
   ·exact h) (fun w au=>by
   have bU:=h.ok.k4 w au
   have dh:=h.ok.bt.2.2.2
   show(x.cf.getD w 0).toNat<(x.ct.map eP.bE).length
   rw[kz]
   omega) h.ok.al.2.2.2
 have ar:=ap3 (c:=c) (la:=la) (n:=n) (kind:=fc[at_].kind) (a:=fc[at_].a) (x:=x.c) h.some
 rw[<-V] at yY ar
 have m3:x.ao.length<=de.ao.length:=by
  have e:de.ao=(m6 c la n fc[at_].kind fc[at_].a x.c).ao:=by rw[<-V];rfl
  rw[e]
  exact amU (x:=x.c)
 refine⟨⟨O,.inr S,aa.trans aj,ag.trans ai,yY,ar,fun y bV=>h.eq y (.pick eI jW (by rw[oc,List.getElem?_eq_getElem bh];rfl) (V▸bV))⟩,?_⟩
 unfold xI
 rw[eI]
 cases de.m.cP
 ·show 1+_+_<1+_+_;omega
 ·show 0<1+_+_;omega
def Qv(H:World)(c:cr)(la:c8)(bb:List Value)(hB:Option Int)(n N G:Nat)(pI:hG):Prop:=∀(w0:World) (X:Nat->Prop) (M:aw) (K:Value->an->Prop) (Z:bF),
 (∀e,hB=some e->e≠0->K (.tuple #[.agg Gh.l.toArray,J e]) (Y H w0 X M))->
 (∀x L,hB=none->wQ H L n N G x->x.c=pI->x.m.c=c->x.m.la=la->K (.tuple #[.agg x.m.l.toArray,J 0]) (Y H w0 X (xZ x (L++M))))->a4 H w0 X M 11 #[.agg c.l.toArray,.agg bb.toArray] K Z
def Er(H:World)(R:aw)(n:Int)(v:Value)(fc:List e5):Prop:=∀(w0:World) (X:Nat->Prop) (M:aw) (K:Value->an->Prop) (Z:bF),(∀e∈R,e∈M)->
 (∀A k,fc.length<=k->(0<k->∃b,A=some ⟨b,0,none⟩)->K (.slice A fc.length k) (Y H w0 X ((.slice A fc.length k,.row 65 3 (fc.flatMap iv))::M)))->a4 H w0 X M 16 #[J n,v] K Z
theorem amm{E:World}{L:aw}(a2:dc H (xZ x (L++M)) E)(h:wQ H L n N G x):yp E x.m.gm x.m.ec x.m.hj 19 ((x.ct.map eP.s).flatMap cm.l):=by
 obtain⟨O,V,aa,ag⟩:=a2.row x.m.gm x.m.ec x.m.hj 78 19 _ (.head _)
 exact⟨O,V,aa,by have:=h.ok.bt;have:=h.ok.i7;have:=h.ok.la.bt;omega,fun u aS=>by
  obtain⟨s,_,ar⟩:=List.mem_flatMap.1 aS
  simp only[cm.l,mz,sa,or_false] at ar
  rcases ar with rfl|rfl|rfl|rfl|rfl|rfl|rfl|rfl|rfl|rfl|rfl|rfl|rfl|rfl|rfl|rfl|rfl|rfl|rfl<;>rfl⟩
theorem amk{E:World}{L:aw}(a2:dc H (xZ x (L++M)) E)(h:wQ H L n N G x):yp E x.m.ed x.m.ev x.m.bp 1 (x.al.map Value.bool):=by
 obtain⟨O,V,aa,ag⟩:=a2.row x.m.ed x.m.ev x.m.bp 4 1 _ (.tail _ (.tail _ (.head _)))
 exact⟨O,V,aa,by have:=h.ok.al;have:=h.ok.i7;have:=h.ok.la.bt;omega,fun u aS=>by
  obtain⟨b,_,rfl⟩:=ra.1 aS
  rfl⟩
theorem amz{L:aw}(h:wQ H L n N G x)(aB:1<=n)(U:∀de pm dv,iV H L n N G de->de.ao=[]->de.c=x.c->de.m.c=x.m.c->de.m.la=x.m.la->K (.tuple #[ae pm,Oh dv]) (Y H w0 X (g9 de pm L ((ae dv,.cs 80 [ae pm])::M)))):
  a4 H w0 X (xZ x (L++M)) 15 #[.agg x.m.l.toArray] K Z:=by
 have ar:=h.ok.bt
 have hi:=h.ok.bN
 have cT:=h.ok.la.bt
 have kr:=h.ok.i7
 refine ay.post (ay.anchor [] (xZ x (L++M)) XK.dg rfl (fun E w fV a2=>amD (a2.kg (t:=3) (.tail _ (.tail _ (.tail _ (.head _)))) h.ok.a1.2.2.2) (amm a2 h) (by rw[kz,ar.2.1,ar.2.2.2]) (fun s ar=>?_) (a2.kg (t:=3) (.tail _ (.head _)) S) (amk a2 h) h.ao.2 (by rw[h.bp.2.1];exact cY _) (fun pm dv br bz bf bA da c7 eJ fa gS gW gX gr kT lI=>hR.go ⟨_,_,rfl,aJ.own h,U _ pm dv (h.ok.own h aB gX gr kT lI) rfl (amA h.ao.1 h.bp.1) rfl rfl⟩)))
 obtain⟨y,bV,rfl⟩:=ra.1 ar
 obtain⟨k,U⟩:=List.mem_iff_getElem?.1 bV
 have:=h.ok.ct k y U
 exact⟨this.log.2.1,this.steps.2.1⟩
def FR(A:Option Addr)(k:Nat)(fc:List e5):Value×aY:=(.slice A fc.length k,.row 65 3 (fc.flatMap iv))
theorem anb{L b5 R:aw}{uU:Value}(h:Er H R (n:Int) uU fc)(c3:∀e∈R,e∈b5)(U:∀A k,fc.length<=k->(0<k->∃b,A=some ⟨b,0,none⟩)->K (.slice A fc.length k) (Y H w0 X (g9 x pm L (FR A k fc::b5)))):a4 H w0 X (g9 x pm L b5) 16 #[J (n:Int),uU] K Z:=
 ay.post (h _ _ _ _ _ (fun e af=>by unfold g9;simp[c3 e af]) fun A k O V=>⟨_,_,rfl,by
  show aJ (FR A k fc::g9 x pm L b5) _
  refine aJ.perm ?_
  classical
  rw[B4]
  intro z
  simp only[g9,B1,B2]
  omega,U A k O V⟩)
theorem ali{b5:aw}{a b:Value×aY}{L:aw}:b∈g9 x pm L (a::b::b5):=by
 simp[g9]
theorem alj{b5:aw}{a:Value×aY}{L:aw}:a∈g9 x pm L (a::b5):=by
 simp[g9]
theorem aqP{a b:Value×aY}{L:aw}:List.Sublist (g9 x pm L M) (g9 x pm L (a::b::M)):=
 (List.Sublist.refl _).append (.cons_cons _ (.cons_cons _ (.cons_cons _ ((List.Sublist.refl _).append ((List.Sublist.refl _).append (.cons _ (.cons _ (List.Sublist.refl _))))))))
theorem akB{A:Option Addr}{b k i:Nat}{b5:aw}(b0:A=some ⟨b,0,none⟩)(ad:FR A k fc∈b5)(hi:i<fc.length){K:Value->an->Prop}(h:K (.agg (iv fc[i]).toArray) (Y H w0 X b5)):bk Tryz.prog (Y H w0 X b5) (Instr.loadAt 65 (.pointer (some ⟨b,i*3,none⟩))) K:=by
 subst b0
 exact zl (iv fc[i]) ad aD W W (uF iv 3 (fun _=>rfl) fc i hi) h
theorem anl {R:aw} {bb:List Value} {uU:Value} {hB:Option Int} (gg:Qv H c la bb hB n N G pI) (zc:Er H R n uU fc) (E6:∀e∈R,e∈M) (aB:1<=n) (CQ:bb[0]?=some (J (n:Int))/\bb.length=9) (ad:0<=most/\most<=8000) (SB:fc.length<=1000) (eC:N<=10000) (e6:G<=10000)
  (U:∀e,hB=some e->e≠0->K (.tuple #[.agg Gh.l.toArray,J e]) (Y H w0 X M))
  (aL:∀x pm L pA bG,hB=none->iV H L n pA bG x->x.m.c=c->x.m.la=la->oN c la n most (fc.map fun p=>(p.kind,p.a)) 0 (-1) pI x.c->K (.tuple #[.agg x.m.dL.l.toArray,J 0]) (Y H w0 X (g9 x pm L M))):
  a4 H w0 X M 6 #[.agg c.l.toArray,.agg bb.toArray,uU,J most] K Z:=by
 obtain⟨afe,aff⟩:=CQ
 obtain⟨iY,hV,oy,nY,rI,oz,A0,De,A1,rfl⟩:∃iY hV oy nY rI oz A0 De A1,bb=[iY,hV,oy,nY,rI,oz,A0,De,A1]:=by
  match bb,aff with
  |[iY,hV,oy,nY,rI,oz,A0,De,A1],_=>exact⟨iY,hV,oy,nY,rI,oz,A0,De,A1,rfl⟩
 obtain rfl:iY= J (n:Int):=by injection afe
 refine a7 s0 ?_
 intro az aF
 conv=>whnf
 repeat'((first
  |refine gg _ _ _ _ _ (fun e af aT=>?_) (fun x L af aT mi agG lM=>?_)
  |refine amz aT aB (fun x1 pm dv O av2 dS Se afR=>?_)
  |refine anb zc (fun e af=> .tail _ (E6 e af)) (fun A k E4 b0=>?_)
  |(exact cA (U e af aT))
  |refine ea ?_
  |(refine gs ?_ ?_<;>(try intro ab)<;>(try(exfalso;omega)))
  |intro r)<;>(try conv=>whnf))
 subst lM
 rw[mi] at dS
 rw[agG] at Se
 have cT:=O.la.bt
 have kr:=O.i7
 have so:=O.al.2.2.2
 refine c9.on (X:=Nat×Int×gi×aw) (fun y=> [(3,.v (J most)),(8,.p 8 0),(12,.v (ae pm)),(13,.v (Oh dv)),(14,.v (.slice A fc.length k)),(15,.v (J y.2.1)),(16,.v (J (y.1:Int)))]) (fun _=> [(8,49,Gh.l)]) (fun y=>Y H az aF (g9 y.2.2.1 pm y.2.2.2 (FR A k fc::(ae dv,.cs 80 [ae pm])::M))) (fun y=>uh H c x.m.la n N G fc.length most fc pI y.1 y.2.1 y.2.2.1 y.2.2.2) (fun y=>xI fc.length most y.1 y.2.2.1) (0, -1,x1,L) ⟨O,.inr (cY _),Se,afR,?_,?_,fun y bV=>dS▸bV⟩ ⟨rfl,rfl,rfl,rfl,rfl,rfl,rfl,trivial⟩ ⟨rfl,trivial⟩ ?_
 ·refine .inr fun j y a9=> .inl ?_
  rw[dS,<-mi] at a9
  have a9:(x.ct.map eP.bE)[j]?=some y:=a9
  obtain⟨z,b3,rfl⟩:=ra.1 (List.mem_of_getElem? a9)
  exact(aT.ct z b3).1
 ·have e:x1.al=x.al:=by
   have:x1.c.al=x.c.al:=by rw[dS,mi]
   exact this
  rw[e]
  exact aT.al
 intro y iC cM
 obtain⟨at_,last,fL,cp⟩:=y
 have cM:uh H c x.m.la n N G fc.length most fc pI at_ last fL cp:=cM
 have aC:iV H cp n (N+3*at_) (G+7*at_) fL:=cM.ok
 have H8:=aC.ao
 conv=>whnf
 repeat'((first
  |refine ea ?_
  |(refine ba.Uy (fun eI=>?_) (fun eI=>?_))
  |intro r)<;>(try conv=>whnf))
 rotate_left
 ·have aW:fL.m.cP=true:=eI
  refine arR (m:=fL.m) aC.ao.2.1 aC.bp.2.1 ali (List.Mem.head _) ?_
  conv=>whnf
  exact Xu
 have AS:fL.m.cP=false:=eI
 have HJ:N+3*(at_+1)<=80000:=by
  rcases cM.le with h|h
  ·rw[AS] at h;cases h
  ·omega
 have HI:G+7*(at_+1)<=180000:=by
  rcases cM.le with h|h
  ·rw[AS] at h;cases h
  ·omega
 refine ba.dec (fun sx=>?_) (fun sx=>?_)
 ·have av7:most<=(fL.m.ne:Int):=sx
  conv=>whnf
  exact Xu
 have jW:(fL.ao.length:Int)<most:=by
  have:¬(fL.m.ne:Int)>=most:=sx
  omega
 conv=>whnf
 refine ba.dec (fun cc=>?_) (fun cc=>?_)
 ·have y9:at_<fc.length:=by have:(at_:Int)<(fc.length:Int):=cc;omega
  obtain⟨bx,L9⟩:=b0 S
  conv=>whnf
  repeat'((first
   |exact iP L9 at_ rfl y9 (akB L9 alj y9 (amX (x:=fL) (L:=cp) aC S S S (fun de qm gX gr kT lI Ax=>by
     conv=>whnf
     repeat'((first
      |exact cC (X:=Nat×Int×gi×aw) (at_+1,last,de,qm) (cM.pick AS jW HJ HI y9 gX gr kT lI).2 (cM.pick AS jW HJ HI y9 gX gr kT lI).1 ⟨rfl,rfl,rfl,rfl,rfl,rfl,eD S,trivial⟩ ⟨rfl,trivial⟩
      |refine ea ?_
      |intro r)<;>(try conv=>whnf)))))
   |refine ea ?_
   |intro r)<;>(try conv=>whnf))
 have af7:¬at_<fc.length:=by have:¬(at_:Int)<(fc.length:Int):=cc;omega
 have Fi:=N5 (last:=last) cM.some
 have avS:=aC.al
 obtain⟨v,ah⟩:=uc Fi.1
 rw[ah] at Fi
 have awp:j0 fL.al last=(v:Int):=ah
 conv=>whnf
 repeat'((first
  |(refine ay.anchor [] (g9 fL pm cp (FR A k fc::_::M)) OM.dg rfl (fun E w fV a2=>Uu (A:=fL.m.ed) (al:=fL.al) (last:=last) (a2.UX (t:=4) b7 (by show fL.m.ev<=1000000;omega)) (hR.go (aE:=[]) ?_));rw[ah])
  |(refine V0 (x:=fL) (w:=v) aC S S S S (fun de qm gX gr kT lI Ax=>?_))
  |refine ea ?_
  |intro r)<;>(try conv=>whnf))
 rw[<-r8 v,<-ah] at gr
 obtain⟨m8,p8⟩:=cM.step AS jW HJ HI af7 gX gr kT lI
 rw[ah] at m8
 exact cC (X:=Nat×Int×gi×aw) (at_+1,v,de,qm) p8 m8 ⟨rfl,rfl,rfl,rfl,rfl,rfl,eD S,trivial⟩ ⟨rfl,trivial⟩
end
theorem JY {P:Prop} (h:P:=by
 repeat'((first
  |(refine akR W W W (.tail _ (.head _)) mJ ?_)
  |(refine akQ W W W (.head _) nW ?_)
  |(refine alb (kt:=3) (et:=4) (.head _) nW bP ?_;rw[kz])
  |(refine T6 (kt:=3) (et:=3) W W W (.there .here) mJ bP bP (J ((s.at_:Int)+l[i].b)) (by show J (IntKind.i64.wrap ((s.at_:Int)+l[i].b))=_;rw[au av]) ?_;intro Hr anX xg)
  |(refine T6 (kt:=3) (et:=4) W W W .here nW bP bP (.bool true) rfl ?_;intro Hs an5 xg)
  |(refine hb vG W ?_)
  |(refine jL vG (fy.own (l:=iv l[i]) vG (List.Mem.head _) Ow 1) (.there (.there .here)) (show s.out.length+1<=1000000000 by omega) ?_;intro br bz dS ep;rw[Oy,<-hlen])
  |(exact cC (X:=Nat×oe×List MapEntry×Nat×List MapEntry×Nat×Option Addr×Nat) (i+1,⟨s.gz,s.dead,s.at_+1,s.out++[l[i]]⟩,sl,m8,sm,p8,br,bz) (by show aM-(i+1)<aM-i;omega) ⟨cM.next hU e (am1 av av (by rintro⟨aa,ag⟩;first|omega|(rw[aa] at ab;cases ab))) mJ nW,(show(s.out++[l[i]]).length<=bz by omega),ep⟩ ⟨rfl,rfl,rfl,rfl,eD S,rfl,rfl,eD S,trivial⟩ trivial)
  |(exact cC (X:=Nat×oe×List MapEntry×Nat×List MapEntry×Nat×Option Addr×Nat) (i+1,⟨s.gz,s.dead,s.at_+1,s.out⟩,sl,m8,sm,p8,A,c) (by show aM-(i+1)<aM-i;omega) ⟨cM.next hU e (am0 av (by first|exact .inl av|exact .inr ⟨by assumption,by omega⟩)) mJ nW,aj,b0⟩ ⟨rfl,rfl,rfl,rfl,eD S,rfl,rfl,eD S,trivial⟩ trivial)
  |(exact cC (X:=Nat×oe×List MapEntry×Nat×List MapEntry×Nat×Option Addr×Nat) (i+1,⟨ve s.gz l[i].a ((s.at_:Int)+l[i].b),s.dead,s.at_+1,s.out⟩,Hr,anX,sm,p8,A,c) (by show aM-(i+1)<aM-i;omega) ⟨cM.next hU e (am4 av (by first|exact .inl av|exact .inr S)) (by rw[<-Xj];exact xg) nW,aj,b0⟩ ⟨rfl,rfl,rfl,rfl,eD S,rfl,rfl,eD S,trivial⟩ trivial)
  |(exact cC (X:=Nat×oe×List MapEntry×Nat×List MapEntry×Nat×Option Addr×Nat) (i+1,⟨s.gz,s.dead,s.at_+1,s.out⟩,sl,m8,sm,p8,A,c) (by show aM-(i+1)<aM-i;omega) ⟨cM.next hU e (am3 av av S) mJ nW,aj,b0⟩ ⟨rfl,rfl,rfl,rfl,eD S,rfl,rfl,eD S,trivial⟩ trivial)
  |(exact cC (X:=Nat×oe×List MapEntry×Nat×List MapEntry×Nat×Option Addr×Nat) (i+1,⟨s.gz,s.dead++[l[i].a],s.at_+1,s.out++[l[i]]⟩,sl,m8,Hs,an5,br,bz) (by show aM-(i+1)<aM-i;omega) ⟨cM.next hU e (am6 av av (by rw[Io] at ab;omega)) mJ (by rw[<-Xi av];exact xg),(show(s.out++[l[i]]).length<=bz by omega),ep⟩ ⟨rfl,rfl,rfl,rfl,eD S,rfl,rfl,eD S,trivial⟩ trivial)
  |(exact cC (X:=Nat×oe×List MapEntry×Nat×List MapEntry×Nat×Option Addr×Nat) (i+1,⟨s.gz,s.dead,s.at_+1,s.out⟩,sl,m8,sm,p8,A,c) (by show aM-(i+1)<aM-i;omega) ⟨cM.next hU e (am5 av (by first|exact .inl av|(rw[Io] at ab;exact .inr S))) mJ nW,aj,b0⟩ ⟨rfl,rfl,rfl,rfl,eD S,rfl,rfl,eD S,trivial⟩ trivial)
  |(exfalso;have:=bh.2;omega)
  |(exact cC (X:=Nat×oe×List MapEntry×Nat×List MapEntry×Nat×Option Addr×Nat) (i+1,s,sl,m8,sm,p8,A,c) (by show aM-(i+1)<aM-i;omega) ⟨cM.skip hU e,aj,b0⟩ ⟨rfl,rfl,rfl,rfl,rfl,rfl,rfl,eD S,trivial⟩ trivial)
  |(exact cd.drop (K:=K) _ (.cons _ (.cons _ (List.Sublist.refl _))) (U A c aj b0))
  |(refine lV U (U4 ?_);simp only[Ep,beq_iff_eq,decide_eq_true_eq,dH,false_iff];omega)
  |refine eg ?_
  |(refine eh ?_ ?_<;>(try with_reducible intro ab)<;>(try(exfalso;omega)))
  |with_reducible intro r)<;>(try conv=>whnf))):P:=h
section
variable{H w0:World}{X:Nat->Prop}{M:aw}{K:Value->an->Prop}{Z:bF}
def Ep(n:Int)(p:e5):Prop:=(0<=p.a/\p.a<n)/\(p.kind=2/\0<=p.b/\p.b<=1048576\/(p.kind=1\/p.kind=3)/\p.b=0)
theorem Ox{n:Int}{p:e5}:i9 n p=true↔Ep n p:=by
 simp only[i9,Ep,e3,r4,decide_eq_true_eq]
theorem U4{n:Int}{p:e5}{b:Bool}(h:b=true↔Ep n p):b=i9 n p:=Bool.eq_iff_iff.2 (h.trans Ox.symm)
theorem U5{n:Int}{p:e5}(U:K (.bool (i9 n p)) (Y H w0 X M)):a4 H w0 X M 59 #[J n,.agg (iv p).toArray] K Z:=by
 refine a7 atI ?_
 intro az aF
 conv=>whnf
 exact JY
structure uf(w:World)(A:Option Addr)(n c:Nat)(l:List e5):Prop where
 rd:dU w w.heap.size A (l.flatMap iv)
 len:n=l.length
 cap:n<=c
 dB:n<=1000000
structure yr(n:Int)(l:List e5)(i:Nat)(s:oe)(sl sm:List MapEntry):Prop where
 le:i<=l.length
 eq:((l.drop i).filter (i9 n)).foldl (k2 n) s=qR n l
 hk:l1 sl (s.gz.map fun p=>(p.1,J p.2))
 iR:l1 sm (s.dead.map fun a=>(a,.bool true))
 at_:s.at_<=i
 out:s.out.length<=i
 lh:s.dead.length<=i
theorem NN{k:Int}:∀{m:List (Int×Int)},tD k (m.map fun p=>(p.1,J p.2))=(g7 m k).map fun x=>J x
 |[]=>rfl
 |p::m=>by
  simp only[vn,tD,g7]
  by_cases h:k=p.1
  ·simp[h]
  ·simp only[h,decide_false,cond_false,cZ];exact NN
theorem Xj{k v:Int}:∀{m:List (Int×Int)},vf k (J v) (m.map fun p=>(p.1,J p.2))=(ve m k v).map fun p=>(p.1,J p.2)
 |[]=>rfl
 |p::m=>by
  simp only[vn,vf,ve]
  by_cases h:k=p.1
  ·simp[h]
  ·simp only[h,decide_false,cond_false,cZ,vn];rw[Xj]
theorem TZ{k:Int}:∀{m:List Int},tD k (m.map fun a=>(a,Value.bool true))=if k∈m then some (.bool true) else none
 |[]=>rfl
 |a::m=>by
  simp only[vn,tD]
  by_cases h:k=a
  ·simp[h]
  ·simp only[h,decide_false,cond_false,TZ,mz,false_or]
theorem Xi{k:Int}:∀{m:List Int},k∉m->vf k (.bool true) (m.map fun a=>(a,Value.bool true))=(m++[k]).map fun a=>(a,Value.bool true)
 |[],_=>rfl
 |a::m,h=>by
  simp only[mz,not_or] at h
  simp only[vn,vf,h.1,decide_false,cond_false,Xi h.2,zW]
section
variable{ao:Operand->Value}{o:Oper}
theorem akR {m k:Operand} {b:Nat} {fW:Int} {dW:List MapEntry} {lO:List (Int×Int)} {clock:Nat} (aU:o.op= .lookup 139 m k true) (ad:ao m= .map (some b)) (nV:ao k= J fW) (aS:(Value.map (some b),aY.map dW clock)∈M) (c3:l1 dW (lO.map fun p=>(p.1,J p.2)))
  (h:K (.tuple #[J ((g7 lO fW).getD 0),.bool (g7 lO fW).isSome]) (Y H w0 X M)):ff Tryz.prog (Y H w0 X M) (execOp ao o) K Z:=
 T5 (c:=true) (kt:=3) (et:=3) aU ad nV aS c3 bP bP aD (J ((g7 lO fW).getD 0)) (by rw[NN];cases g7 lO fW<;>rfl) (by
  have:(tD fW (lO.map fun p=>(p.1,J p.2))).isSome=(g7 lO fW).isSome:=by rw[NN];cases g7 lO fW<;>rfl
  rw[this];exact h)
theorem akQ {m k:Operand} {b:Nat} {fW:Int} {dW:List MapEntry} {lO:List Int} {clock:Nat} (aU:o.op= .lookup 140 m k false) (ad:ao m= .map (some b)) (nV:ao k= J fW) (aS:(Value.map (some b),aY.map dW clock)∈M) (c3:l1 dW (lO.map fun a=>(a,.bool true)))
  (h:K (.bool (decide (fW∈lO))) (Y H w0 X M)):ff Tryz.prog (Y H w0 X M) (execOp ao o) K Z:=
 T5 (c:=false) (kt:=3) (et:=4) aU ad nV aS c3 bP bP aD (.bool (decide (fW∈lO))) (by rw[TZ];by_cases h:fW∈lO<;>simp[h]) h
end
section
variable{n:Int}{l:List e5}{i:Nat}{s s':oe}{sl sm Hr Hs:List MapEntry}
theorem yr.skip(h:yr n l i s sl sm)(hi:i<l.length)(e:i9 n l[i]=false):yr n l (i+1) s sl sm:=
 ⟨hi,by rw[<-h.eq,Ee hi,List.filter_cons,if_neg (by rw[e];decide)],h.hk,h.iR,Nat.le_succ_of_le h.at_,Nat.le_succ_of_le h.out,Nat.le_succ_of_le h.lh⟩
theorem yr.next(h:yr n l i s sl sm)(hi:i<l.length)(e:i9 n l[i]=true)(ar:k2 n s l[i]=s')(O:l1 Hr (s'.gz.map fun p=>(p.1,J p.2)))(V:l1 Hs (s'.dead.map fun a=>(a,.bool true))):yr n l (i+1) s' Hr Hs:=by
 subst ar
 refine⟨hi,by rw[<-h.eq,Ee hi,List.filter_cons,if_pos e];rfl,O,V,?_,?_,?_⟩
 all_goals
  have:=h.at_
  have:=h.out
  have:=h.lh
  unfold k2
  repeat' split
 all_goals
  try simp only[gC,oM,pz]
  omega
end
section
variable{n:Int}{s:oe}{p:e5}
theorem am1(h:p.kind=1)(O:p.a∉s.dead)(V:¬((g7 s.gz p.a).isSome/\(s.at_:Int)<=(g7 s.gz p.a).getD 0)):k2 n s p=⟨s.gz,s.dead,s.at_+1,s.out++[p]⟩:=by
 unfold k2;rw[if_pos h,if_pos ⟨O,V⟩]
theorem am0(h:p.kind=1)(O:p.a∈s.dead\/((g7 s.gz p.a).isSome/\(s.at_:Int)<=(g7 s.gz p.a).getD 0)):k2 n s p=⟨s.gz,s.dead,s.at_+1,s.out⟩:=by
 unfold k2;rw[if_pos h,if_neg (fun V=>O.elim V.1 V.2)]
theorem am4(h:p.kind=2)(O:(g7 s.gz p.a).isSome=false\/(g7 s.gz p.a).getD 0<(s.at_:Int)+p.b):k2 n s p=⟨ve s.gz p.a ((s.at_:Int)+p.b),s.dead,s.at_+1,s.out⟩:=by
 unfold k2;rw[if_neg S,if_pos h,if_pos (O.imp (fun h=>by cases e:g7 s.gz p.a<;>simp_all) id)]
theorem am3(h:p.kind=2)(O:(g7 s.gz p.a).isSome=true)(V:¬(g7 s.gz p.a).getD 0<(s.at_:Int)+p.b):k2 n s p=⟨s.gz,s.dead,s.at_+1,s.out⟩:=by
 unfold k2;rw[if_neg S,if_pos h,if_neg (fun aa=>aa.elim (fun h=>by cases e:g7 s.gz p.a<;>simp_all) V)]
theorem am6(h:p.kind=3)(O:p.a∉s.dead)(V:1<n-s.dead.length):k2 n s p=⟨s.gz,s.dead++[p.a],s.at_+1,s.out++[p]⟩:=by
 unfold k2;rw[if_neg S,if_neg S,if_pos ⟨O,V⟩]
theorem am5(h:p.kind=3)(O:p.a∈s.dead\/¬1<n-s.dead.length):k2 n s p=⟨s.gz,s.dead,s.at_+1,s.out⟩:=by
 unfold k2;rw[if_neg S,if_neg S,if_neg (fun V=>O.elim V.1 (fun aa=>aa V.2))]
end
theorem Ow{p:e5}:∀u∈iv p,u.oneCell'=true:=fun u aS=>by
 simp only[iv,mz,sa,or_false] at aS
 rcases aS with rfl|rfl|rfl<;>rfl
theorem Oy{l:List e5}{p:e5}:l.flatMap iv++iv p=(l++[p]).flatMap iv:=by simp
def US(A:Option Addr)(c:Nat)(s:oe):Value×aY:=(.slice A s.out.length c,.row 65 3 (s.out.flatMap iv))
theorem WA{n:Int}{bK:Option Addr}{aM bD:Nat}{l:List e5}(ai:uf H bK aM bD l)(aB:0<=n/\n<=8)(U:∀A k,(qR n l).out.length<=k->(0<k->∃b,A=some ⟨b,0,none⟩)->K (.slice A (qR n l).out.length k) (Y H w0 X (US A k (qR n l)::M))):
  a4 H w0 X M 16 #[J n,.slice bK aM bD] K Z:=by
 refine a7 XM ?_
 intro az aF
 conv=>whnf
 refine ff.imp (aJ.nil M none 65 3) (IY W (fun i2=>?_))
 conv=>whnf
 refine IY W (fun ha=>?_)
 conv=>whnf
 refine c9.on (X:=Nat×oe×List MapEntry×Nat×List MapEntry×Nat×Option Addr×Nat) (fun y=> [(0,.v (J n)),(5,.v (.slice y.2.2.2.2.2.2.1 y.2.1.out.length y.2.2.2.2.2.2.2)),(6,.v (.map (some i2))),(7,.v (.map (some ha))),(8,.v (J (y.2.1.at_:Int))),(17,.v (.slice bK aM bD)),(18,.v (J (aM:Int))),(19,.v (J (y.1:Int)))]) (fun _=> []) (fun y=>Y H az aF ((.map (some ha),.map y.2.2.2.2.1 y.2.2.2.2.2.1)::(.map (some i2),.map y.2.2.1 y.2.2.2.1)::US y.2.2.2.2.2.2.1 y.2.2.2.2.2.2.2 y.2.1::M)) (fun y=>yr n l y.1 y.2.1 y.2.2.1 y.2.2.2.2.1/\y.2.1.out.length<=y.2.2.2.2.2.2.2/\(0<y.2.2.2.2.2.2.2->∃b,y.2.2.2.2.2.2.1=some ⟨b,0,none⟩)) (fun y=>aM-y.1) (0,FT,[],0,[],0,none,0) ⟨⟨cY _,rfl,trivial,trivial,Nat.le_refl _,Nat.le_refl _,Nat.le_refl _⟩,Nat.le_refl _,fun h=>absurd h bC⟩ ⟨rfl,rfl,rfl,rfl,rfl,rfl,rfl,rfl,trivial⟩ trivial ?_
 intro y iC bV
 obtain⟨i,s,sl,m8,sm,p8,A,c⟩:=y
 obtain⟨cM,aj,b0⟩:=bV
 have cM:yr n l i s sl sm:=cM
 have aj:s.out.length<=c:=aj
 have b0:0<c->∃b,A=some ⟨b,0,none⟩:=b0
 have za:=ai.len
 have gx:=ai.dB
 dsimp only
 conv=>whnf
 refine ba.dec (fun cc=>?_) (fun cc=>?_)
 rotate_left
 ·have hi:i=l.length:=by have:=cM.le;have:¬(i:Int)<(aM:Int):=cc;omega
  have tp:s=qR n l:=by have:=cM.eq;rw[hi,List.drop_length] at this;exact this
  subst tp
  conv=>whnf
  exact JY
 have hU:i<l.length:=by have:(i:Int)<(aM:Int):=cc;omega
 conv=>whnf
 refine je iv (fun _=>rfl) ai.rd za i rfl hU bC (fun a0 awZ gw=>?_)
 conv=>whnf
 refine iZ (iv l[i]) gw aD W W ?_
 conv=>whnf
 have kE:=cM.at_
 have Mn:=cM.lh
 have awt:=cM.out
 have mJ:=cM.hk
 have nW:=cM.iR
 rcases D4 (i9 n l[i]) with e|e
 rotate_left
 ·refine U5 ?_
  rw[e]
  conv=>whnf
  exact JY
 have bh:=Ox.1 e
 refine U5 ?_
 rw[e]
 conv=>whnf
 have au:l[i].kind=2->IntKind.i64.wrap ((s.at_:Int)+l[i].b)=(s.at_:Int)+l[i].b:=fun V=>by
  have:=bh.2
  exact cK S
 have Io:IntKind.i64.wrap (n-(s.dead.length:Int))=n-(s.dead.length:Int):=cK S
 have hlen:(s.out++[l[i]]).length=s.out.length+1:=gC
 exact JY
theorem Je{n:Int}{bK:Option Addr}{aM bD:Nat}{l:List e5}(ai:uf H bK aM bD l)(aB:0<=n/\n<=8):Er H [] n (.slice bK aM bD) (qR n l).out:=fun _ _ _ _ _ _ U=>WA ai aB U
end
end Go.Proofs.YtcflcebplhdcpaaGreat
