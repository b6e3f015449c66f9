/- Lemmas, part 35; each states its own conditions. -/
import Derived.Test.YtcflcebplhdcpaaGreatL33
namespace Go.Proofs.YtcflcebplhdcpaaGreat
open Go.RowKit
set_option linter.unusedSimpArgs false
set_option linter.unusedVariables false
set_option maxRecDepth 100000
set_option maxHeartbeats 16000000
variable{H w0:World}{X:Nat->Prop}{M:aw}{K:Value->an->Prop}{Z:bF}
theorem PO {P:Prop} (h:P:=by
 repeat'((first
  |(show ih _ _ _ _;first|(refine gE hr aD W W ?_)|(refine gE hc aD W W ?_))
  |(show ay _ _ _ _ _ _;first|(refine Pc (fun v ah=>?_);subst ah)|(refine OA a8 (fun aB=>?_) (fun ar b1 b2=>?_))|(refine OB (List.Mem.head _) (.tail _ (List.Mem.head _)) S (fun v ah=>?_)))
  |(exact c1 (U _ (by rw[Bk,if_pos S])) cn)
  |(exact c1 (U _ (by rw[Bk,if_neg S];exact ah)) cn)
  |(exact c1 (V (fun h=>by obtain⟨a8,ab,aj⟩:=h;omega)))
  |(show cd H w0 X az aF K (x3 [.bool (decide (IntKind.i64.wrap (b-t)<=jD r))]) _;by_cases aL:IntKind.i64.wrap (b-t)<=jD r;(rw[decide_eq_true aL];exact c1 (O ⟨by omega,by omega,aL⟩));(rw[decide_eq_false aL];exact c1 (V (fun h=>by obtain⟨a8,dQ,aj⟩:=h;exact aL aj))))
  |(exact b3)
  |(exact c1 (U _ rfl))
  |refine eg ?_
  |(refine eh ?_ ?_<;>(try with_reducible intro ab)<;>(try(exfalso;omega)))
  |with_reducible intro r)<;>(try conv=>whnf))):P:=h
def uE(r t b:Int):Prop:=0<=t/\t<=b/\cB (b-t)<=jD r
instance(r t b:Int):Decidable (uE r t b):=inferInstanceAs (Decidable (_/\_))
def Jg(a:c8)(s r i:Int):Int:=cB (ls a s r+i.tmod (jD r))
def qJ(a:c8)(s r t b:Int):List cz:=
 if(ls a s r<0\/jD r=0)\/¬uE r t b\/(ls a s (cB (r+1))<0\/jD (cB (r+1))=0) then []
 else(List.range (cB (b-t)).toNat).map fun(j:Nat)=>(Jg a s r (cB (t+(j:Int))),Jg a s (cB (r+1)) (cB (t+(j:Int))))
section
theorem OB{i c z:Int}{b1 b2:Nat}(hr:(ae b1,aY.cs 3 [J c])∈M)(hc:(ae b2,aY.cs 3 [J z])∈M)(b3:z≠0)(U:∀v,v=cB (c+i.tmod z)->K (J v) (Y H w0 X M)):a4 H w0 X M 360 #[J i,ae b1,ae b2] K Z:=by
 refine a7 ajE ?_
 intro az aF
 conv=>whnf
 exact PO
theorem ad2{r t b:Int}(O:uE r t b->K (.bool true) (Y H w0 X M))(V:¬uE r t b->K (.bool false) (Y H w0 X M)):a4 H w0 X M 340 #[J r,J t,J b] K Z:=by
 refine a7 ajm ?_
 intro az aF
 conv=>whnf
 exact PO
theorem am8{a:c8}(a8:ig a){s r i:Int}(U:∀v,v=Bk a s r i->K (J v) (Y H w0 X M)):a4 H w0 X M 341 #[.agg a.l.toArray,J s,J r,J i] K Z:=by
 refine a7 ajn ?_
 intro az aF
 conv=>whnf
 exact PO
theorem NZ{a:c8}{s r t b:Int}(h:¬((ls a s r<0\/jD r=0)\/¬uE r t b\/(ls a s (cB (r+1))<0\/jD (cB (r+1))=0))):(qJ a s r t b).length=(cB (b-t)).toNat:=by rw[qJ,if_neg h];simp
theorem Ul{a:c8}{s r t b:Int}(h:(ls a s r<0\/jD r=0)\/¬uE r t b\/(ls a s (cB (r+1))<0\/jD (cB (r+1))=0)):qJ a s r t b=[]:=by rw[qJ,if_pos h]
theorem alv{a:c8}{s r t b:Int}(h:¬((ls a s r<0\/jD r=0)\/¬uE r t b\/(ls a s (cB (r+1))<0\/jD (cB (r+1))=0))){i:Nat}(hi:i<(cB (b-t)).toNat):(qJ a s r t b).take (i+1)=(qJ a s r t b).take i++[(Jg a s r (cB (t+(i:Int))),Jg a s (cB (r+1)) (cB (t+(i:Int))))]:=by
 have ai:=NZ h
 rw[ue S]
 congr 2
 simp only[qJ,if_neg h,List.getElem_map,List.getElem_range]
theorem alw{a:c8}(a8:ig a){s r t b:Int}(U:∀A c,(qJ a s r t b).length<=c->(0<c->∃b,A=some ⟨b,0,none⟩)->K (.slice A (qJ a s r t b).length c) (Y H w0 X ((Value.slice A (qJ a s r t b).length c,aY.row 187 2 (List.flatMap ft (qJ a s r t b)))::M))):a4 H w0 X M 282 #[.agg a.l.toArray,J s,J r,J t,J b] K Z:=by
 refine a7 aiJ ?_
 intro az aF
 conv=>whnf
 repeat'((first
  |(show ay _ _ _ _ _ _;first|(refine OA (r:=r) a8 (fun vU=>?_) (fun Fl b1 b2=>?_))|(refine ay.imp (aJ.nil _ none 187 2) (OA (r:=cB (r+1)) a8 (fun nv=>?_) (fun MT du dv=>?_)))|(refine ad2 (fun aK=>?_) (fun aK=>?_)))
  |(exact cd.imp _ (aJ.trans (aJ.sub (aE:=M) cn) (aJ.nil _ none 187 2)) (by rw[Ul (by first|exact .inl vU|exact .inr (.inl aK)|exact .inr (.inr nv))] at U;exact U none 0 (Nat.le_refl _) (fun h=>absurd h bC)))
  |refine jK ?_
  |(refine iK ?_ ?_<;>(try with_reducible intro ab)<;>(try(exfalso;omega)))
  |with_reducible intro r)<;>(try conv=>whnf))
 have mj:¬((ls a s r<0\/jD r=0)\/¬uE r t b\/(ls a s (cB (r+1))<0\/jD (cB (r+1))=0)):=fun h=>by
  rcases h with h|h|h
  ·exact Fl h
  ·exact h aK
  ·exact MT h
 have SV:=Pb r
 have aww:=Pb (cB (r+1))
 have Sv:=NZ mj
 obtain⟨qA,HU,m2⟩:=aK
 have au:IntKind.i64.wrap (b-t)=cB (b-t):=rfl
 refine c9.on (X:=Nat×Option Addr×Nat) (fun x=> [(3,.v (J t)),(11,.v (Value.func (.func 360) #[] #[ae b1,ae b2])),(13,.v (Value.func (.func 360) #[] #[ae du,ae dv])),(14,.v (.slice x.2.1 x.1 x.2.2)),(44,.v (J (IntKind.i64.wrap (b-t)))),(45,.v (J (x.1:Int)))]) (fun _=> []) (fun x=>Y H az aF ((ae du,aY.cs 3 [J (ls a s (cB (r+1)))])::(ae dv,aY.cs 3 [J (jD (cB (r+1)))])::(Value.slice x.2.1 x.1 x.2.2,aY.row 187 2 (List.flatMap ft ((qJ a s r t b).take x.1)))::(ae b1,aY.cs 3 [J (ls a s r)])::(ae b2,aY.cs 3 [J (jD r)])::M)) (fun x=>x.1<=(cB (b-t)).toNat/\x.1<=x.2.2/\(0<x.2.2->∃b,x.2.1=some ⟨b,0,none⟩)) (fun x=>(cB (b-t)).toNat-x.1) (0,none,0) ⟨cY _,Nat.le_refl _,fun h=>absurd h bC⟩ ⟨rfl,rfl,rfl,rfl,rfl,rfl,trivial⟩ trivial ?_
 rintro⟨i,A,c⟩ iC ⟨hi,aj,b0⟩
 dsimp only at hi aj b0
 dsimp only
 conv=>whnf
 refine ba.dec (fun ab=>?_) (fun ab=>?_)
 rotate_left
 ·rw[au] at ab
  obtain rfl:i=(cB (b-t)).toNat:=by omega
  conv=>whnf
  rw[<-Sv,Ek]
  exact cd.imp _ (aJ.sub cn) (U A c (by rw[Sv];exact aj) b0)
 rw[au] at ab
 have af6:=alv mj (i:=i) S
 conv=>whnf
 repeat'((first
  |(show ay _ _ _ _ _ _;first|(refine OB (b1:=b1) (b2:=b2) (c:=ls a s r) b7 b7 S (fun zN Il=>?_))|(refine OB (b1:=du) (b2:=dv) (c:=ls a s (cB (r+1))) b7 b7 S (fun BF Im=>?_)))
  |(show bk _ _ _ _;first|(refine yC (n:=2) (e:=3) bP aD aD ?_)|(refine hb qw W ?_)|(refine jL qw (fy.own (l:=[J zN,J BF]) qw (List.Mem.head _) LZ 1) (.there (.there .here)) S ?_;intro bf bA ka iz))
  |(show _/\_;first|(refine⟨by rfl,fun nO=>?_⟩))
  |(exact cC (X:=Nat×Option Addr×Nat) (i+1,bf,bA) (by show(cB (b-t)).toNat-(i+1)<(cB (b-t)).toNat-i;omega) ⟨by show i+1<=(cB (b-t)).toNat;omega,ka,iz⟩ ⟨rfl,rfl,rfl,rfl,rfl,eD S,trivial⟩ trivial (by rw[af6,zX,Il,Im];rfl))
  |refine jK ?_
  |(refine iK ?_ ?_<;>(try with_reducible intro ab)<;>(try(exfalso;omega)))
  |with_reducible intro r)<;>(try conv=>whnf))
end
theorem BI {P:Prop} (h:P:=by
 repeat'((first
  |(show eB _ _ _ _;first|(refine Gg (J ((s.made+1:Nat):Int)) (by rw[cK S];rfl) ?_))
  |(show gn _ _ _ _ _;first|(refine xx hs 2 xQ S h.tF h.kJ s.made ((cK S).trans S) S (fun cu fX b0 gw=>?_)))
  |(show ih _ _ _ _;first|(refine tC (hs _) av aD W W ?_))
  |(show bk _ _ _ _;first|(refine iZ (hs _) av aD W W ?_))
  |(show ay _ _ _ _ _ _;first|(refine Lk (a:=⟨1,c,0,0⟩) h (fun r s' e ak ad aZ=>?_) (fun a s' e ak=>?_))|(refine Lk (a:=⟨2,c,0,v⟩) h (fun r s' e ak ad aZ=>?_) (fun a s' e ak=>?_))|(refine ac6 h.la (fun v ah=>?_))|(refine am8 h.la (fun v ah=>?_))|(refine yE h (fun v ah=>?_);subst ah)|(refine Lk (a:=⟨3,nP k.la k.a1 0,t,cB (t+1)⟩) h (fun r s' e ak ad aZ=>?_) (fun a s' e ak=>?_)))
  |(show ff _ _ _ _ _;first|(refine qO 3 0 W rfl (by decide+kernel) aD W W ?_)|(refine qO 4 1 W rfl (by decide+kernel) aD W W ?_))
  |(exact k1 (cl _ _ (by simp only[Dz,e,ax.dq]) ak))
  |(exact c1 (aC _ _ (by simp only[Dz,e,ax.cx]) ak ad aZ))
  |(exact c1 (U _ ah))
  |(exact c1 (U _ (cK S)))
  |(exact k1 (cl _ _ (by simp only[jl,e,ax.dq]) ak))
  |(exact c1 (aC () _ (by simp only[jl,e,ax.cx]) ak ad aZ))
  |(exact k1 (cl _ _ (by simp only[gF,e,ax.dq]) ak))
  |(exact c1 (aC _ _ (by simp only[gF,e,ax.cx]) ak ad aZ))
  |(exact k1 (cl _ s (Hj S) h))
  |(exact c1 (aC _ {s with made:=s.made+1} (Hk S) (h.up (qp _) (show s.made+1<=_ by omega) rfl) (El _) rfl))
  |refine eg ?_
  |(refine eh ?_ ?_<;>(try with_reducible intro ab)<;>(try(exfalso;omega)))
  |with_reducible intro r)<;>(try conv=>whnf))):P:=h
abbrev yx(a:c4):List PanicEntry:=[{v:= .iface 227 (.agg a.l.toArray),recovered:=false}]
def Rj(k:aI)(s:aq):List Value:=[J k.la.bt,J k.la.nodes,J k.la.buckets,J k.la.h6,J k.la.en,J k.la.cells,J k.la.maps,J k.la.dj,J k.la.cF,J k.la.done,J k.la.count,J k.la.era,J k.la.free,J k.la.alive,J k.la.owner,J k.la.qV,J k.la.qv,J k.la.ring,J k.la.task,J k.la.cell,J k.la.map,J k.la.stack,J k.la.chan,J k.la.node,J k.la.size,J k.a1,.slice k.bK k.aM k.bD,J (s.made:Int)]
def iM(k:aI)(s:aq)(p:Nat)(M:aw):aw:=(ae p,.cs 231 (Rj k s))::M
section
theorem Lk{k:aI}{s:aq}{p:Nat}{a:c4}(h:bc H k s ⟨false,none,0,0⟩)(aC:∀r s',hp k a s= .ok r s'->bc H k s' ⟨false,none,0,0⟩->s.made<s'.made->s'.gone=s.gone->K (.agg (hs r).toArray) (Y H w0 X (iM k s' p M)))(cl:∀ei s',hp k a s= .ask ei->bc H k s' ⟨false,none,0,0⟩->Z (yx ei) (Y H w0 X (iM k s' p M))):a4 H w0 X (iM k s p M) 337 #[ae p,.agg a.l.toArray] K Z:=by
 have ad:=h.made
 have ai:=h.kJ
 have aW:=h.lm
 refine a7 ajj ?_
 intro az aF
 conv=>whnf
 exact BI
theorem Di{k:aI}{s:aq}{p:Nat}{c:Int}(h:bc H k s ⟨false,none,0,0⟩)(aC:∀r s',gF k c s= .ok r s'->bc H k s' ⟨false,none,0,0⟩->s.made<s'.made->s'.gone=s.gone->K (J r) (Y H w0 X (iM k s' p M)))(cl:∀a s',gF k c s= .ask a->bc H k s' ⟨false,none,0,0⟩->Z (yx a) (Y H w0 X (iM k s' p M))):a4 H w0 X (iM k s p M) 279 #[ae p,J c] K Z:=by
 refine a7 aiG ?_
 intro az aF
 conv=>whnf
 exact BI
theorem JI{k:aI}{s:aq}{p:Nat}{c v:Int}(h:bc H k s ⟨false,none,0,0⟩)(aC:∀u s',jl k c v s= .ok u s'->bc H k s' ⟨false,none,0,0⟩->s.made<s'.made->s'.gone=s.gone->K (.tuple #[]) (Y H w0 X (iM k s' p M)))(cl:∀a s',jl k c v s= .ask a->bc H k s' ⟨false,none,0,0⟩->Z (yx a) (Y H w0 X (iM k s' p M))):a4 H w0 X (iM k s p M) 283 #[ae p,J c,J v] K Z:=by
 refine a7 aiK ?_
 intro az aF
 conv=>whnf
 exact BI
theorem IK{k:aI}{s:aq}{p:Nat}(h:bc H k s ⟨false,none,0,0⟩)(U:∀v,v=(s.made:Int)-1->K (J v) (Y H w0 X (iM k s p M))):a4 H w0 X (iM k s p M) 285 #[ae p] K Z:=by
 have ad:=h.made
 have ai:=h.kJ
 have aW:=h.lm
 refine a7 aiM ?_
 intro az aF
 conv=>whnf
 exact BI
theorem yE{k:aI}{s:aq}{p:Nat}{i:Int}(h:bc H k s ⟨false,none,0,0⟩)(U:∀v,v=nP k.la k.a1 i->K (J v) (Y H w0 X (iM k s p M))):a4 H w0 X (iM k s p M) 280 #[ae p,J i] K Z:=by
 refine a7 aiH ?_
 intro az aF
 conv=>whnf
 exact BI
theorem Jd{k:aI}{s:aq}{p:Nat}{r i:Int}(h:bc H k s ⟨false,none,0,0⟩)(U:∀v,v=Bk k.la k.a1 r i->K (J v) (Y H w0 X (iM k s p M))):a4 H w0 X (iM k s p M) 284 #[ae p,J r,J i] K Z:=by
 refine a7 aiL ?_
 intro az aF
 conv=>whnf
 exact BI
def Dz(k:aI)(t:Int)(s:aq):ax Bool:=(hp k ⟨3,nP k.la k.a1 0,t,cB (t+1)⟩ s).and fun r s=> .ok r.2 s
theorem Vz{k:aI}{s:aq}{p:Nat}{t:Int}(h:bc H k s ⟨false,none,0,0⟩)(aC:∀r s',Dz k t s= .ok r s'->bc H k s' ⟨false,none,0,0⟩->s.made<s'.made->s'.gone=s.gone->K (.bool r) (Y H w0 X (iM k s' p M)))(cl:∀a s',Dz k t s= .ask a->bc H k s' ⟨false,none,0,0⟩->Z (yx a) (Y H w0 X (iM k s' p M))):a4 H w0 X (iM k s p M) 286 #[ae p,J t] K Z:=by
 refine a7 aiN ?_
 intro az aF
 conv=>whnf
 all_goals exact BI
end
theorem as0 {P:Prop} (h:P:=by
 repeat'((first
  |(show ay _ _ _ _ _ _;first|(refine yE av (fun v ah=>?_);subst ah)|(refine Jd av (fun v ah=>?_);subst ah)|(refine Vz av (fun c wk EP ak ad aZ=>?_) (fun a s' e ak=>?_))|(refine Di av (fun x0 O2 Lr ak ad aZ=>?_) (fun a s' e ak=>?_))|(refine IK av (fun v ah=>?_);subst ah))
  |(exact hD (cl _ _ (by simp only[oE,p7,rO,m7,pf,pe,cB,ax.cx,ax.dq,dm,cZ,dH,gt_iff_lt,ge_iff_le,nl,true_or,or_true,false_or,or_false, *]) av))
  |(exact cA (aC ⟨_,_,_,_⟩ _ (by simp only[oE,p7,rO,m7,pf,pe,cB,ax.cx,ax.dq,dm,cZ,dH,gt_iff_lt,ge_iff_le,nl,true_or,or_true,false_or,or_false, *];try rfl) av))
  |refine eg ?_
  |(refine eh ?_ ?_<;>(try with_reducible intro ab)<;>(try(exfalso;omega)))
  |with_reducible intro r)<;>(try conv=>whnf))):P:=h
def oE(k:aI)(s:aq):ax cI:=(gF k (nP k.la k.a1 0) s).and fun t s1=>(gF k (nP k.la k.a1 1) s1).and fun b aV=>
 if t>=b then .ok ⟨0,false,16,(aV.made:Int)-1⟩ aV else
 (gF k (nP k.la k.a1 2) aV).and fun r bu=>(gF k (Bk k.la k.a1 r t) bu).and fun x cw=>(Dz k t cw).and fun c fF=>
 if c=true then .ok ⟨x,true,0,(fF.made:Int)-1⟩ fF else .ok ⟨0,false,0,(fF.made:Int)-1⟩ fF
def rO(k:aI)(b:Int)(s:aq):ax cI:=(jl k (nP k.la k.a1 1) b s).and fun _ aV=>(gF k (nP k.la k.a1 0) aV).and fun t bu=>
 if t>b then(jl k (nP k.la k.a1 1) (cB (b+1)) bu).and fun _ cw=> .ok ⟨0,false,0,(bu.made:Int)-1⟩ cw else
 (gF k (nP k.la k.a1 2) bu).and fun r cw=>(gF k (Bk k.la k.a1 r b) cw).and fun x fF=>
 if t=b then(Dz k t fF).and fun c fS=>(jl k (nP k.la k.a1 1) (cB (b+1)) fS).and fun _ hE=>if c=true then .ok ⟨x,true,0,(fS.made:Int)-1⟩ hE else .ok ⟨0,false,0,(fS.made:Int)-1⟩ hE
 else .ok ⟨x,true,0,(bu.made:Int)-1⟩ fF
def p7(k:aI)(s:aq):ax cI:=(gF k (nP k.la k.a1 1) s).and fun b s1=>rO k (cB (b-1)) s1
def zp(k:aI):List cz->aq->ax Unit
 |[],s=> .ok () s
 |m::l,s=>(gF k m.1 s).and fun v s1=>(jl k m.2 v s1).and fun _ aV=>zp k l aV
def pe(k:aI)(x b r:Int)(s:aq):ax cI:=(jl k (Bk k.la k.a1 r b) x s).and fun _ s1=>(jl k (nP k.la k.a1 1) (cB (b+1)) s1).and fun _ aV=> .ok ⟨0,true,0,(aV.made:Int)-1⟩ aV
def pf(k:aI)(x b t r:Int)(s:aq):ax cI:=if r<0\/cB (pj k.la-1)<=r then .ok ⟨0,false,9, -1⟩ s else
 (zp k (qJ k.la k.a1 r t b) s).and fun _ cw=>(jl k (nP k.la k.a1 2) (cB (r+1)) cw).and fun _ fF=>pe k x b (cB (r+1)) fF
def m7(k:aI)(x:Int)(s:aq):ax cI:=(gF k (nP k.la k.a1 1) s).and fun b s1=>(gF k (nP k.la k.a1 0) s1).and fun t aV=>(gF k (nP k.la k.a1 2) aV).and fun r bu=>
 if cB (b-t)>=jD r then pf k x b t r bu else pe k x b r bu
section
theorem aqA{k:aI}{s:aq}{p:Nat}{op:dp}(h:bc H k s ⟨false,none,0,0⟩)(aC:∀r s',oE k s= .ok r s'->bc H k s' ⟨false,none,0,0⟩->K (.agg (cI.l r).toArray) (Y H w0 X (iM k s' p M)))(cl:∀a s',oE k s= .ask a->bc H k s' ⟨false,none,0,0⟩->Z (yx a) (Y H w0 X (iM k s' p M))):a4 H w0 X (iM k s p M) 208 #[ae p,.agg op.l.toArray] K Z:=by
 refine a7 aic ?_
 intro az aF
 conv=>whnf
 exact as0
theorem anm{k:aI}{s:aq}{p:Nat}{op:dp}(h:bc H k s ⟨false,none,0,0⟩)(aC:∀r s',p7 k s= .ok r s'->bc H k s' ⟨false,none,0,0⟩->K (.agg (cI.l r).toArray) (Y H w0 X (iM k s' p M)))(cl:∀a s',p7 k s= .ask a->bc H k s' ⟨false,none,0,0⟩->Z (yx a) (Y H w0 X (iM k s' p M))):a4 H w0 X (iM k s p M) 207 #[ae p,.agg op.l.toArray] K Z:=by
 refine a7 aib ?_
 intro az aF
 conv=>whnf
 repeat'((first
  |(show ay _ _ _ _ _ _;first|(refine yE av (fun v ah=>?_);subst ah)|(refine Jd av (fun v ah=>?_);subst ah)|(refine Vz av (fun c wk EP ak ad aZ=>?_) (fun a s' e ak=>?_))|(refine Di av (fun x0 O2 Lr ak ad aZ=>?_) (fun a s' e ak=>?_))|(refine JI av (fun u Jr Hn ak ad aZ=>?_) (fun a s' e ak=>?_))|(refine IK av (fun v ah=>?_);subst ah))
  |(exact hD (cl _ _ (by simp only[oE,p7,rO,m7,pf,pe,cB,ax.cx,ax.dq,dm,cZ,dH,gt_iff_lt,ge_iff_le,nl,true_or,or_true,false_or,or_false, *]) av))
  |(exact cA (aC ⟨_,_,_,_⟩ _ (by simp only[oE,p7,rO,m7,pf,pe,cB,ax.cx,ax.dq,dm,cZ,dH,gt_iff_lt,ge_iff_le,nl,true_or,or_true,false_or,or_false, *];try rfl) av))
  |(refine ba.sk (fun ab=>?_) (fun ab=>?_)<;>(try subst ab))
  |refine jK ?_
  |(refine iK ?_ ?_<;>(try with_reducible intro ab)<;>(try(exfalso;omega)))
  |with_reducible intro r)<;>(try conv=>whnf))
end
theorem ay.post{P:Program}{H w0:World}{X:Nat->Prop}{M:aw}{f:FuncId}{args:Array Value}{K:Value->an->Prop}{Z:bF}(h:ay P (Y H w0 X M) f args (fun v aG=> ∃aE B6,aG=Y H w0 X aE/\aJ aE B6/\K v (Y H w0 X B6)) Z):ay P (Y H w0 X M) f args K Z:=by
 constructor
 refine⟨h.out.1,fun w au=>(h.out.2 w au).mono fun e w' eb=>?_⟩
 rcases eb with⟨v,aG,O,V,aa,aE,B6,rfl,hi,U⟩|eb
 ·refine .inl ⟨v,_,O,⟨V.size,V.block,fun k U=>?_⟩,hi.on _ _ _ _ aa,U⟩
  rcases U with U|U|U
  ·exact V.new k (.inl U)
  ·exact V.new k (.inr (.inl U))
  ·exact V.new k (.inr (.inr (hi.keys k U)))
 ·exact .inr eb
section
theorem alu(a:c8)(s r t b:Int):(qJ a s r t b).length<=1000000:=by
 by_cases h:(ls a s r<0\/jD r=0)\/¬uE r t b\/(ls a s (cB (r+1))<0\/jD (cB (r+1))=0)
 ·rw[Ul h];exact cY _
 ·rw[NZ h]
  have aK:uE r t b:=Classical.byContradiction fun aB=>h (.inr (.inl aB))
  have b3:=Pb r
  unfold uE at aK
  omega
theorem als{a:c8}(a8:ig a){s r t b:Int}(U:∀jz A c,jz=qJ a s r t b->jz.length<=1000000->jz.length<=c->(0<c->∃b,A=some ⟨b,0,none⟩)->K (.slice A jz.length c) (Y H w0 X ((.slice A jz.length c,.row 187 2 (jz.flatMap ft))::M))):a4 H w0 X M 282 #[.agg a.l.toArray,J s,J r,J t,J b] K Z:=alw a8 fun A c O V=>U _ A c rfl (alu _ _ _ _ _) O V
theorem anI{k:aI}{s:aq}{p:Nat}{op:dp}(h:bc H k s ⟨false,none,0,0⟩)(aC:∀r s',m7 k op.aQ s= .ok r s'->bc H k s' ⟨false,none,0,0⟩->K (.agg (cI.l r).toArray) (Y H w0 X (iM k s' p M)))(cl:∀a s',m7 k op.aQ s= .ask a->bc H k s' ⟨false,none,0,0⟩->Z (yx a) (Y H w0 X (iM k s' p M))):a4 H w0 X (iM k s p M) 206 #[ae p,.agg op.l.toArray] K Z:=by
 refine a7 aia ?_
 intro az aF
 conv=>whnf
 repeat'((first
  |(show ay _ _ _ _ _ _;first|(refine yE av (fun v ah=>?_);subst ah))
  |(show eS _ _;first|(refine eS.go ?_))
  |(show gN _ _ _;first|(refine gN.mk (ie.refl _) ?_)|(refine gN.mk (ie.imp (aJ.sub cn)) ?_))
  |(show _/\_;first|(refine And.intro ?_ ?_))
  |(show ih _ _ _ _;first|(refine IS ?_)|(refine NM ?_))
  |(show bk _ _ _ _;first|(refine uS ?_)|(refine IM ?_))
  |(show eB _ _ _ _;first|(refine st ?_))
  |(intro r jN)
  |(refine hy.go ?_)
  |(refine pE.go ?_)
  |(refine ba.dec (fun ab=>?_) (fun ab=>?_)<;>try(exfalso;omega))
  |(refine ba.v7 (fun ab=>?_) (fun ab=>?_)<;>try(exfalso;omega))
  |(refine ba.sk (fun ab=>?_) (fun ab=>?_)<;>try(exfalso;omega))
  |(refine ba.sM (fun ab=>?_) (fun ab=>?_)<;>try(exfalso;omega)))<;>(try conv=>whnf))
 refine Di h (fun b s1 e1 O mJ rz=>?_) (fun a s' e ak=>?_)
 rotate_left
 ·conv=>whnf
  exact hD (cl _ _ (by simp only[oE,p7,rO,m7,pf,pe,cB,ax.cx,ax.dq,dm,cZ,dH,gt_iff_lt,ge_iff_le,nl,true_or,or_true,false_or,or_false, *]) av)
 conv=>whnf
 repeat'((first
  |(show ay _ _ _ _ _ _;first|(refine yE av (fun v ah=>?_);subst ah))
  |(show eS _ _;first|(refine eS.go ?_))
  |(show gN _ _ _;first|(refine gN.mk (ie.refl _) ?_)|(refine gN.mk (ie.imp (aJ.sub cn)) ?_))
  |(show _/\_;first|(refine And.intro ?_ ?_))
  |(show ih _ _ _ _;first|(refine IS ?_)|(refine NM ?_))
  |(show bk _ _ _ _;first|(refine uS ?_)|(refine IM ?_))
  |(show eB _ _ _ _;first|(refine st ?_))
  |(intro r jN)
  |(refine hy.go ?_)
  |(refine pE.go ?_)
  |(refine ba.dec (fun ab=>?_) (fun ab=>?_)<;>try(exfalso;omega))
  |(refine ba.v7 (fun ab=>?_) (fun ab=>?_)<;>try(exfalso;omega))
  |(refine ba.sk (fun ab=>?_) (fun ab=>?_)<;>try(exfalso;omega))
  |(refine ba.sM (fun ab=>?_) (fun ab=>?_)<;>try(exfalso;omega)))<;>(try conv=>whnf))
 refine Di O (fun t aV e2 V nW kF=>?_) (fun a s' e ak=>?_)
 rotate_left
 ·conv=>whnf
  exact hD (cl _ _ (by simp only[oE,p7,rO,m7,pf,pe,cB,ax.cx,ax.dq,dm,cZ,dH,gt_iff_lt,ge_iff_le,nl,true_or,or_true,false_or,or_false, *]) av)
 conv=>whnf
 repeat'((first
  |(show ay _ _ _ _ _ _;first|(refine yE av (fun v ah=>?_);subst ah))
  |(show eS _ _;first|(refine eS.go ?_))
  |(show gN _ _ _;first|(refine gN.mk (ie.refl _) ?_)|(refine gN.mk (ie.imp (aJ.sub cn)) ?_))
  |(show _/\_;first|(refine And.intro ?_ ?_))
  |(show ih _ _ _ _;first|(refine IS ?_)|(refine NM ?_))
  |(show bk _ _ _ _;first|(refine uS ?_)|(refine IM ?_))
  |(show eB _ _ _ _;first|(refine st ?_))
  |(intro r jN)
  |(refine hy.go ?_)
  |(refine pE.go ?_)
  |(refine ba.dec (fun ab=>?_) (fun ab=>?_)<;>try(exfalso;omega))
  |(refine ba.v7 (fun ab=>?_) (fun ab=>?_)<;>try(exfalso;omega))
  |(refine ba.sk (fun ab=>?_) (fun ab=>?_)<;>try(exfalso;omega))
  |(refine ba.sM (fun ab=>?_) (fun ab=>?_)<;>try(exfalso;omega)))<;>(try conv=>whnf))
 refine Di V (fun r bu cR aa ME Mv=>?_) (fun a s' e ak=>?_)
 rotate_left
 ·conv=>whnf
  exact hD (cl _ _ (by simp only[oE,p7,rO,m7,pf,pe,cB,ax.cx,ax.dq,dm,cZ,dH,gt_iff_lt,ge_iff_le,nl,true_or,or_true,false_or,or_false, *]) av)
 conv=>whnf
 refine Pc (fun z b3=>?_)
 conv=>whnf
 refine ba.dec (fun Mj=>?_) (fun Mj=>?_)
 rotate_left
 ·have jw:m7 k op.aQ s=pe k op.aQ b r bu:=by
   rw[m7,e1,ax.cx,e2,ax.cx,cR,ax.cx,if_neg (by rw[<-b3];exact Mj)]
  conv=>whnf
  repeat'((first
   |(show ay _ _ _ _ _ _;first|(refine yE av (fun v ah=>?_);subst ah)|(refine Jd av (fun v ah=>?_);subst ah)|(refine JI av (fun u Jr Hn ak ad aZ=>?_) (fun a s' e ak=>?_))|(refine IK av (fun v ah=>?_);subst ah))
   |(show eS _ _;first|(refine eS.go ?_))
   |(show gN _ _ _;first|(refine gN.mk (ie.refl _) ?_)|(refine gN.mk (ie.imp (aJ.sub cn)) ?_))
   |(show _/\_;first|(refine And.intro ?_ ?_))
   |(show ih _ _ _ _;first|(refine IS ?_)|(refine NM ?_))
   |(show bk _ _ _ _;first|(refine uS ?_)|(refine IM ?_))
   |(show eB _ _ _ _;first|(refine st ?_))
   |(exact hD (cl _ _ (by rw[jw];simp only[oE,p7,rO,m7,pf,pe,cB,ax.cx,ax.dq,dm,cZ,dH,gt_iff_lt,ge_iff_le,nl,true_or,or_true,false_or,or_false, *]) av))
   |(exact cA (aC ⟨_,_,_,_⟩ _ (by rw[jw];simp only[oE,p7,rO,m7,pf,pe,cB,ax.cx,ax.dq,dm,cZ,dH,gt_iff_lt,ge_iff_le,nl,true_or,or_true,false_or,or_false, *];try rfl) av))
   |(intro r jN)
   |(refine hy.go ?_)
   |(refine pE.go ?_)
   |(refine ba.dec (fun ab=>?_) (fun ab=>?_)<;>try(exfalso;omega))
   |(refine ba.v7 (fun ab=>?_) (fun ab=>?_)<;>try(exfalso;omega))
   |(refine ba.sk (fun ab=>?_) (fun ab=>?_)<;>try(exfalso;omega))
   |(refine ba.sM (fun ab=>?_) (fun ab=>?_)<;>try(exfalso;omega))
   |(refine ba.Uy (fun ab=>?_) (fun ab=>?_))
   |(refine ba.intro (fun ab=>?_) (fun ab=>?_)))<;>(try conv=>whnf))
 have SG:m7 k op.aQ s=pf k op.aQ b t r bu:=by
  rw[m7,e1,ax.cx,e2,ax.cx,cR,ax.cx,if_pos (by rw[<-b3];exact Mj)]
 conv=>whnf
 refine eS.on (X:=Bool) (fun x=> [(0,.v (ae p)),(3,.p 3 0),(4,.p 4 0),(5,.v (J b)),(6,.v (J t)),(7,.v (J r)),(39,.v (.bool x))]) (fun _=> [(3,72,op.l),(4,145,[J 0,.bool false,J 0,J 0,.slice none 0 0])]) (fun _=>Y H az aF (iM k bu p M)) (fun x=>x=decide (r<0\/cB (pj k.la-1)<=r)) ?_ ?_
 ·conv=>whnf
  repeat'((first
   |(show ay _ _ _ _ _ _;first|(refine OV h.la (fun n aB=>?_)))
   |(show eS _ _;first|(refine eS.go ?_))
   |(show gN _ _ _;first|(refine gN.mk (ie.refl _) ?_)|(refine gN.mk (ie.imp (aJ.sub cn)) ?_))
   |(show _/\_;first|(refine And.intro ?_ ?_))
   |(show ih _ _ _ _;first|(refine IS ?_)|(refine NM ?_))
   |(show bk _ _ _ _;first|(refine uS ?_)|(refine IM ?_))
   |(show eB _ _ _ _;first|(refine st ?_))
   |(exact hA.on (X:=Bool) true (by rw[eq_comm,decide_eq_true_eq];exact .inl av) ⟨rfl,rfl,rfl,rfl,rfl,rfl,rfl,trivial⟩ ⟨rfl,rfl,trivial⟩)
   |(exact hA.on (X:=Bool) (decide (r>=IntKind.i64.wrap (n-1))) (by rw[<-aB,decide_eq_decide];exact⟨fun h=> .inr h,fun h=>by rcases h with h|h;(exact absurd h av);exact h⟩) ⟨rfl,rfl,rfl,rfl,rfl,rfl,rfl,trivial⟩ ⟨rfl,rfl,trivial⟩)
   |(intro r jN)
   |(refine hy.go ?_)
   |(refine pE.go ?_)
   |(refine ba.dec (fun ab=>?_) (fun ab=>?_)<;>try(exfalso;omega))
   |(refine ba.v7 (fun ab=>?_) (fun ab=>?_)<;>try(exfalso;omega))
   |(refine ba.sk (fun ab=>?_) (fun ab=>?_)<;>try(exfalso;omega))
   |(refine ba.sM (fun ab=>?_) (fun ab=>?_)<;>try(exfalso;omega))
   |(refine ba.Uy (fun ab=>?_) (fun ab=>?_))
   |(refine ba.intro (fun ab=>?_) (fun ab=>?_)))<;>(try conv=>whnf))
 rintro(_|_) iC aW
 rotate_left
 ·have M0:=of_decide_eq_true aW.symm
  conv=>whnf
  exact cA (aC ⟨0,false,9, -1⟩ _ (by rw[SG,pf,if_pos M0]) aa)
 have M0:=of_decide_eq_false aW.symm
 conv=>whnf
 repeat'((first
  |(show eS _ _;first|(refine eS.go ?_))
  |(show gN _ _ _;first|(refine gN.mk (ie.refl _) ?_)|(refine gN.mk (ie.imp (aJ.sub cn)) ?_))
  |(show _/\_;first|(refine And.intro ?_ ?_))
  |(show ih _ _ _ _;first|(refine IS ?_)|(refine NM ?_))
  |(show bk _ _ _ _;first|(refine uS ?_)|(refine IM ?_))
  |(show eB _ _ _ _;first|(refine st ?_))
  |(intro r jN)
  |(refine hy.go ?_)
  |(refine pE.go ?_))<;>(try conv=>whnf))
 refine ay.post ?_
 refine als h.la (fun jz A c Sw awf aj b0=>?_)
 refine⟨_,iM k bu p ((.slice A jz.length c,.row 187 2 (jz.flatMap ft))::M),rfl,?_,?_⟩
 ·exact aJ.auto
 conv=>whnf
 refine gN.mk (ie.imp (aJ.sub (.cons_cons _ (.cons _ (List.Sublist.refl _))))) ?_
 conv=>whnf
 have jw:m7 k op.aQ s=(zp k jz bu).and fun _ cw=>(jl k (nP k.la k.a1 2) (cB (r+1)) cw).and fun _ fF=>pe k op.aQ b (cB (r+1)) fF:=by
  rw[SG,pf,if_neg M0,Sw]
 clear Sw
 generalize E6:zp k jz bu=Qn at jw
 refine c9.on (X:=Nat×aq) (fun x=> [(0,.v (ae p)),(3,.p 3 0),(4,.p 4 0),(5,.v (J b)),(7,.v (J r)),(52,.v (.slice A jz.length c)),(53,.v (J (jz.length:Int))),(54,.v (J (x.1:Int)))]) (fun _=> [(3,72,op.l),(4,145,[J 0,.bool false,J 0,J 0,.slice none 0 0])]) (fun x=>Y H az aF (iM k x.2 p ((.slice A jz.length c,.row 187 2 (jz.flatMap ft))::M))) (fun x=>x.1<=jz.length/\bc H k x.2 ⟨false,none,0,0⟩/\zp k (jz.drop x.1) x.2=Qn) (fun x=>jz.length-x.1) (0,bu) ⟨cY _,aa,E6⟩ ⟨rfl,rfl,rfl,rfl,rfl,rfl,rfl,rfl,trivial⟩ ⟨rfl,rfl,trivial⟩ ?_
 rintro⟨i,x⟩ iC ⟨hi,aW,dF⟩
 dsimp only at hi aW dF
 dsimp only
 conv=>whnf
 refine ba.dec (fun ae7=>?_) (fun ae7=>?_)
 ·have hU:i<jz.length:=by omega
  rw[Ee hU,zp] at dF
  obtain⟨EF,rfl⟩:=b0 S
  conv=>whnf
  refine rG EF 0 rfl S S ?_
  conv=>whnf
  refine zl (ft jz[i]) (.tail _ (List.Mem.head _)) aD W W (by rw[show 0+(i:Int).toNat*2=i*2 by simp];exact uF ft 2 L0 jz i hU) ?_
  conv=>whnf
  refine hT aD _ rfl (fun pH=>?_)
  conv=>whnf
  repeat'((first
   |(show ih _ _ _ _;first|(refine IS (off:=1) ?_)|(refine IS ?_)|(refine NM ?_))
   |(show ay _ _ _ _ _ _;first|(refine ay.imp (aE:=iM k x p ((ae pH,aY.cs 187 [J jz[i].1,J jz[i].2])::(.slice (some ⟨EF,0,none⟩) jz.length c,.row 187 2 (jz.flatMap ft))::M)) aJ.auto (Di aW (fun zN apn avs fE awc av4=>?_) (fun a s' e ak=>?_)))|(refine ay.imp (aE:=iM k apn p ((.slice (some ⟨EF,0,none⟩) jz.length c,.row 187 2 (jz.flatMap ft))::M)) (aJ.sub (.cons_cons _ (.cons _ (List.Sublist.refl _)))) (JI fE (fun u Wf avt eZ awd av5=>?_) (fun a s' e ak=>?_))))
   |(show eS _ _;first|(refine eS.go ?_))
   |(show gN _ _ _;first|(refine gN.mk (ie.refl _) ?_)|(refine gN.mk (ie.imp (aJ.sub cn)) ?_))
   |(show _/\_;first|(refine And.intro ?_ ?_))
   |(show bk _ _ _ _;first|(refine uS ?_)|(refine IM ?_))
   |(show eB _ _ _ _;first|(refine st ?_))
   |(refine xw (n:=2) (e:=3) pH 0 1 ?_)
   |(refine xw (n:=2) (e:=3) pH 0 0 ?_)
   |(exact k1 (cl _ _ (by rw[jw,<-dF];simp only[oE,p7,rO,m7,pf,pe,cB,ax.cx,ax.dq,dm,cZ,dH,gt_iff_lt,ge_iff_le,nl,true_or,or_true,false_or,or_false, *]) av) cn)
   |(exact cC (X:=Nat×aq) (i+1,Wf) (by show jz.length-(i+1)<jz.length-i;omega) ⟨by show i+1<=jz.length;omega,eZ,by show zp k (jz.drop (i+1)) Wf=Qn;rw[<-dF];simp only[oE,p7,rO,m7,pf,pe,cB,ax.cx,ax.dq,dm,cZ,dH,gt_iff_lt,ge_iff_le,nl,true_or,or_true,false_or,or_false, *]⟩ ⟨rfl,rfl,rfl,rfl,rfl,rfl,rfl,eD S,trivial⟩ ⟨rfl,rfl,trivial⟩)
   |(intro r jN)
   |(refine hy.go ?_)
   |(refine pE.go ?_)
   |(refine ba.dec (fun ab=>?_) (fun ab=>?_)<;>try(exfalso;omega))
   |(refine ba.v7 (fun ab=>?_) (fun ab=>?_)<;>try(exfalso;omega))
   |(refine ba.sk (fun ab=>?_) (fun ab=>?_)<;>try(exfalso;omega))
   |(refine ba.sM (fun ab=>?_) (fun ab=>?_)<;>try(exfalso;omega))
   |(refine ba.Uy (fun ab=>?_) (fun ab=>?_))
   |(refine ba.intro (fun ab=>?_) (fun ab=>?_)))<;>(try conv=>whnf))
 rw[List.drop_of_length_le S,zp] at dF
 rw[<-dF,ax.cx] at jw
 conv=>whnf
 repeat'((first
  |(show ay _ _ _ _ _ _;first|(refine yE av (fun v ah=>?_);subst ah)|(refine Jd av (fun v ah=>?_);subst ah)|(refine JI av (fun u Jr Hn ak ad aZ=>?_) (fun a s' e ak=>?_))|(refine IK av (fun v ah=>?_);subst ah))
  |(show eS _ _;first|(refine eS.go ?_))
  |(show gN _ _ _;first|(refine gN.mk (ie.refl _) ?_)|(refine gN.mk (ie.imp (aJ.sub cn)) ?_))
  |(show _/\_;first|(refine And.intro ?_ ?_))
  |(show ih _ _ _ _;first|(refine IS ?_)|(refine NM ?_))
  |(show bk _ _ _ _;first|(refine uS ?_)|(refine IM ?_))
  |(show eB _ _ _ _;first|(refine st ?_))
  |(exact k1 (cl _ _ (by rw[jw];simp only[oE,p7,rO,m7,pf,pe,cB,ax.cx,ax.dq,dm,cZ,dH,gt_iff_lt,ge_iff_le,nl,true_or,or_true,false_or,or_false, *]) av) cn)
  |(exact c1 (aC ⟨_,_,_,_⟩ _ (by rw[jw];simp only[oE,p7,rO,m7,pf,pe,cB,ax.cx,ax.dq,dm,cZ,dH,gt_iff_lt,ge_iff_le,nl,true_or,or_true,false_or,or_false, *];try rfl) av) cn)
  |(intro r jN)
  |(refine hy.go ?_)
  |(refine pE.go ?_)
  |(refine ba.dec (fun ab=>?_) (fun ab=>?_)<;>try(exfalso;omega))
  |(refine ba.v7 (fun ab=>?_) (fun ab=>?_)<;>try(exfalso;omega))
  |(refine ba.sk (fun ab=>?_) (fun ab=>?_)<;>try(exfalso;omega))
  |(refine ba.sM (fun ab=>?_) (fun ab=>?_)<;>try(exfalso;omega))
  |(refine ba.Uy (fun ab=>?_) (fun ab=>?_))
  |(refine ba.intro (fun ab=>?_) (fun ab=>?_)))<;>(try conv=>whnf))
end
theorem Gx {P:Prop} (h:P:=by
 repeat'((first
  |(show ff _ _ _ _ _;first|(refine FN W W aD W ?_)|(refine kZ W ?_)|(refine Du (n:=3) (e:=232) 0 W W W ?_ bP aD W W bC W ?_;(rw[cT];rfl))|(refine Du (n:=3) (e:=232) 1 W W W ?_ bP aD W W bC W ?_;(rw[cT];rfl))|(refine Du (n:=3) (e:=232) 2 W W W ?_ bP aD W W bC W ?_;(rw[cT];rfl)))
  |(show ay _ _ _ _ _ _;first|(refine uy (gs:=gs) (.inl (h.ea rfl)) h.fh kp h.pP (fun br bz dS ep=>?_))|(refine gd ahD ?_;intro be bM)|(refine ay.imp (aE:=iM {k with a1:=op.o1} (aq.start []) _ (Bd _ _ _ [J 0,J 0,J 0,J 0] M)) aJ.auto (anI aT (fun o s' e ak=>?_) (fun a s' e ak=>?_)))|(refine ay.imp (aE:=iM {k with a1:=op.o1} (aq.start []) _ (Bd _ _ _ [J 0,J 0,J 0,J 0] M)) aJ.auto (anm aT (fun o s' e ak=>?_) (fun a s' e ak=>?_)))|(refine ay.imp (aE:=iM {k with a1:=op.o1} (aq.start []) _ (Bd _ _ _ [J 0,J 0,J 0,J 0] M)) aJ.auto (aqA aT (fun o s' e ak=>?_) (fun a s' e ak=>?_))))
  |(show h0 _ _ _ _ _;first|(refine aoI ?_)|(rw[e] at U;refine h0.imp (aE:=Bd _ _ _ [J 0,J 0,J 0,J 0] M) (aJ.sub cn) (aoE ?_)))
  |(show bk _ _ _ _;first|(refine h2 (Rj {k with a1:=op.o1} (aq.start [])) rfl (fun jN=>?_))|(refine yC (n:=3) (e:=232) bP aD aD ?_))
  |(show eB _ _ _ _;first|(rw[e] at U;refine eB.imp (aE:=Bd _ _ _ [J 0,J 0,J 0,J 0] M) (aJ.sub cn) (st ?_)))
  |(refine p9 b7 aD W ?_)
  |(refine sR b7 aD W W ?_)
  |(have fz:=U br bz (by rw[<-fj];exact dS) ep;rw[<-fj] at fz;exact c1 fz)
  |(exact c1 U)
  |(exact hy.drop _ cn U)
  |refine eg ?_
  |(refine eh ?_ ?_<;>(try with_reducible intro ab)<;>(try(exfalso;omega)))
  |with_reducible intro r)<;>(try conv=>whnf))):P:=h
def e9.p4(gs:List cz):ax cI->e9
 | .ok o _=> .done o gs
 | .ask a=> .ask a
def om(k:aI)(gs:List cz)(op:dp):e9:=
 if op.o0<8\/10<op.o0\/op.o1<0\/k.la.bt<=op.o1 then m9 gs else
 if op.o0=8 then e9.p4 gs (m7 {k with a1:=op.o1} op.aQ (aq.start [])) else if op.o0=9 then e9.p4 gs (p7 {k with a1:=op.o1} (aq.start [])) else e9.p4 gs (oE {k with a1:=op.o1} (aq.start []))
theorem bc.wX{H:World}{k:aI}{s:aq}{g:cg}(h:bc H k s g)(a1:Int):bc H {k with a1:=a1} (aq.start []) ⟨false,none,0,0⟩:=
 ⟨h.la,cY _,h.kJ,h.lc,h.lm,h.tF,rfl,Nat.le_refl _,cY _,fun _=>rfl,fun _=> .inl rfl⟩
section
abbrev Us(df ma el:Nat):Deferred:={target:= .fn (.func 135) #[ae df,ae ma,ae el],args:=#[]}
def Bd(df ma el:Nat)(acc:List Value)(M:aw):aw:=(ae el,.cs 4 [.bool false])::(ae ma,.cs 145 [J 0,.bool false,J 0,J 0,.slice none 0 0])::(ae df,.cs 136 acc)::M
theorem aoE{a:c4}{df ma el:Nat}{K:FrameMode->an->Prop}(U:K (.panicking [{v:= .iface 227 (.agg a.l.toArray),recovered:=true}]) (Y H w0 X (Bd df ma el a.l M))):
  h0 Tryz.prog (Y H w0 X (Bd df ma el [J 0,J 0,J 0,J 0] M)) (Us df ma el) (.panicking (yx a)) K:=by
 refine Co e8 i6 Tl VB W W bP (args:=[ae df,ae ma,ae el]) W rfl rfl ?_
 intro az aF
 conv=>whnf
 refine Js true (.inr ⟨_,_,rfl,rfl⟩) rfl ?_
 conv=>whnf
 exact Gx
theorem aoI{df ma el:Nat}{K:FrameMode->an->Prop}(U:K .returning (Y H w0 X M)):h0 Tryz.prog (Y H w0 X M) (Us df ma el) .returning K:=by
 refine Co e8 i6 Tl VB W W bP (args:=[ae df,ae ma,ae el]) W rfl rfl ?_
 intro az aF
 conv=>whnf
 refine Js false (.inl ⟨rfl,rfl⟩) rfl ?_
 conv=>whnf
 exact hy.drop _ (List.Sublist.refl _) U
theorem ac5{k:aI}{a1:Int}{gs:List cz}{g:cg}{op:dp}(h:bc H k (aq.start gs) ⟨false,g.A,g.n,g.c⟩)(ab:op.o0<8\/10<op.o0\/op.o1<0\/k.la.bt<=op.o1)(U:jn H w0 X M K (om k gs op)):a4 H w0 X M 97 #[.agg k.la.l.toArray,J a1,.slice g.A g.n g.c,.agg op.l.toArray,.slice k.bK k.aM k.bD] K Z:=by
 have kp:g.n<=1000000000:=by
  have O:g.n=gs.length:=h.fh
  have V:gs.length<=1000000+0:=h.pO
  omega
 have fj:g.n=gs.length:=h.fh
 have lL:=h.la.bt
 have aT:=h.wX op.o1
 rw[om,if_pos ab] at U
 refine sH e8 i6 IH W ?_
 intro az aF
 conv=>whnf
 exact Gx
theorem ac2{k:aI}{a1:Int}{gs:List cz}{g:cg}{op:dp}(h:bc H k (aq.start gs) ⟨false,g.A,g.n,g.c⟩)(O:0<=op.o1)(V:op.o1<k.la.bt)(cT:op.o0=8)(U:jn H w0 X M K (om k gs op)):a4 H w0 X M 97 #[.agg k.la.l.toArray,J a1,.slice g.A g.n g.c,.agg op.l.toArray,.slice k.bK k.aM k.bD] K Z:=by
 have kp:g.n<=1000000000:=by
  have O:g.n=gs.length:=h.fh
  have V:gs.length<=1000000+0:=h.pO
  omega
 have fj:g.n=gs.length:=h.fh
 have lL:=h.la.bt
 have aT:=h.wX op.o1
 rw[om,if_neg S,if_pos cT] at U
 refine sH e8 i6 IH W ?_
 intro az aF
 conv=>whnf
 exact Gx
theorem ac3{k:aI}{a1:Int}{gs:List cz}{g:cg}{op:dp}(h:bc H k (aq.start gs) ⟨false,g.A,g.n,g.c⟩)(O:0<=op.o1)(V:op.o1<k.la.bt)(cT:op.o0=9)(U:jn H w0 X M K (om k gs op)):a4 H w0 X M 97 #[.agg k.la.l.toArray,J a1,.slice g.A g.n g.c,.agg op.l.toArray,.slice k.bK k.aM k.bD] K Z:=by
 have kp:g.n<=1000000000:=by
  have O:g.n=gs.length:=h.fh
  have V:gs.length<=1000000+0:=h.pO
  omega
 have fj:g.n=gs.length:=h.fh
 have lL:=h.la.bt
 have aT:=h.wX op.o1
 rw[om,if_neg S,if_neg S,if_pos cT] at U
 refine sH e8 i6 IH W ?_
 intro az aF
 conv=>whnf
 exact Gx
theorem ac4{k:aI}{a1:Int}{gs:List cz}{g:cg}{op:dp}(h:bc H k (aq.start gs) ⟨false,g.A,g.n,g.c⟩)(O:0<=op.o1)(V:op.o1<k.la.bt)(cT:op.o0=10)(U:jn H w0 X M K (om k gs op)):a4 H w0 X M 97 #[.agg k.la.l.toArray,J a1,.slice g.A g.n g.c,.agg op.l.toArray,.slice k.bK k.aM k.bD] K Z:=by
 have kp:g.n<=1000000000:=by
  have O:g.n=gs.length:=h.fh
  have V:gs.length<=1000000+0:=h.pO
  omega
 have fj:g.n=gs.length:=h.fh
 have lL:=h.la.bt
 have aT:=h.wX op.o1
 rw[om,if_neg S,if_neg S,if_neg S] at U
 refine sH e8 i6 IH W ?_
 intro az aF
 conv=>whnf
 exact Gx
theorem Ri{k:aI}{a1:Int}{gs:List cz}{g:cg}{op:dp}(h:bc H k (aq.start gs) ⟨false,g.A,g.n,g.c⟩)(U:jn H w0 X M K (om k gs op)):a4 H w0 X M 97 #[.agg k.la.l.toArray,J a1,.slice g.A g.n g.c,.agg op.l.toArray,.slice k.bK k.aM k.bD] K Z:=by
 by_cases ab:op.o0<8\/10<op.o0\/op.o1<0\/k.la.bt<=op.o1
 ·exact ac5 h ab U
 ·rcases(show op.o0=8\/op.o0=9\/op.o0=10 by omega) with cT|cT|cT
  ·exact ac2 h S S cT U
  ·exact ac3 h S S cT U
  ·exact ac4 h S S cT U
end
end Go.Proofs.YtcflcebplhdcpaaGreat
