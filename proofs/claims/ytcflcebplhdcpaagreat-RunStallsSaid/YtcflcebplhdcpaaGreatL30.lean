/- Lemmas, part 30; each states its own conditions. -/
import Derived.Test.YtcflcebplhdcpaaGreatL28
import Derived.Test.YtcflcebplhdcpaaGreatL29
namespace Go.Proofs.YtcflcebplhdcpaaGreat
open Go.RowKit
set_option linter.unusedSimpArgs false
set_option linter.unusedVariables false
set_option maxRecDepth 100000
set_option maxHeartbeats 16000000
variable{H w0:World}{X:Nat->Prop}{M:aw}{K:Value->an->Prop}{Z:bF}
theorem Gu {P:Prop} (h:P:=by
 repeat'((first
  |(show ay _ _ _ _ _ _;first|(refine fC.mK av (fun w s' e ak ad aZ=>?_) (fun a s' e ak=>?_))|(refine fC.u3 av (fun r s' e ak ad aZ=>?_) (fun a s' e ak=>?_))|(refine fC.qu av (fun r s' e ak ad aZ=>?_) (fun a s' e ak=>?_))|(refine fC.rM av (fun v ah=>?_);subst ah)|(refine tJ ?_)|(refine Gp (r:=fq _) ?_)|(refine uW (r:=rZ (fq _) _) ?_)|(refine fC.E1 (.inl rfl) av (fun w s' e ak ad aZ=>?_) (fun a s' e ak=>?_))|(refine fC.mK av (fun b s' e ak ad aZ=>?_) (fun a s' e ak=>?_))|(refine fC.tA av (fun v ah=>?_);subst ah)|(refine ar9 av (fun c s' e ak ad aZ=>?_) (fun a s' e ak=>?_))|(refine alm av (fun c s' e ak ad aZ=>?_) (fun a s' e ak=>?_))|(refine fC.HB av (fun c s' e ak ad aZ=>?_) (fun a s' e ak=>?_))|(refine ami ?_)|(refine amh ?_)|(refine ar8 av (fun t s' e ak ad aZ=>?_) (fun a s' e ak=>?_))|(refine fC.qu av (fun c s' e ak ad aZ=>?_) (fun a s' e ak=>?_))|(refine fC.yF av (fun s' e ak ad aZ=>?_) (fun a s' e ak=>?_))|(refine fC.F4 av (fun s' bH e ak ad=>?_) (fun a s' bH e ak=>?_)))
  |(show bk _ _ _ _;first|(refine alA ?_))
  |(exact hD (cl _ _ _ (by rw[<-dF];simp only[Bm,gy,cB,ax.cx,ax.dq,dm,cZ,dH, *]) av))
  |(exact cA (aC ⟨_,_,_,_⟩ _ _ (by rw[<-dF];simp only[Bm,gy,cB,ax.cx,ax.dq,dm,cZ,dH, *]<;>rfl) av S))
  |(exact cC (X:=aq) s' S ⟨by assumption,by omega,by simp only[*],by rw[<-dF];simp only[Bm,gy,cB,ax.cx,ax.dq,dm,cZ,dH, *]⟩ ⟨rfl,rfl,rfl,rfl,rfl,trivial⟩ ⟨rfl,rfl,trivial⟩)
  |(exact hD (cl _ _ (by rw[<-dF];simp only[Bo,gy,cB,ax.cx,ax.dq,dm,cZ,dH, *]) av))
  |(exact cA (aC ⟨_,_,_,_⟩ _ (by rw[<-dF];simp only[Bo,gy,cB,ax.cx,ax.dq,dm,cZ,dH, *]<;>rfl) av S (by simp only[*])))
  |(exact cC (X:=aq) s' S ⟨by assumption,by omega,by simp only[*],by rw[<-dF];simp only[Bo,gy,cB,ax.cx,dm,cZ,dH, *]⟩ ⟨rfl,rfl,rfl,rfl,rfl,rfl,trivial⟩ ⟨rfl,trivial⟩)
  |(exact hD (cl _ _ (by simp only[BC,ax.cx,ax.dq,dm,cZ,dH, *]) av))
  |(exact cA (aC (_,_,_) _ (by simp only[BC,ax.cx,ax.dq,dm,cZ,dH, *]) av S (by simp only[*])))
  |(refine c9.vd ?_)
  |(exact hD (cl _ _ (by simp only[A7,ax.cx,ax.dq,dm,cZ,dH, *]) av))
  |(exact cA (aC _ _ (by simp only[A7,ax.cx,ax.dq,dm,cZ,dH, *]) av S (by simp only[*])))
  |(exact hD (cl _ _ (by simp only[BD,ax.cx,ax.dq,dm,cZ,dH, *]) av))
  |(exact cA (aC _ _ (by simp only[BD,ax.cx,ax.dq,dm,cZ,dH, *]) av S (by simp only[*])))
  |refine eg ?_
  |(refine eh ?_ ?_<;>(try with_reducible intro ab)<;>(try(exfalso;omega)))
  |with_reducible intro r)<;>(try conv=>whnf))):P:=h
structure cI where
 val:Int
 eG:Bool
 err:Int
 c0:Int
def cI.l(o:cI):List Value:=[J o.val,.bool o.eG,J o.err,J o.c0,.slice none 0 0]
def BD(k:aI)(top n:Int)(s:aq):ax Bool:=(gF k top s).and fun w s1=>(jl k (eL k.la n 0) (fq w).idx s1).and fun _ aV=>ld k top w (jB (rZ (fq w) n)) aV
theorem aeu{k:aI}{top n:Int}{s:aq}:dx k s (BD k top n s):=dx.load.nq fun _ _ _=>di.and dx.store.ee fun _ _ _=>dx.ik.ee
def A7(k:aI)(slot gl p2:Int)(s:aq):ax Bool:=(gF k slot s).and fun v s1=>if v=gl then(gF k slot s1).and fun BF aV=>if BF=gl then(ld k slot gl p2 aV).and fun c bu=> .ok (!c) bu else .ok true aV else .ok true s1
theorem akc{k:aI}{slot gl p2:Int}{s:aq}:di k s (A7 k slot gl p2 s):=dx.load.ee.and fun _ _ _=>by
 split
 ·refine dx.load.ee.and fun _ _ _=>?_
  split
  ·exact di.and dx.ik.ee fun _ _ _=>di.ok rfl
  ·exact di.ok rfl
 ·exact di.ok rfl
def BC(k:aI)(top:Int)(s:aq):ax (Int×Int×Int):=(qy k 0 top s).and fun w s1=>if(fq w.1).idx=0 then .ok (0,w.2,0) s1 else
 (gF k (eL k.la (fq w.1).idx 0) s1).and fun below aV=>(ld k top w.1 (jB (rZ (fq w.1) below)) aV).and fun c bu=>
 if c=true then .ok ((fq w.1).idx,(bu.made:Int)-1,2) bu else .ok (0,(bu.made:Int)-1,1) bu
theorem aet{k:aI}{top:Int}{s:aq}:dx k s (BC k top s):=(m1 Az).nq fun _ _ _=>by
 split
 ·exact di.ok rfl
 ·exact di.and dx.load.ee fun _ _ _=>di.and dx.ik.ee fun _ _ _=>by
   split
   ·exact di.ok rfl
   ·exact di.ok rfl
def Bo(k:aI)(top slot n v:Int)(_:Unit)(s:aq):ax (cI ⊕ Unit):=(BD k top n s).and fun c s1=>if c=true then .ok (.inl ⟨0,true,0,(s1.made:Int)-1⟩) s1 else
 (gF k slot s1).and fun w aV=>if N8 w=0 then
  (ld k slot w (Dq v 1 (cB (Dp w+1))) aV).and fun c bu=>if c=true then
   (A7 k slot (Dq v 1 (cB (Dp w+1))) (Dq 0 0 (cB (Dp w+1))) bu).and fun m cw=>if m=true then
    (jl k slot (Dq 0 0 (cB (Dp w+1))) cw).and fun _ fF=>(tm k n fF).and fun _ fS=> .ok (.inl ⟨0,true,0,cB (cB (-((bu.made:Int)-1))-2)⟩) fS
   else .ok (.inr ()) cw
  else .ok (.inr ()) bu
 else .ok (.inr ()) aV
theorem RU{k:aI}{top slot n v:Int}(x:Unit)(s:aq):dx k s (Bo k top slot n v x s):=aeu.nq fun _ _ _=>by
 split
 ·exact di.ok rfl
 ·refine dx.load.ee.and fun _ _ _=>?_
  split
  ·refine dx.ik.ee.and fun _ _ _=>?_
   split
   ·refine akc.and fun _ _ _=>?_
    split
    ·exact dx.store.ee.and fun _ _ _=>(m1 CG).ee.and fun _ _ _=>di.ok rfl
    ·exact di.ok rfl
   ·exact di.ok rfl
  ·exact di.ok rfl
def Dx(k:aI)(top slot n v:Int)(s:aq):ax cI:=gQ k (Bo k top slot n v) () s
theorem anK{k:aI}{top slot n v:Int}{s:aq}(h:s.made<=k.log.length):Dx k top slot n v s=(Bo k top slot n v () s).and (gy fun _=>Dx k top slot n v):=vZ RU h
def rP(k:aI)(top slot v:Int)(s:aq):ax cI:=(u7 k s).and fun t s1=>if t.2.2=true then(jl k (eL k.la t.1 1) v s1).and fun _ aV=>Dx k top slot t.1 v aV else .ok ⟨0,false,8,t.2.1⟩ s1
def Bm(k:aI)(top slot:Int)(_:Unit)(s:aq):ax (cI ⊕ Unit):=(BC k top s).and fun t s1=>
 if t.2.2=0 then(lf k s1).and fun _ aV=> .ok (.inl ⟨0,false,0,t.2.1⟩) aV else
 if t.2.2=2 then(gF k (eL k.la t.1 1) s1).and fun v aV=>(lf k aV).and fun _ bu=>(tP k t.1 bu).and fun _ cw=> .ok (.inl ⟨v,true,0,t.2.1⟩) cw else
 (gF k slot s1).and fun w aV=>if N8 w=1 then(ld k slot w (Dq (N9 w) 2 (Dp w)) aV).and fun c bu=>if c=true then(lf k bu).and fun _ cw=> .ok (.inl ⟨N9 w,true,0,(bu.made:Int)-1⟩) cw else .ok (.inr ()) bu else .ok (.inr ()) aV
theorem RT{k:aI}{top slot:Int}(x:Unit)(s:aq):dx k s (Bm k top slot x s):=aet.nq fun _ _ _=>by
 split
 ·exact kd.and fun _ _ _=>di.ok rfl
 ·split
  ·exact dx.load.ee.and fun _ _ _=>kd.and fun _ _ _=>CH.ee.and fun _ _ _=>di.ok rfl
  ·refine dx.load.ee.and fun _ _ _=>?_
   split
   ·refine dx.ik.ee.and fun _ _ _=>?_
    split
    ·exact kd.and fun _ _ _=>di.ok rfl
    ·exact di.ok rfl
   ·exact di.ok rfl
def sO(k:aI)(top slot:Int)(s:aq):ax cI:=gQ k (Bm k top slot) () s
theorem ano{k:aI}{top slot:Int}{s:aq}(h:s.made<=k.log.length):sO k top slot s=(Bm k top slot () s).and (gy fun _=>sO k top slot):=vZ RT h
section
theorem ba.Uy{b:Bool}{A B:Prop}(O:b=false->A)(V:b=true->B):ba (!b) A B:=ba.intro (fun h=>O (by simpa using h)) (fun h=>V (by simpa using h))
theorem alA{P:Program}{C:an}{x:Int}(h:K (J (IntKind.i64.wrap (-x))) C):bk P C (Op.unary .neg (J x)) K:=by
 refine nc (fun w=>?_) h
 simp[Op.unary,Op.intArith]
theorem ar9{k:aI}{s:aq}{g:cg}{p bx a0:Nat}{top n:Int}(h:bc H k s g)(aC:∀r s',BD k top n s= .ok r s'->bc H k s' g->s.made<s'.made->s'.gone=s.gone->K (.bool r) (Y H w0 X (fC.ca k s' g p bx a0 M)))(cl:∀a s',BD k top n s= .ask a->bc H k s' g->Z (fC.g4 a) (Y H w0 X (fC.ca k s' g p bx a0 M))):a4 H w0 X (fC.ca k s g p bx a0 M) 311 #[ae p,J top,J n] K Z:=by
 refine a7 aiU ?_
 intro az aF
 conv=>whnf
 exact Gu
theorem alm{k:aI}{s:aq}{g:cg}{p bx a0:Nat}{slot gl p2:Int}(h:bc H k s g)(aC:∀r s',A7 k slot gl p2 s= .ok r s'->bc H k s' g->s.made<s'.made->s'.gone=s.gone->K (.bool r) (Y H w0 X (fC.ca k s' g p bx a0 M)))(cl:∀a s',A7 k slot gl p2 s= .ask a->bc H k s' g->Z (fC.g4 a) (Y H w0 X (fC.ca k s' g p bx a0 M))):a4 H w0 X (fC.ca k s g p bx a0 M) 317 #[ae p,J slot,J gl,J p2] K Z:=by
 refine a7 ai0 ?_
 intro az aF
 conv=>whnf
 exact Gu
theorem ar8{k:aI}{s:aq}{g:cg}{p bx a0:Nat}{top:Int}(h:bc H k s g)(aC:∀r s',BC k top s= .ok r s'->bc H k s' g->s.made<s'.made->s'.gone=s.gone->K (.tuple #[J r.1,J r.2.1,J r.2.2]) (Y H w0 X (fC.ca k s' g p bx a0 M)))(cl:∀a s',BC k top s= .ask a->bc H k s' g->Z (fC.g4 a) (Y H w0 X (fC.ca k s' g p bx a0 M))):a4 H w0 X (fC.ca k s g p bx a0 M) 319 #[ae p,J top] K Z:=by
 refine a7 ai2 ?_
 intro az aF
 conv=>whnf
 exact Gu
theorem anJ{k:aI}{s:aq}{g:cg}{p bx a0:Nat}{top slot v:Int}(h:bc H k s g)(aC:∀o s',rP k top slot v s= .ok o s'->bc H k s' g->s.made<s'.made->s'.gone=s.gone->K (.agg o.l.toArray) (Y H w0 X (fC.ca k s' g p bx a0 M)))(cl:∀a s',rP k top slot v s= .ask a->bc H k s' g->Z (fC.g4 a) (Y H w0 X (fC.ca k s' g p bx a0 M))):a4 H w0 X (fC.ca k s g p bx a0 M) 270 #[ae p,J top,J slot,J v] K Z:=by
 refine a7 aiz ?_
 intro az aF
 conv=>whnf
 repeat'((first
  |(show ay _ _ _ _ _ _;first|(refine fC.Pq av (fun n6 s1 e1 O mJ rz=>?_) (fun a s' e ak=>?_))|(refine fC.u3 O (fun r aV e2 V nW kF=>?_) (fun a s' e ak=>?_))|(refine fC.rM av (fun v ah=>?_);subst ah))
  |(exact hD (cl _ _ (by simp only[rP,ax.cx,ax.dq,dm,cZ,dH, *]) av))
  |(exact cA (aC ⟨_,_,_,_⟩ _ (by simp only[rP,ax.cx,dH,cZ, *]) av S (by simp only[*])))
  |refine jJ ?_
  |(refine iK ?_ ?_<;>(try with_reducible intro ab)<;>(try(exfalso;omega)))
  |with_reducible intro r)<;>(try conv=>whnf))
 have Ig:rP k top slot v s=Dx k top slot n6.1 v aV:=by simp only[rP,ax.cx,dm, *]
 rw[Ig] at aC cl
 refine c9.on (X:=aq) (fun x=> [(0,.v (ae p)),(1,.v (J top)),(2,.v (J slot)),(3,.v (J v)),(9,.v (J n6.1)),(8,.p 8 0)]) (fun _=> [(8,145,[J 0,.bool false,J 0,J 0,.slice none 0 0])]) (fun x=>Y H az aF (fC.ca k x g p bx a0 M)) (fun x=>bc H k x g/\aV.made<=x.made/\x.gone=aV.gone/\Dx k top slot n6.1 v x=Dx k top slot n6.1 v aV) (fun x=>k.log.length+1-x.made) aV ⟨by assumption,Nat.le_refl _,rfl,rfl⟩ ⟨rfl,rfl,rfl,rfl,rfl,rfl,trivial⟩ ⟨rfl,trivial⟩ ?_
 rintro x iC ⟨aW,pX,o7,dF⟩
 have lM:=aW.made
 rw[anK lM] at dF
 conv=>whnf
 exact Gu
theorem ann{k:aI}{s:aq}{g:cg}{p bx a0:Nat}{top slot:Int}(h:bc H k s g)(aC:∀o s' bH,sO k top slot s= .ok o s'->bc H k s' bH->s.made<s'.made->K (.agg (cI.l o).toArray) (Y H w0 X (fC.ca k s' bH p bx a0 M)))(cl:∀a s' bH,sO k top slot s= .ask a->bc H k s' bH->Z (fC.g4 a) (Y H w0 X (fC.ca k s' bH p bx a0 M))):a4 H w0 X (fC.ca k s g p bx a0 M) 272 #[ae p,J top,J slot] K Z:=by
 refine ahu e8 i6 apl W ?_
 intro az aF
 conv=>whnf
 refine c9.on (X:=aq) (fun x=> [(0,.v (ae p)),(1,.v (J top)),(2,.v (J slot)),(6,.p 6 0),(7,.p 7 0)]) (fun _=> [(6,145,[J 0,.bool false,J 0,J 0,.slice none 0 0]),(7,145,[J 0,.bool false,J 0,J 0,.slice none 0 0])]) (fun x=>Y H az aF (fC.ca k x g p bx a0 M)) (fun x=>bc H k x g/\s.made<=x.made/\x.gone=s.gone/\sO k top slot x=sO k top slot s) (fun x=>k.log.length+1-x.made) s ⟨by assumption,Nat.le_refl _,rfl,rfl⟩ ⟨rfl,rfl,rfl,rfl,rfl,trivial⟩ ⟨rfl,rfl,trivial⟩ ?_
 rintro x iC ⟨aW,pX,o7,dF⟩
 have lM:=aW.made
 rw[ano lM] at dF
 conv=>whnf
 have rs:¬((2:Int)=0):=by decide
 exact Gu
end
inductive e9 where
 |ask (a:c4)
 |done (o:cI) (gone:List cz)
def e9.of:ax cI->e9
 | .ok o s=> .done o s.gone
 | .ask a=> .ask a
def m9(gone:List cz):e9:= .done ⟨0,false,1, -1⟩ gone
def aq.start(gone:List cz):aq:=⟨0,0,0,0,gone⟩
theorem aJ.JK{a b c d:Value×aY}(L M:aw):aJ (a::b::c::d::(L++M)) (L++(a::b::c::d::M)):=aJ.perm (by
 have h:([a,b,c,d]++(L++M)).Perm (L++([a,b,c,d]++M)):=by
  rw[<-ob,<-ob]
  exact GN M yj
 exact h)
theorem aJ.Pl{a b c d:Value×aY}(L M:aw):aJ (L++(a::b::c::d::M)) (a::b::c::d::(L++M)):=aJ.perm (by
 have h:(L++([a,b,c,d]++M)).Perm ([a,b,c,d]++(L++M)):=by
  rw[<-ob,<-ob]
  exact GN M yj
 exact h)
theorem s4.more{H:World}{M aE:aw}{A:Option Addr}{n c:Nat}{gs:List cz}(h:s4 H M A n c gs)(ar:List.Sublist M aE):s4 H aE A n c gs:=h.imp id fun ad=>ar.subset ad
section
variable{P:Program}{C:an}{K:Value->an->Prop}{Z:bF}{o:Oper}{ao:Operand->Value}
theorem FN{x:Operand}{ate t:TypeId}{v:Value}{c2:c5}{ji:List (Nat×Option Nat)}(aU:o.op= .typeAssert x ate t true)(aW:ao x= .iface t v)(hi:e7 P t c2)(aL:c2.d= .st ji)(h:K (.tuple #[v,.bool true]) C):ff P C (execOp ao o) K Z:=by
 refine wa (fun w=>?_) h
 have O:=hi.desc
 cases e:P.underlying t with
 |none=>rw[e] at O;cases O
 |some d=>
  rw[e,aL] at O
  injection O with O
  cases d<;>try(simp[j7.of] at O;done)
  simp[execOp,aU,aW,Instr.typeAssert,run_underlying e]
theorem zA{t:TypeId}{x y:Operand}{v:Value}(b:Bool)(ah:(v= .nilIface/\b=true)\/∃t u,v= .iface t u/\b=false)(bV:(y matches .const _)=true)(aS:P.underlying t=some (.interface #[]))(h:K (.bool b) C):bk P C (do eqGuard .eql t x y v .nilIface;binOp .eql t v .nilIface) K:=by
 have e:Op.maxDepth=(Op.maxDepth-1)+1:=rfl
 refine nc (fun w=>?_) h
 rcases ah with⟨rfl,rfl⟩|⟨t,u,rfl,rfl⟩
 ·cases y<;>simp at bV
  simp[eqGuard,binOp,Op.equal];rw[e];simp[Op.equalIn,run_underlying aS]
 ·simp[eqGuard,binOp,Op.equal];rw[e];simp[Op.equalIn,run_underlying aS]
end
structure hQ where
 there:Bool
 prev:Int
 cur:Int
 next:Int
 c0:Int
def hQ.l(f:hQ):List Value:=[.bool f.there,J f.prev,J f.cur,J f.next,J f.c0]
def xJ(n:Int):Int:=jB ⟨n,false,0⟩
def T9(n:Int):Int:=jB ⟨n,true,0⟩
structure nH where
 a:Int
 b:Int
 c:Int
 f:hQ
def qL(a b c:Int)(f:hQ):hQ ⊕ Option nH:=if f.cur=0 then .inl f else .inr (some ⟨a,b,c,f⟩)
def LP(k:aI)(head:Int)(s:aq):ax (hQ ⊕ Option nH):=(qy k 0 head s).and fun w s1=> .ok (qL 0 1 2 ⟨false,head,(fq w.1).idx,0,w.2⟩) s1
def w9(k:aI)(q:nH)(r:wP)(s:aq):ax (hQ ⊕ Option nH):=(ld k q.f.prev (xJ q.f.cur) (xJ r.idx) s).and fun c s1=>
 if c=true then(tP k q.f.cur s1).and fun _ aV=> .ok (qL q.b q.a q.c {q.f with cur:=r.idx,c0:=(s1.made:Int)-1}) aV else .ok (.inr none) s1
def ti(k:aI)(o:Int)(q:nH)(w:Int×Int)(look:Int)(order:Int)(s:aq):ax (hQ ⊕ Option nH):=
 if(fq w.1).mark=true then w9 k q (fq w.1) s
 else if order<o then .ok (qL q.b q.c q.a {q.f with prev:=eL k.la q.f.cur 0,cur:=(fq w.1).idx,c0:=w.2}) s
 else if order=o then .ok (.inl {q.f with there:=true,next:=w.1,c0:=w.2}) s
 else .ok (.inl {q.f with c0:=look}) s
def vK(k:aI)(o:Int)(q:nH)(s:aq):ax (hQ ⊕ Option nH):=(qy k q.b (eL k.la q.f.cur 0) s).and fun w s1=>(gF k q.f.prev s1).and fun seen aV=>
 if seen=xJ q.f.cur then(gF k (eL k.la q.f.cur 1) aV).and fun order bu=>ti k o q w ((aV.made:Int)-1) order bu else .ok (.inr none) aV
def mY(k:aI)(head o:Int)(x:Option nH)(s:aq):ax (hQ ⊕ Option nH):=match x with
 |none=>LP k head s
 |some q=>vK k o q s
theorem RS{k:aI}{head o:Int}(x:Option nH)(s:aq):dx k s (mY k head o x s):=by
 cases x with
 |none=>exact(m1 Az).nq fun _ _ _=>di.ok rfl
 |some q=>
  refine(m1 Az).nq fun _ _ _=>dx.load.ee.and fun _ _ _=>?_
  split
  ·refine dx.load.ee.and fun _ _ _=>?_
   unfold ti
   split
   ·refine dx.ik.ee.and fun _ _ _=>?_
    split
    ·exact CH.ee.and fun _ _ _=>di.ok rfl
    ·exact di.ok rfl
   ·split
    ·exact di.ok rfl
    ·split<;>exact di.ok rfl
  ·exact di.ok rfl
def uD(k:aI)(head o:Int)(s:aq):ax hQ:=gQ k (mY k head o) none s
theorem CF{k:aI}{head o:Int}{s:aq}:dx k s (uD k head o s):=m1 RS
theorem Rv{k:aI}{head o:Int}{x:Option nH}{s:aq}(h:s.made<=k.log.length):gQ k (mY k head o) x s=(mY k head o x s).and (gy (gQ k (mY k head o))):=vZ RS h
def pN(k:aI)(head o:Int)(s:aq):ax cI:=(uD k head o s).and fun f s1=>
 if f.there=true then(gF k (eL k.la f.cur 2) s1).and fun v aV=>(lf k aV).and fun _ bu=> .ok ⟨v,true,0,f.c0⟩ bu
 else(lf k s1).and fun _ aV=> .ok ⟨0,false,0,f.c0⟩ aV
def tO(k:aI)(f:hQ)(n:Int)(s:aq):ax (cI ⊕ Int):=(jl k (eL k.la n 0) (xJ f.cur) s).and fun _ s1=>(ld k f.prev (xJ f.cur) (xJ n) s1).and fun c aV=>
 if c=true then(lf k aV).and fun _ bu=> .ok (.inl ⟨0,true,0,(aV.made:Int)-1⟩) bu else .ok (.inr n) aV
def uX(k:aI)(head o v:Int)(n:Int)(s:aq):ax (cI ⊕ Int):=(uD k head o s).and fun f s1=>
 if f.there=true then
  (if n=0 then(lf k s1).and fun _ aV=> .ok (.inl ⟨0,false,0,f.c0⟩) aV else(tm k n s1).and fun _ aV=>(lf k aV).and fun _ bu=> .ok (.inl ⟨0,false,0,f.c0⟩) bu)
 else if n=0 then(u7 k s1).and fun t aV=>if t.2.2=true then(jl k (eL k.la t.1 1) o aV).and fun _ bu=>(jl k (eL k.la t.1 2) v bu).and fun _ cw=>tO k f t.1 cw else(lf k aV).and fun _ bu=> .ok (.inl ⟨0,false,8,t.2.1⟩) bu
 else tO k f n s1
theorem RV{k:aI}{head o v:Int}(n:Int)(s:aq):dx k s (uX k head o v n s):=by
 have hC:∀f n s,di k s (tO k f n s):=fun f n s=>dx.store.ee.and fun _ _ _=>dx.ik.ee.and fun _ _ _=>by
  split
  ·exact kd.and fun _ _ _=>di.ok rfl
  ·exact di.ok rfl
 refine CF.nq fun f _ _=>?_
 split
 ·split
  ·exact kd.and fun _ _ _=>di.ok rfl
  ·exact(m1 CG).ee.and fun _ _ _=>kd.and fun _ _ _=>di.ok rfl
 ·split
  ·refine(m1 HD).ee.and fun _ _ _=>?_
   split
   ·exact dx.store.ee.and fun _ _ _=>dx.store.ee.and fun _ _ _=>hC _ _ _
   ·exact kd.and fun _ _ _=>di.ok rfl
  ·exact hC _ _ _
def sQ(k:aI)(head o v:Int)(s:aq):ax cI:=gQ k (uX k head o v) 0 s
def uB(k:aI)(head o:Int)(_:Unit)(s:aq):ax (cI ⊕ Unit):=(uD k head o s).and fun f s1=>
 if f.there=true then(ld k (eL k.la f.cur 0) f.next (T9 (fq f.next).idx) s1).and fun c aV=>
  if c=true then(ld k f.prev (xJ f.cur) (xJ (fq f.next).idx) aV).and fun bA bu=>
   if bA=true then(lf k bu).and fun _ cw=>(tP k f.cur cw).and fun _ fF=> .ok (.inl ⟨0,true,0,(aV.made:Int)-1⟩) fF
   else(uD k head o bu).and fun _ cw=>(lf k cw).and fun _ fF=> .ok (.inl ⟨0,true,0,(aV.made:Int)-1⟩) fF
  else .ok (.inr ()) aV
 else(lf k s1).and fun _ aV=> .ok (.inl ⟨0,false,0,f.c0⟩) aV
theorem RR{k:aI}{head o:Int}(x:Unit)(s:aq):dx k s (uB k head o x s):=by
 refine CF.nq fun f _ _=>?_
 split
 ·refine dx.ik.ee.and fun _ _ _=>?_
  split
  ·refine dx.ik.ee.and fun _ _ _=>?_
   split
   ·exact kd.and fun _ _ _=>CH.ee.and fun _ _ _=>di.ok rfl
   ·exact CF.ee.and fun _ _ _=>kd.and fun _ _ _=>di.ok rfl
  ·exact di.ok rfl
 ·exact kd.and fun _ _ _=>di.ok rfl
def uC(k:aI)(head o:Int)(s:aq):ax cI:=gQ k (uB k head o) () s
def aul(ca:aI->aq->cg->Nat->Nat->Nat->aw->aw)(jo:FuncId):Prop:=∀{H:World} {w0:World} {X:Nat->Prop} {M:aw} {K:Value->an->Prop} {Z:bF} {k:aI} {gs:List cz} {g:cg} (U:∀p bx a0,K (ae p) (Y H w0 X (ca k (aq.start gs) ⟨false,g.A,g.n,g.c⟩ p bx a0 M))),a4 H w0 X M jo #[.agg k.la.l.toArray,J k.a1,.slice g.A g.n g.c,.slice k.bK k.aM k.bD] K Z
theorem aw3 {P:Prop} (h:P:=by
 rename_i H w0 X M K Z k gs g
 intro U
 refine a7 (by first|exact aiC|exact ajp) ?_
 intro az aF
 conv=>whnf
 repeat'((first
  |(show ff _ _ _ _ _;first|(refine kZ W ?_))
  |(exact cd.imp (K:=K) (ca k (aq.start gs) ⟨false,g.A,g.n,g.c⟩ _ _ _ M) (aJ.perm (kO _ _ _)) (U _ _ _))
  |refine jJ ?_
  |(refine lF ?_ ?_)
  |with_reducible intro r)<;>(try conv=>whnf))):P:=h
def auB(jo:FuncId):Prop:=∀{H:World} {w0:World} {X:Nat->Prop} {M:aw} {K:Value->an->Prop} {Z:bF} {A:Option Addr} {n c:Nat} {gs:List cz} (h:s4 H M A n c gs) (aB:n=gs.length) (ad:n<=1000000000) (b3:A=none->n=0) (U:∀aR aN,n<=aN->(0<aN->∃b,aR=some ⟨b,0,none⟩)->K (.tuple #[.agg #[J 0,J 0,J 0,J 0],.agg #[J 0,.bool false,J 1,J (-1),.slice aR n aN],.bool true]) (Y H w0 X ((.slice aR n aN,.row 187 2 (gs.flatMap ft))::M))),a4 H w0 X M jo #[.slice A n c] K Z
theorem axi {P:Prop} (h:P:=by
 rename_i H w0 X M K Z A n c gs
 intro h aB ad b3 U
 refine a7 (by first|exact aiB|exact ajo) ?_
 intro az aF
 conv=>whnf
 repeat'((first
  |(show ay _ _ _ _ _ _;first|(refine uy h aB ad b3 (fun br bz dS ep=>?_)))
  |(exact cA (U _ _ dS ep))
  |refine jJ ?_
  |(refine lF ?_ ?_)
  |with_reducible intro r)<;>(try conv=>whnf))):P:=h
def Qt(g4:c4->List PanicEntry)(Bl:Nat->Nat->Nat->Nat->Deferred)(wb:Nat->Nat->Nat->Nat->Nat->List Value->aw->aw)(jo:TypeId):Prop:=∀{H:World} {w0:World} {X:Nat->Prop} {M:aw} {a:c4} {df cU cj el p:Nat} {K:FrameMode->an->Prop} (U:K (.panicking [{v:= .iface jo (.agg a.l.toArray),recovered:=true}]) (Y H w0 X (wb df cU cj el p a.l M))),h0 Tryz.prog (Y H w0 X (wb df cU cj el p [J 0,J 0,J 0,J 0] M)) (Bl df cU cj el) (.panicking (g4 a)) K
theorem U1 {P:Prop} (h:P:=by
 rename_i H w0 X M a df cU cj el p K
 intro U
 refine yI e8 i6 (by first|exact Ty|exact Tz) (by first|exact VE|exact VF) W bP (args:=[ae df,ae cU,ae cj,ae el]) W rfl rfl ?_
 intro az aF
 conv=>whnf
 refine zA false (.inr ⟨_,_,rfl,rfl⟩) rfl bP ?_
 conv=>whnf
 repeat'((first
  |(show ff _ _ _ _ _;first|(refine FN W W aD W ?_))
  |(exact hy.drop _ (List.Sublist.refl _) U)
  |refine jJ ?_
  |(refine lF ?_ ?_)
  |with_reducible intro r)<;>(try conv=>whnf))):P:=h
def auA(Bl:Nat->Nat->Nat->Nat->Deferred):Prop:=∀{H:World} {w0:World} {X:Nat->Prop} {M:aw} {df cU cj el:Nat} {K:FrameMode->an->Prop} (U:K .returning (Y H w0 X M)),h0 Tryz.prog (Y H w0 X M) (Bl df cU cj el) .returning K
theorem axh {P:Prop} (h:P:=by
 rename_i H w0 X M df cU cj el K
 intro U
 refine yI e8 i6 (by first|exact Ty|exact Tz) (by first|exact VE|exact VF) W bP (args:=[ae df,ae cU,ae cj,ae el]) W rfl rfl ?_
 intro az aF
 conv=>whnf
 refine zA true (.inl ⟨rfl,rfl⟩) rfl bP ?_
 conv=>whnf
 exact hy.drop _ (List.Sublist.refl _) U):P:=h
def auz(g4:c4->List PanicEntry)(ca:aI->aq->cg->Nat->Nat->Nat->aw->aw)(jo:FuncId):Prop:=∀{H:World} {w0:World} {X:Nat->Prop} {K:Value->an->Prop} {Z:bF} {k:aI} {s:aq} {g:cg} {p bx a0:Nat} {R:ax cI} {nS:FuncId} {kl:List Value} {σ:Type} (rf:σ->aw) (x0:σ) (h:bc H k s g) (bh:∀(w0:World) (X:Nat->Prop) (L:aw) (K:Value->an->Prop) (Z:bF),(∀o s' bH x,R= .ok o s'->bc H k s' bH->K (.agg (cI.l o).toArray) (Y H w0 X (ca k s' bH p bx a0 (L++rf x))))->(∀a s' bH x,R= .ask a->bc H k s' bH->Z (g4 a) (Y H w0 X (ca k s' bH p bx a0 (L++rf x))))->a4 H w0 X (ca k s g p bx a0 (L++rf x0)) nS kl.toArray K Z) (aC:∀o gs aR aN x,e9.of R= .done o gs->gs.length<=aN->(0<aN->∃b,aR=some ⟨b,0,none⟩)->K (.tuple #[.agg #[J 0,J 0,J 0,J 0],.agg #[J o.val,.bool o.eG,J o.err,J o.c0,.slice aR gs.length aN],.bool true]) (Y H w0 X ((.slice aR gs.length aN,.row 187 2 (gs.flatMap ft))::rf x))) (cl:∀a x,e9.of R= .ask a->K (.tuple #[.agg a.l.toArray,.agg #[J 0,.bool false,J 0,J 0,.slice none 0 0],.bool false]) (Y H w0 X (rf x))),a4 H w0 X (ca k s g p bx a0 (rf x0)) jo #[ae p,.func (.func nS) #[] kl.toArray] K Z
theorem axg {P:Prop} (h:P:=by
 rename_i H w0 X K Z k s g p bx a0 R nS kl σ
 intro rf x0 h bh aC cl
 refine sH e8 i6 (by first|exact aiF|exact ajq) W ?_
 intro az aF
 conv=>whnf
 refine h2 _ rfl (fun cU=>?_)
 conv=>whnf
 refine hT aD _ rfl (fun df=>?_)
 conv=>whnf
 refine hT aD _ rfl (fun cj=>?_)
 conv=>whnf
 refine hT aD _ rfl (fun el=>?_)
 conv=>whnf
 refine kZ W ?_
 conv=>whnf
 rw[mI]
 conv=>whnf
 refine ay.imp (aE:=ca k s g p bx a0 (wb df cU cj el p [J 0,J 0,J 0,J 0] (rf x0))) (aJ.JK (_::_::_::eY g s) (rf x0)) (bh _ _ (wb df cU cj el p [J 0,J 0,J 0,J 0] []) _ _ (fun o s' bH x e ak=>?_) (fun a s' bH x e ak=>?_))
 ·conv=>whnf
  refine eB.imp (aE:=wb df cU cj el p [J 0,J 0,J 0,J 0] (ca k s' bH p bx a0 (rf x))) (aJ.Pl (_::_::_::eY bH s') (rf x)) (st ?_)
  conv=>whnf
  have kp:bH.n<=1000000000:=by have:=ak.fh;have:=ak.pO;have:=ak.made;have:=ak.lm;omega
  repeat'((first
   |(show ay _ _ _ _ _ _;first|(refine uy ((WC ak).more (.cons _ (.cons _ (.cons _ (.cons _ (.refl _)))))) ak.fh kp ak.pP (fun br bz dS ep=>?_)))
   |(show h0 _ _ _ _ _;first|(refine axy ?_))
   |(refine p9 b7 aD W ?_)
   |(refine sR b7 aD W W ?_)
   |refine jJ ?_
   |(refine lF ?_ ?_)
   |with_reducible intro r)<;>(try conv=>whnf))
  all_goals
   have U:=aC o s'.gone br bz x (by rw[e];rfl) (by rw[<-ak.fh];exact dS) ep
   rw[<-ak.fh] at U
   exact c1 U (.cons_cons _ (.cons _ (.cons _ (.cons _ (.cons _ (.cons _ (.cons _ (.cons _ (od _ _)))))))))
 ·conv=>whnf
  refine h0.imp (aE:=wb df cU cj el p [J 0,J 0,J 0,J 0] (rf x)) (aJ.sub (od (_::_::_::eY bH s') _)) (VK ?_)
  conv=>whnf
  repeat'((first
   |(refine p9 b7 aD W ?_)
   |(refine sR b7 aD W W ?_)
   |(exact c1 (cl a x (by rw[e];rfl)) (.cons _ (.cons _ (.cons _ (.cons _ (.refl _))))))
   |refine jJ ?_
   |(refine lF ?_ ?_)
   |with_reducible intro r)<;>(try conv=>whnf))):P:=h
namespace eQ
theorem abx:aul ca 274:=aw3
theorem aoO:auB 273:=axi
abbrev Bl(df cU cj el:Nat):Deferred:={target:= .fn (.func 336) #[ae df,ae cU,ae cj,ae el],args:=#[]}
def wb(df cU cj el p:Nat)(acc:List Value)(M:aw):aw:=(ae el,.cs 4 [.bool false])::(ae cj,.cs 145 [J 0,.bool false,J 0,J 0,.slice none 0 0])::(ae df,.cs 136 acc)::(ae cU,.cs 309 [ae p])::M
theorem VK:Qt g4 Bl wb 337:=U1
theorem axy:auA Bl:=axh
theorem Jf:auz g4 ca 277:=axg
end eQ
namespace dV
theorem abx:aul ca 345:=aw3
theorem aoO:auB 344:=axi
abbrev Bl(df cU cj el:Nat):Deferred:={target:= .fn (.func 365) #[ae df,ae cU,ae cj,ae el],args:=#[]}
def wb(df cU cj el p:Nat)(acc:List Value)(M:aw):aw:=(ae el,.cs 4 [.bool false])::(ae cj,.cs 145 [J 0,.bool false,J 0,J 0,.slice none 0 0])::(ae df,.cs 136 acc)::(ae cU,.cs 345 [ae p])::M
theorem VK:Qt g4 Bl wb 359:=U1
theorem axy:auA Bl:=axh
theorem Jf:auz g4 ca 346:=axg
end dV
theorem asY {P:Prop} (h:P:=by
 repeat'((first
  |(show ay _ _ _ _ _ _;first|(refine eQ.u3 aW (fun r s' e ak ad aZ=>?_) (fun a s' e ak=>?_))|(refine eQ.rM av (fun v ah=>?_);subst ah))
  |(exact hD (cl _ _ (by rw[<-dF];simp only[w8,cB,ax.cx,ax.dq, *]) av))
  |(exact cC (X:=Nat×aq) (i+1,s') (by show 4-(i+1)<4-i;omega) ⟨by show i+1<=4;omega,ak,by show aV.made<=s'.made;omega,by show s'.gone=_;rw[aZ,o7],by rw[<-dF];simp only[w8,cB,ax.cx, *]⟩ ⟨rfl,rfl,eD S,trivial⟩ trivial)
  |refine eg ?_
  |(refine eh ?_ ?_)
  |with_reducible intro r)<;>(try conv=>whnf))):P:=h
def w8(k:aI)(n:Int):Nat->Nat->aq->ax Unit
 |0,_,s=> .ok () s
 |m+1,i,s=>(jl k (eL k.la n (cB (2+(i:Int)))) 0 s).and fun _ s'=>w8 k n m (i+1) s'
def yO(k:aI)(n v:Int)(s:aq):ax Unit:=(jl k (eL k.la n 0) 0 s).and fun _ s1=>(jl k (eL k.la n 1) (cB (v+2)) s1).and fun _ aV=>w8 k n 4 0 aV
theorem TC{k:aI}{n:Int}:∀(m i:Nat) (s:aq),di k s (w8 k n m i s)
 |0,_,s=>di.ok rfl
 |m+1,i,s=>dx.store.ee.and fun _ _ _=>TC m _ _
theorem aes{k:aI}{n v:Int}{s:aq}:dx k s (yO k n v s):=dx.store.nq fun _ _ _=>dx.store.ee.and fun _ _ _=>TC _ _ _
def rS(k:aI)(idx v:Int):Nat->Nat->aq->ax (Option Int)
 |0,_,s=> .ok none s
 |m+1,i,s=>(gF k (eL k.la idx (cB (1+(i:Int)))) s).and fun x s1=>if x=0 then
   (ld k (eL k.la idx (cB (1+(i:Int)))) 0 (cB (v+2)) s1).and fun c aV=>if c=true then .ok (some ((aV.made:Int)-1)) aV else rS k idx v m (i+1) aV
  else rS k idx v m (i+1) s1
theorem Nz{k:aI}{idx v:Int}:∀(m i:Nat) (s:aq),di k s (rS k idx v m i s)
 |0,_,s=>di.ok rfl
 |m+1,i,s=>dx.load.ee.and fun x _ _=>by
  split
  ·refine dx.ik.ee.and fun _ _ _=>?_
   split
   ·exact di.ok rfl
   ·exact Nz m _ _
  ·exact Nz m _ _
def wo(k:aI)(tail v:Int)(w:Int)(gl:Int)(s:aq):ax (cI ⊕ Int):=
 (ld k (eL k.la (fq w).idx 0) 0 gl s).and fun c s1=>if c=true then
  (ld k tail w (jB (rZ (fq w) gl)) s1).and fun _ aV=>(lf k aV).and fun _ bu=> .ok (.inl ⟨0,true,0,(s1.made:Int)-1⟩) bu
 else .ok (.inr gl) s1
def xV(k:aI)(tail v:Int)(gl w:Int)(s:aq):ax (cI ⊕ Int):=
 (gF k (eL k.la (fq w).idx 0) s).and fun ej s1=>if ej=0 then
  (if gl=0 then(u7 k s1).and fun t aV=>if t.2.2=true then(yO k t.1 v aV).and fun _ bu=>wo k tail v w t.1 bu else(lf k aV).and fun _ bu=> .ok (.inl ⟨0,false,8,t.2.1⟩) bu
  else wo k tail v w gl s1)
 else(ld k tail w (jB (rZ (fq w) ej)) s1).and fun _ aV=> .ok (.inr gl) aV
def xU(k:aI)(gl at_:Int)(s:aq):ax (cI ⊕ Int):=if gl=0 then(lf k s).and fun _ s1=> .ok (.inl ⟨0,true,0,at_⟩) s1 else(tm k gl s).and fun _ s1=>(lf k s1).and fun _ aV=> .ok (.inl ⟨0,true,0,at_⟩) aV
def u1(k:aI)(tail v gl w:Int)(r:Option Int)(s:aq):ax (cI ⊕ Int):=match r with
 |some at_=>xU k gl at_ s
 |none=>xV k tail v gl w s
def qb(k:aI)(tail v:Int)(gl:Int)(s:aq):ax (cI ⊕ Int):=(qy k 0 tail s).and fun w s1=>(rS k (fq w.1).idx v 5 0 s1).and (u1 k tail v gl w.1)
theorem RX{k:aI}{tail v:Int}(gl:Int)(s:aq):dx k s (qb k tail v gl s):=(m1 Az).nq fun w _ _=>(Nz _ _ _).and fun r _ _=>by
 cases r with
 |some a=>
  simp only[u1,xU]
  split
  ·exact kd.and fun _ _ _=>di.ok rfl
  ·exact(m1 CG).ee.and fun _ _ _=>kd.and fun _ _ _=>di.ok rfl
 |none=>
  have hC:∀m s,di k s (wo k tail v w.1 m s):=fun m s=>dx.ik.ee.and fun _ _ _=>by
   split
   ·exact dx.ik.ee.and fun _ _ _=>kd.and fun _ _ _=>di.ok rfl
   ·exact di.ok rfl
  simp only[u1,xV]
  refine dx.load.ee.and fun _ _ _=>?_
  split
  ·split
   ·refine(m1 HD).ee.and fun _ _ _=>?_
    split
    ·exact aes.ee.and fun _ _ _=>hC _ _
    ·exact kd.and fun _ _ _=>di.ok rfl
   ·exact hC _ _
  ·exact dx.ik.ee.and fun _ _ _=>di.ok rfl
section
theorem adU{k:aI}{s:aq}{g:cg}{p bx a0:Nat}{n v:Int}(h:bc H k s g)(aC:∀u s',yO k n v s= .ok u s'->bc H k s' g->s.made<s'.made->s'.gone=s.gone->K (.tuple #[]) (Y H w0 X (eQ.ca k s' g p bx a0 M)))(cl:∀a s',yO k n v s= .ask a->bc H k s' g->Z (eQ.g4 a) (Y H w0 X (eQ.ca k s' g p bx a0 M))):a4 H w0 X (eQ.ca k s g p bx a0 M) 333 #[ae p,J n,J v] K Z:=by
 refine a7 ajg ?_
 intro az aF
 conv=>whnf
 repeat'((first
  |(show ay _ _ _ _ _ _;first|(refine eQ.u3 h (fun r s1 e1 O mJ rz=>?_) (fun a s' e ak=>?_))|(refine eQ.u3 O (fun r aV e2 V nW kF=>?_) (fun a s' e ak=>?_))|(refine eQ.rM av (fun v ah=>?_);subst ah))
  |(exact hD (cl _ _ (by simp only[yO,cB,ax.cx,ax.dq, *]) av))
  |refine jJ ?_
  |(refine lF ?_ ?_)
  |with_reducible intro r)<;>(try conv=>whnf))
 have aK:yO k n v s=w8 k n 4 0 aV:=by simp only[yO,cB,ax.cx, *]
 rw[aK] at aC cl
 refine c9.on (X:=Nat×aq) (fun x=> [(0,.v (ae p)),(1,.v (J n)),(19,.v (J (x.1:Int)))]) (fun _=> []) (fun x=>Y H az aF (eQ.ca k x.2 g p bx a0 M)) (fun x=>x.1<=4/\bc H k x.2 g/\aV.made<=x.2.made/\x.2.gone=aV.gone/\w8 k n (4-x.1) x.1 x.2=w8 k n 4 0 aV) (fun x=>4-x.1) (0,aV) ⟨by omega,V,Nat.le_refl _,rfl,rfl⟩ ⟨rfl,rfl,rfl,trivial⟩ trivial ?_
 rintro⟨i,x⟩ iC ⟨hi,aW,pX,o7,dF⟩
 dsimp only at hi aW pX o7 dF
 dsimp only
 conv=>whnf
 refine ba.dec (fun ab=>?_) (fun ab=>?_)
 ·rw[show 4-i=(4-(i+1))+1 by omega] at dF
  conv=>whnf
  exact asY
 ·conv=>whnf
  obtain rfl:i=4:=by omega
  exact cA (aC () x (by rw[<-dF];rfl) aW S (by rw[o7,kF,rz]))
end
section
theorem apJ {k:aI} {s:aq} {A:Option Addr} {n c:Nat} {p bx a0 cU bO pH bm:Nat} {tail v gl:Int} (h:bc H k s ⟨false,A,n,c⟩) (hr:(ae cU,aY.cs 309 [ae p])∈M) (hc:(ae bO,aY.cs 3 [J tail])∈M) (jU:(ae pH,aY.cs 3 [J v])∈M)
  (aC:∀o s' gR,qb k tail v gl s= .ok (.inl o) s'->bc H k s' ⟨false,A,n,c⟩->s.made<s'.made->K (.tuple #[.agg (cI.l o).toArray,.bool true]) (Y H w0 X (eQ.ca k s' ⟨false,A,n,c⟩ p bx a0 ((ae bm,aY.cs 3 [J gR])::M))))
  (MG:∀gR s',qb k tail v gl s= .ok (.inr gR) s'->bc H k s' ⟨false,A,n,c⟩->s.made<s'.made->K (.tuple #[.agg (cI.l ⟨0,false,0,0⟩).toArray,.bool false]) (Y H w0 X (eQ.ca k s' ⟨false,A,n,c⟩ p bx a0 ((ae bm,aY.cs 3 [J gR])::M))))
  (cl:∀a s' gR,qb k tail v gl s= .ask a->bc H k s' ⟨false,A,n,c⟩->Z (eQ.g4 a) (Y H w0 X (eQ.ca k s' ⟨false,A,n,c⟩ p bx a0 ((ae bm,aY.cs 3 [J gR])::M)))):
  a4 H w0 X (eQ.ca k s ⟨false,A,n,c⟩ p bx a0 ((ae bm,aY.cs 3 [J gl])::M)) 323 #[ae cU,ae bO,ae pH,ae bm] K Z:=by
 refine a7 ai6 ?_
 intro az aF
 conv=>whnf
 repeat'((first
  |(show bk _ _ _ _;first|(refine fv (by repeat(first|exact hr|exact hc|exact jU|exact List.Mem.head _|refine dr _ ?_)) aD W W ?_))
  |(show ay _ _ _ _ _ _;first|(refine eQ.E1 (.inl rfl) h (fun w s1 e1 O mJ rz=>?_) (fun a s' e ak=>?_))|(refine tJ ?_))
  |(show ih _ _ _ _;first|(refine gE (by repeat(first|exact hr|exact hc|exact jU|exact List.Mem.head _|refine dr _ ?_)) aD W W ?_))
  |(exact hD (cl _ _ _ (by simp only[qb,ax.dq, *]) av))
  |refine jK ?_
  |(refine lF ?_ ?_)
  |with_reducible intro r)<;>(try conv=>whnf))
 have jw:qb k tail v gl s=(rS k (fq w.1).idx v 5 0 s1).and (u1 k tail v gl w.1):=by rw[qb,e1,ax.cx]
 generalize Mf:rS k (fq w.1).idx v 5 0 s1=Es at jw
 refine c9.on (X:=Nat×aq) (fun x=> [(0,.v (ae cU)),(1,.v (ae bO)),(2,.v (ae pH)),(3,.v (ae bm)),(4,.p 4 0),(5,.v (.bool false)),(6,.v (J w.1)),(8,.p 8 0),(25,.v (J (x.1:Int)))]) (fun _=> [(4,145,[J 0,.bool false,J 0,J 0,.slice none 0 0]),(8,261,(fq w.1).l)]) (fun x=>Y H az aF (eQ.ca k x.2 ⟨false,A,n,c⟩ p bx a0 ((ae bm,aY.cs 3 [J gl])::M))) (fun x=>x.1<=5/\bc H k x.2 ⟨false,A,n,c⟩/\s1.made<=x.2.made/\rS k (fq w.1).idx v (5-x.1) x.1 x.2=Es) (fun x=>5-x.1) (0,s1) ⟨by omega,O,Nat.le_refl _,Mf⟩ ⟨rfl,rfl,rfl,rfl,rfl,rfl,rfl,rfl,rfl,trivial⟩ ⟨rfl,rfl,trivial⟩ ?_
 rintro⟨i,x⟩ iC ⟨hi,aW,pX,dF⟩
 dsimp only at hi aW pX dF
 dsimp only
 conv=>whnf
 refine ba.dec (fun ab=>?_) (fun ab=>?_)
 ·rw[show 5-i=(5-(i+1))+1 by omega] at dF
  conv=>whnf
  repeat'((first
   |(show bk _ _ _ _;first|(refine fv (by repeat(first|exact hr|exact hc|exact jU|exact List.Mem.head _|refine dr _ ?_)) aD W W ?_))
   |(show ay _ _ _ _ _ _;first|(refine eQ.mK av (fun FA s' e ak ad aZ=>?_) (fun a s' e ak=>?_))|(refine eQ.qu av (fun dD s' e ak ad aZ=>?_) (fun a s' e ak=>?_))|(refine eQ.HB av (fun u s' e ak ad aZ=>?_) (fun a s' e ak=>?_))|(refine eQ.yF av (fun s' e ak ad aZ=>?_) (fun a s' e ak=>?_))|(refine eQ.rM av (fun v ah=>?_);subst ah)|(refine eQ.tA av (fun v ah=>?_);subst ah))
   |(show ih _ _ _ _;first|(refine gE (by repeat(first|exact hr|exact hc|exact jU|exact List.Mem.head _|refine dr _ ?_)) aD W W ?_))
   |(exact hD (cl _ _ _ (by rw[jw,<-dF];simp only[rS,u1,xU,xV,wo,cB,ax.cx,ax.dq,dm,cZ,dH, *]) av))
   |(exact cA (aC ⟨_,_,_,_⟩ _ _ (by rw[jw,<-dF];simp only[rS,u1,xU,xV,wo,cB,ax.cx,ax.dq,dm,cZ,dH, *]) av S))
   |(exact cC (X:=Nat×aq) (i+1,s') (by show 5-(i+1)<5-i;omega) ⟨by show i+1<=5;omega,by assumption,by show s1.made<=s'.made;omega,by rw[<-dF];simp only[rS,u1,xU,xV,wo,cB,ax.cx,ax.dq,dm,cZ,dH, *]⟩ ⟨rfl,rfl,rfl,rfl,rfl,rfl,rfl,rfl,eD S,trivial⟩ ⟨rfl,rfl,trivial⟩)
   |refine jK ?_
   |(refine iK ?_ ?_<;>(try with_reducible intro ab)<;>(try(exfalso;omega)))
   |with_reducible intro r)<;>(try conv=>whnf))
 conv=>whnf
 obtain rfl:i=5:=by omega
 have c3:Es= .ok none x:=dF.symm
 rw[c3,ax.cx] at jw
 repeat'((first
  |(show bk _ _ _ _;first|(refine fv (by repeat(first|exact hr|exact hc|exact jU|exact List.Mem.head _|refine dr _ ?_)) aD W W ?_))
  |(show ay _ _ _ _ _ _;first|(refine eQ.mK av (fun FA s' e ak ad aZ=>?_) (fun a s' e ak=>?_))|(refine eQ.qu av (fun dD s' e ak ad aZ=>?_) (fun a s' e ak=>?_))|(refine eQ.Pq av (fun t s' e ak ad aZ=>?_) (fun a s' e ak=>?_))|(refine adU av (fun u s' e ak ad aZ=>?_) (fun a s' e ak=>?_))|(refine eQ.yF av (fun s' e ak ad aZ=>?_) (fun a s' e ak=>?_))|(refine eQ.rM av (fun v ah=>?_);subst ah)|(refine eQ.tA av (fun v ah=>?_);subst ah)|(refine tJ ?_)|(refine Gp (r:=fq _) ?_)|(refine uW (r:=rZ (fq _) _) ?_))
  |(show ih _ _ _ _;first|(refine gE (by repeat(first|exact hr|exact hc|exact jU|exact List.Mem.head _|refine dr _ ?_)) aD W W ?_))
  |(exact hD (cl _ _ _ (by rw[jw];simp only[rS,u1,xU,xV,wo,cB,ax.cx,ax.dq,dm,cZ,dH, *]) av))
  |(exact cA (aC ⟨_,_,_,_⟩ _ _ (by rw[jw];simp only[rS,u1,xU,xV,wo,cB,ax.cx,ax.dq,dm,cZ,dH, *]) av S))
  |(exact cA (MG _ _ (by rw[jw];simp only[rS,u1,xU,xV,wo,cB,ax.cx,ax.dq,dm,cZ,dH, *]) av S))
  |refine jK ?_
  |(refine iK ?_ ?_<;>(try with_reducible intro ab)<;>(try(exfalso;omega)))
  |with_reducible intro r)<;>(try conv=>whnf))
end
def qU(k:aI)(idx:Int):Nat->Nat->aq->ax (Option cI)
 |0,_,s=> .ok none s
 |m+1,i,s=>(gF k (eL k.la idx (cB (1+(i:Int)))) s).and fun x s1=>
   if x=0 then(lf k s1).and fun _ aV=> .ok (some ⟨0,false,0,(s1.made:Int)-1⟩) aV
   else if x=1 then qU k idx m (i+1) s1
   else(ld k (eL k.la idx (cB (1+(i:Int)))) x 1 s1).and fun c aV=>if c=true then(lf k aV).and fun _ bu=> .ok (some ⟨cB (x-2),true,0,(aV.made:Int)-1⟩) bu else qU k idx m (i+1) aV
theorem Ny{k:aI}{idx:Int}:∀(m i:Nat) (s:aq),di k s (qU k idx m i s)
 |0,_,s=>di.ok rfl
 |m+1,i,s=>dx.load.ee.and fun x _ _=>by
  split
  ·exact kd.and fun _ _ _=>di.ok rfl
  ·split
   ·exact Ny m _ _
   ·refine dx.ik.ee.and fun _ _ _=>?_
    split
    ·exact kd.and fun _ _ _=>di.ok rfl
    ·exact Ny m _ _
def uZ(k:aI)(head w ej:Int)(s:aq):ax (cI ⊕ Unit):=(ld k head w (jB (rZ (fq w) ej)) s).and fun c s1=>if c=true then(lf k s1).and fun _ aV=>(tP k (fq w).idx aV).and fun _ bu=> .ok (.inr ()) bu else .ok (.inr ()) s1
def wi(k:aI)(head tail w:Int)(s:aq):ax (cI ⊕ Unit):=(gF k (eL k.la (fq w).idx 0) s).and fun ej s1=>
 if ej=0 then(lf k s1).and fun _ aV=> .ok (.inl ⟨0,false,0,(s1.made:Int)-1⟩) aV else
 (gF k tail s1).and fun e aV=>if(fq e).idx=(fq w).idx then(ld k tail e (jB (rZ (fq e) ej)) aV).and fun _ bu=>uZ k head w ej bu else uZ k head w ej aV
def uY(k:aI)(head tail w:Int)(r:Option cI)(s:aq):ax (cI ⊕ Unit):=match r with
 |some o=> .ok (.inl o) s
 |none=>wi k head tail w s
def mL(k:aI)(head tail:Int)(_:Unit)(s:aq):ax (cI ⊕ Unit):=(qy k 0 head s).and fun w s1=>(qU k (fq w.1).idx 5 0 s1).and (uY k head tail w.1)
theorem RW{k:aI}{head tail:Int}(x:Unit)(s:aq):dx k s (mL k head tail x s):=(m1 Az).nq fun w _ _=>(Ny _ _ _).and fun r _ _=>by
 cases r with
 |some a=>exact di.ok rfl
 |none=>
  have bX:∀ej s,di k s (uZ k head w.1 ej s):=fun ej s=>dx.ik.ee.and fun _ _ _=>by
   split
   ·exact kd.and fun _ _ _=>CH.ee.and fun _ _ _=>di.ok rfl
   ·exact di.ok rfl
  simp only[uY,wi]
  refine dx.load.ee.and fun _ _ _=>?_
  split
  ·exact kd.and fun _ _ _=>di.ok rfl
  ·refine dx.load.ee.and fun _ _ _=>?_
   split
   ·exact dx.ik.ee.and fun _ _ _=>bX _ _
   ·exact bX _ _
section
theorem aoL {k:aI} {s:aq} {g:cg} {p bx a0 cU hH bO:Nat} {head tail:Int} (h:bc H k s g) (hr:(ae cU,aY.cs 309 [ae p])∈M) (hc:(ae hH,aY.cs 3 [J head])∈M) (jU:(ae bO,aY.cs 3 [J tail])∈M)
  (aC:∀o s',mL k head tail () s= .ok (.inl o) s'->bc H k s' g->s.made<s'.made->K (.tuple #[.agg (cI.l o).toArray,.bool true]) (Y H w0 X (eQ.ca k s' g p bx a0 M)))
  (MG:∀s' bH,mL k head tail () s= .ok (.inr ()) s'->bc H k s' bH->s.made<s'.made->K (.tuple #[.agg (cI.l ⟨0,false,0,0⟩).toArray,.bool false]) (Y H w0 X (eQ.ca k s' bH p bx a0 M)))
  (cl:∀a s' bH,mL k head tail () s= .ask a->bc H k s' bH->Z (eQ.g4 a) (Y H w0 X (eQ.ca k s' bH p bx a0 M))):
  a4 H w0 X (eQ.ca k s g p bx a0 M) 334 #[ae cU,ae hH,ae bO] K Z:=by
 refine a7 ajh ?_
 intro az aF
 conv=>whnf
 repeat'((first
  |(show ih _ _ _ _;first|(refine gE (by repeat(first|exact hr|exact hc|exact jU|exact List.Mem.head _|refine dr _ ?_|exact db _ hr|exact db _ hc|exact db _ jU)) aD W W ?_)|(refine gE (by repeat(first|exact hr|exact hc|exact jU|exact List.Mem.head _|refine dr _ ?_|exact db _ hr|exact db _ hc|exact db _ jU)) aD W W ?_))
  |(show bk _ _ _ _;first|(refine fv (by repeat(first|exact hr|exact hc|exact jU|exact List.Mem.head _|refine dr _ ?_|exact db _ hr|exact db _ hc|exact db _ jU)) aD W W ?_))
  |(show ay _ _ _ _ _ _;first|(refine eQ.E1 (.inl rfl) h (fun w s1 e1 O mJ rz=>?_) (fun a s' e ak=>?_))|(refine tJ ?_))
  |(exact hD (cl _ _ _ (by simp only[mL,qU,uY,wi,uZ,cB,ax.cx,ax.dq,dm,cZ,dH,Int.reduceEq, *]) av))
  |refine jK ?_
  |(refine lF ?_ ?_)
  |with_reducible intro r)<;>(try conv=>whnf))
 have jw:mL k head tail () s=(qU k (fq w.1).idx 5 0 s1).and (uY k head tail w.1):=by rw[mL,e1,ax.cx]
 generalize Mf:qU k (fq w.1).idx 5 0 s1=Es at jw
 refine c9.on (X:=Nat×aq) (fun x=> [(0,.v (ae cU)),(1,.v (ae hH)),(2,.v (ae bO)),(3,.p 3 0),(4,.v (.bool false)),(5,.v (J w.1)),(7,.p 7 0),(24,.v (J (x.1:Int)))]) (fun _=> [(3,145,[J 0,.bool false,J 0,J 0,.slice none 0 0]),(7,261,(fq w.1).l)]) (fun x=>Y H az aF (eQ.ca k x.2 g p bx a0 M)) (fun x=>x.1<=5/\bc H k x.2 g/\s1.made<=x.2.made/\qU k (fq w.1).idx (5-x.1) x.1 x.2=Es) (fun x=>5-x.1) (0,s1) ⟨by omega,O,Nat.le_refl _,Mf⟩ ⟨rfl,rfl,rfl,rfl,rfl,rfl,rfl,rfl,trivial⟩ ⟨rfl,rfl,trivial⟩ ?_
 rintro⟨i,x⟩ iC ⟨hi,aW,pX,dF⟩
 dsimp only at hi aW pX dF
 dsimp only
 conv=>whnf
 refine ba.dec (fun ab=>?_) (fun ab=>?_)
 ·rw[show 5-i=(5-(i+1))+1 by omega] at dF
  conv=>whnf
  repeat'((first
   |(show bk _ _ _ _;first|(refine fv (by repeat(first|exact hr|exact hc|exact jU|exact List.Mem.head _|refine dr _ ?_|exact db _ hr|exact db _ hc|exact db _ jU)) aD W W ?_))
   |(show ay _ _ _ _ _ _;first|(refine eQ.mK av (fun FA s' e ak ad aZ=>?_) (fun a s' e ak=>?_))|(refine eQ.qu av (fun dD s' e ak ad aZ=>?_) (fun a s' e ak=>?_))|(refine eQ.yF av (fun s' e ak ad aZ=>?_) (fun a s' e ak=>?_))|(refine eQ.rM av (fun v ah=>?_);subst ah)|(refine eQ.tA av (fun v ah=>?_);subst ah))
   |(show ih _ _ _ _;first|(refine gE (by repeat(first|exact hr|exact hc|exact jU|exact List.Mem.head _|refine dr _ ?_|exact db _ hr|exact db _ hc|exact db _ jU)) aD W W ?_))
   |(exact hD (cl _ _ _ (by rw[jw,<-dF];simp only[mL,qU,uY,wi,uZ,cB,ax.cx,ax.dq,dm,cZ,dH,Int.reduceEq, *]) av))
   |(exact cA (aC ⟨_,_,_,_⟩ _ (by rw[jw,<-dF];simp only[mL,qU,uY,wi,uZ,cB,ax.cx,ax.dq,dm,cZ,dH,Int.reduceEq, *];try rfl) av S))
   |(exact cC (X:=Nat×aq) (i+1,s') (by show 5-(i+1)<5-i;omega) ⟨by show i+1<=5;omega,by assumption,by show s1.made<=s'.made;omega,by rw[<-dF];simp only[mL,qU,uY,wi,uZ,cB,ax.cx,ax.dq,dm,cZ,dH,Int.reduceEq, *]⟩ ⟨rfl,rfl,rfl,rfl,rfl,rfl,rfl,eD S,trivial⟩ ⟨rfl,rfl,trivial⟩)
   |refine jK ?_
   |(refine iK ?_ ?_<;>(try with_reducible intro ab)<;>(try(exfalso;omega)))
   |with_reducible intro r)<;>(try conv=>whnf))
 conv=>whnf
 obtain rfl:i=5:=by omega
 have c3:Es= .ok none x:=dF.symm
 rw[c3,ax.cx] at jw
 repeat'((first
  |(show bk _ _ _ _;first|(refine fv (by repeat(first|exact hr|exact hc|exact jU|exact List.Mem.head _|refine dr _ ?_|exact db _ hr|exact db _ hc|exact db _ jU)) aD W W ?_))
  |(show ay _ _ _ _ _ _;first|(refine eQ.mK av (fun FA s' e ak ad aZ=>?_) (fun a s' e ak=>?_))|(refine eQ.qu av (fun dD s' e ak ad aZ=>?_) (fun a s' e ak=>?_))|(refine eQ.F4 av (fun s' bH e ak ad=>?_) (fun a s' bH e ak=>?_))|(refine eQ.yF av (fun s' e ak ad aZ=>?_) (fun a s' e ak=>?_))|(refine eQ.rM av (fun v ah=>?_);subst ah)|(refine eQ.tA av (fun v ah=>?_);subst ah)|(refine tJ ?_)|(refine Gp (r:=fq _) ?_)|(refine uW (r:=rZ (fq _) _) ?_))
  |(show ih _ _ _ _;first|(refine gE (by repeat(first|exact hr|exact hc|exact jU|exact List.Mem.head _|refine dr _ ?_|exact db _ hr|exact db _ hc|exact db _ jU)) aD W W ?_))
  |(exact hD (cl _ _ _ (by rw[jw];simp only[mL,qU,uY,wi,uZ,cB,ax.cx,ax.dq,dm,cZ,dH,Int.reduceEq, *]) av))
  |(exact cA (aC ⟨_,_,_,_⟩ _ (by rw[jw];simp only[mL,qU,uY,wi,uZ,cB,ax.cx,ax.dq,dm,cZ,dH,Int.reduceEq, *];try rfl) av S))
  |(exact cA (MG _ _ (by rw[jw];simp only[mL,qU,uY,wi,uZ,cB,ax.cx,ax.dq,dm,cZ,dH,Int.reduceEq, *]) av S))
  |refine jK ?_
  |(refine iK ?_ ?_<;>(try with_reducible intro ab)<;>(try(exfalso;omega)))
  |with_reducible intro r)<;>(try conv=>whnf))
end
end Go.Proofs.YtcflcebplhdcpaaGreat
