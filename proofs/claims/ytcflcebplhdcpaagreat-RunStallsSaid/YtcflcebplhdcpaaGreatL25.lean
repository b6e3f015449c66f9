/- Lemmas, part 25; each states its own conditions. -/
import Derived.Test.YtcflcebplhdcpaaGreatL14
namespace Go.Proofs.YtcflcebplhdcpaaGreat
open Go.RowKit
set_option linter.unusedSimpArgs false
set_option linter.unusedVariables false
set_option maxRecDepth 100000
set_option maxHeartbeats 16000000
variable{H w0:World}{X:Nat->Prop}{M:aw}{K:Value->an->Prop}{Z:bF}
abbrev BE:List Value:=[J 0,J 0,J 0,J 0,J 0,J 0,J 0,J 0,J 0,J 0,.slice none 0 0,J 0,J 0,J 0,J 0,.slice none 0 0,.slice none 0 0,.slice none 0 0,J 0,.slice none 0 0,J 0,.bool false,J 0,J 0]
def q2(s:cm)(bS:Option Addr)(aX bb:Nat)(bN:Int)(cP:Bool)(e v:Int):List Value:=s.l++[.slice bS aX bb,J bN,.bool cP,J e,J v]
theorem Addr.add_zero(a:Addr):a.add 0=a:=by
 cases a with
 |mk b o p=>cases p<;>simp[Addr.add]
theorem FO{P:Program}{C:an}{t e:TypeId}{sz:Nat}{dG:List Value}{ao:Operand->Value}{o:Oper}{x h m:Operand}{A:Option Addr}{n c:Nat}{k k':IntKind}{K:Value->an->Prop}{Z:bF}(a2:iF P t e sz dG)(aU:o.op= .slice t x none (some h) (some m))(aW:ao x= .slice A n c)(eb:ao h= .int k n)(ad:ao m= .int k' n)(aB:n<=c)(h:K (.slice A n n) C):ff P C (execOp ao o) K Z:=by
 obtain⟨i,z,hi,_⟩:=a2.parts
 have b0:A.map (fun x=>x.add 0)=A:=by cases A<;>simp[Addr.add_zero]
 refine wa (fun w=>?_) h
 have O:∀aN:BoundsCode,(Instr.sliceBound (.int k' n) c aN).run P w= .ok n w:=fun aN=>by simpa using run_sliceBound (P:=P) (w:=w) (c:=aN) (k:=k') (i:=(n:Int)) (y:=c) S S
 have V:∀aN:BoundsCode,(Instr.sliceBound (.int k n) n aN).run P w= .ok n w:=fun aN=>by simpa using run_sliceBound (P:=P) (w:=w) (c:=aN) (k:=k) (i:=(n:Int)) (y:=n) S S
 simp[execOp,aU,aW,eb,ad,Instr.sliceAt,run_underlying a2.eN,Instr.slice,Instr.sliceBounds,O,V,sizeOf,typeInfo,hi,b0]
abbrev Xe(mC mT mU jM:Nat):Deferred:={target:= .fn (.func 143) #[ae mC,ae mT,ae mU,ae jM],args:=#[]}
def DP(s:cm)(bS:Option Addr)(aX bb:Nat)(a1:Int)(d:List Value)(mC mT mU jM:Nat)(M:aw):aw:=(ae jM,.cs 185 d)::(ae mU,.cs 3 [J a1])::(ae mT,.cs 44 [.slice bS aX bb])::(ae mC,.cs 78 s.l)::M
theorem Wl{x y:Operand}{v:Value}{C:an}{K:Value->an->Prop}(b:Bool)(ah:(v= .nilIface/\b=false)\/∃t u,v= .iface t u/\b=true)(bV:(y matches .const _)=true)(h:K (.bool b) C):bk Tryz.prog C (do eqGuard .neq 20 x y v .nilIface;binOp .neq 20 v .nilIface) K:=by
 have aS:Tryz.prog.underlying 20=some (.interface #[]):=by kernel_rfl
 have e:Op.maxDepth=(Op.maxDepth-1)+1:=rfl
 refine nc (fun w=>?_) h
 rcases ah with⟨rfl,rfl⟩|⟨t,u,rfl,rfl⟩
 ·cases y<;>simp at bV
  simp[eqGuard,binOp,Op.equal];rw[e];simp[Op.equalIn,run_underlying aS]
 ·simp[eqGuard,binOp,Op.equal];rw[e];simp[Op.equalIn,run_underlying aS]
theorem apb{w:World}{e v:Int}:(Instr.typeAssert (FP e v) 20 245 true).run Tryz.prog w= .ok (.tuple #[.agg #[J e,J v],.bool true]) w:=by
 obtain⟨n,aS⟩:∃n,Tryz.prog.underlying 245=some (.struct n):=⟨_,by rfl⟩
 simp[Instr.typeAssert,run_underlying aS]
theorem amr{ao:Operand->Value}{o:Oper}{x:Operand}{e v:Int}(aU:o.op= .typeAssert x 20 245 true)(aW:ao x=FP e v){C:an}{K:Value->an->Prop}{Z:bF}(h:K (.tuple #[.agg #[J e,J v],.bool true]) C):ff Tryz.prog C (execOp ao o) K Z:=
 wa (fun w=>by simp[execOp,aU,aW,apb]) h
section
variable{H w0:World}{X:Nat->Prop}{M:aw}
theorem PA{K:FrameMode->an->Prop}{s:cm}{bS:Option Addr}{aX bb:Nat}{a1:Int}{d:List Value}(aL:d.length=24){mC mT mU jM:Nat}{e v:Int}(U:K (.panicking [{v:=FP e v,recovered:=true}]) (Y H w0 X (DP s bS aX bb a1 (q2 s bS aX bb a1 true e v) mC mT mU jM M))):
  h0 Tryz.prog (Y H w0 X (DP s bS aX bb a1 d mC mT mU jM M)) (Xe mC mT mU jM) (.panicking [{v:=FP e v,recovered:=false}]) K:=by
 match d,aL with
 |[au7,hI,eK,avm,yH,tg,pL,avn,avo,avp,au8,au9,ava,avb,avc,avd,ave,avf,avg,avh,avi,avj,avk,avl],_=>
 refine Co e8 i6 Tm VC W W bP (args:=[ae mC,ae mT,ae mU,ae jM]) W rfl rfl ?_
 intro az aF
 conv=>whnf
 refine Wl true (.inr ⟨_,_,rfl,rfl⟩) rfl ?_
 conv=>whnf
 repeat'(first
  |(show bk _ _ _ _;first|(refine ke b7 aD W ?_;conv=>whnf)|(refine fv b7 aD W W ?_;conv=>whnf))
  |(show eB _ _ _ _;first|(refine tV aD mw ?_;conv=>whnf))
  |(show ff _ _ _ _ _;first|(refine amr (e:=e) (v:=v) W W ?_;conv=>whnf))
  |(show eS _ _;first|(refine eS.go ?_;conv=>whnf)))
 exact hy.drop _ (List.Sublist.refl _) U
theorem ar7{K:FrameMode->an->Prop}{mC mT mU jM:Nat}(U:K .returning (Y H w0 X M)):h0 Tryz.prog (Y H w0 X M) (Xe mC mT mU jM) .returning K:=by
 refine Co e8 i6 Tm VC W W bP (args:=[ae mC,ae mT,ae mU,ae jM]) W rfl rfl ?_
 intro az aF
 conv=>whnf
 refine Wl false (.inl ⟨rfl,rfl⟩) rfl ?_
 conv=>whnf
 exact hy.drop _ (List.Sublist.refl _) U
end
def z1(H:World)(F:FuncId)(t0:l8)(R:l8->aw->Prop)(E:Int->Int->Prop):Prop:=
 ∀(w0:World) (X:Nat->Prop) (M:aw) (bO:Nat) (K:Value->an->Prop) (Z:bF),(∀t' aE,R t' aE->K (.tuple #[]) (Y H w0 X (dy t' bO (aE++M))))->(∀e v t' aE,E e v->Z (lQ e v) (Y H w0 X (dy t' bO (aE++M))))->ay Tryz.prog (Y H w0 X (dy t0 bO M)) F #[ae bO] K Z
theorem U2{ck:Type}(a:ck)(aE L M:List ck):List.Perm (a::(aE++(L++M))) (a::(L++(aE++M))):=by
 refine List.Perm.cons _ ?_
 rw[<-ob,<-ob]
 exact GN _ yj
section
abbrev Ou(bO:Nat):List Value:=[.func (.func 145) #[ae bO] #[],.func (.func 146) #[ae bO] #[],.func (.func 147) #[ae bO] #[],.func (.func 148) #[ae bO] #[],.func (.func 149) #[ae bO] #[],.func (.func 150) #[ae bO] #[]]
abbrev x4(c:cr)(la:c8)(s:cm)(bS:Option Addr)(aX bb:Nat)(a1 dP:Int)(u:ug):l8:=⟨c,la,{s with ho:=u.ho,ew:=u.ew,h3:=u.ew},bS,aX,bb,a1,dP,u,a1⟩
abbrev Xg(s:cm)(bS:Option Addr)(aX bb:Nat)(a1:Int)(d:List Value)(mC mT mU jM Ch bO:Nat):aw:=(ae Ch,.cs 250 (Ou bO))::DP s bS aX bb a1 d mC mT mU jM []
end
section
end
def Cc(agM:Nat)(F:FuncId):Prop:=∀{H w0:World} {X:Nat->Prop} {M:aw} {K:Value->an->Prop} {Z:bF} {c:cr} {la:c8} {s:cm} {bS:Option Addr} {aX bb:Nat} {a1 dP:Int} {u:ug} {R:l8->aw->Prop} {E:Int->Int->Prop} (aS:u.err=0\/s.o0=10/\u.err=16) (aZ:u.ew<=u.h3) (bh:s.phase=(agM:Int)) (b9:z1 H F (x4 c la s bS aX bb a1 dP u) R E) (O:∀t' aE,R t' aE->K (.agg (q2 t'.s t'.bS t'.aX t'.bb t'.bN false 0 0).toArray) (Y H w0 X (aE++M))) (V:∀e v aE,E e v->K (.agg (q2 s bS aX bb a1 true e v).toArray) (Y H w0 X (aE++M))),ay Tryz.prog (Y H w0 X M) 104 #[.agg c.l.toArray,.agg la.l.toArray,.agg s.l.toArray,.slice bS aX bb,J a1,J dP,.agg u.l.toArray] K Z
theorem DL {P:Prop} (h:P:=by
 obtain⟨val,eG,err,c0,DY,Dl,Cm⟩:=u
 obtain⟨phase,at_,task,hN,iA,gZ,gG,hl,j1,p3,gA,eM,gJ,o0,o1,aQ,bl,bK,aM,bD,b4,ns,cs,ho,ew,h3,hold⟩:=s
 replace bh:phase=_:=bh
 subst bh
 replace aZ:Dl<=Cm:=aZ
 replace aS:err=0\/o0=10/\err=16:=aS
 refine sH e8 i6 IC W ?_
 intro az aF
 conv=>whnf
 refine h2 (cm.l _) rfl fun mC=>?_
 conv=>whnf
 refine h2 [.slice bS aX bb] rfl fun mT=>?_
 conv=>whnf
 refine h2 [J a1] rfl fun mU=>?_
 conv=>whnf
 refine hT aD _ rfl fun jM=>?_
 conv=>whnf
 refine kZ W ?_
 conv=>whnf
 rcases aS with rfl|⟨rfl,rfl⟩
 all_goals conv=>whnf
 all_goals skip
 repeat'((first
  |(show ff _ _ _ _ _;first|(refine FO qw W W W W aZ ?_)|(refine kZ W ?_))
  |(show bk _ _ _ _;first|(refine h2 (l8.l ⟨c,la,_,bS,aX,bb,a1,dP,⟨val,eG,_,c0,DY,Dl,Cm⟩,a1⟩) rfl fun bO=>?_))
  |(refine gd ahE ?_;intro be bM)
  |refine Ez ?_
  |(refine oQ ?_ ?_<;>(try with_reducible intro ab)<;>(try(exfalso;omega)))
  |with_reducible intro r)<;>(try conv=>whnf))
 all_goals
  have b9:=b9
  show bk _ (Y H az aF (dy (x4 c la ⟨_,at_,task,hN,iA,gZ,gG,hl,j1,p3,gA,eM,gJ,_,o1,aQ,bl,bK,aM,bD,b4,ns,cs,ho,ew,h3,hold⟩ bS aX bb a1 dP ⟨val,eG,_,c0,DY,Dl,Cm⟩) bO (DP ⟨_,at_,task,hN,iA,gZ,gG,hl,j1,p3,gA,eM,gJ,_,o1,aQ,bl,bK,aM,bD,b4,ns,cs,ho,ew,h3,hold⟩ bS aX bb a1 BE mC mT mU jM M))) _ _
  refine yC (n:=6) (e:=1) bP aD aD ?_
  conv=>whnf
  refine hT aD _ rfl fun Ch=>?_
  conv=>whnf
  refine tV aD h8.here ?_
  conv=>whnf
  refine eS.go ?_
  conv=>whnf
  show bk _ (Y H az aF ((ae Ch,.cs 250 (Ou bO))::dy (x4 c la ⟨_,at_,task,hN,iA,gZ,gG,hl,j1,p3,gA,eM,gJ,_,o1,aQ,bl,bK,aM,bD,b4,ns,cs,ho,ew,h3,hold⟩ bS aX bb a1 dP ⟨val,eG,_,c0,DY,Dl,Cm⟩) bO (DP ⟨_,at_,task,hN,iA,gZ,gG,hl,j1,p3,gA,eM,gJ,_,o1,aQ,bl,bK,aM,bD,b4,ns,cs,ho,ew,h3,hold⟩ bS aX bb a1 BE mC mT mU jM M))) _ _
  repeat'((first
   |(show bk _ _ _ _;first|(refine lN qK rfl (n:=6) (e:=1) bP aD bC ?_))
   |(show ay _ _ _ _ _ _;first|(refine ay.imp (aJ.perm (kO _ _ _)) (b9 _ _ ((ae Ch,.cs 250 (Ou bO))::DP ⟨_,at_,task,hN,iA,gZ,gG,hl,j1,p3,gA,eM,gJ,_,o1,aQ,bl,bK,aM,bD,b4,ns,cs,ho,ew,h3,hold⟩ bS aX bb a1 BE mC mT mU jM M) bO _ _ (fun t' aE c3=>?_) (fun e v t' aE a2=>?_))))
   |refine Ez ?_
   |(refine oQ ?_ ?_<;>(try with_reducible intro ab)<;>(try(exfalso;omega)))
   |with_reducible intro r)<;>(try conv=>whnf))
  repeat'(first
   |(show eB _ _ _ _;first|(refine eB.imp (aJ.perm (U2 _ aE (Xg ⟨_,at_,task,hN,iA,gZ,gG,hl,j1,p3,gA,eM,gJ,_,o1,aQ,bl,bK,aM,bD,b4,ns,cs,ho,ew,h3,hold⟩ bS aX bb a1 BE mC mT mU jM Ch bO) M)) ?_;refine tV aD (.there (.there .here)) ?_;conv=>whnf))
   |(show h0 _ _ _ _ _;first|(refine h0.imp ((aJ.perm (U2 _ aE (Xg ⟨_,at_,task,hN,iA,gZ,gG,hl,j1,p3,gA,eM,gJ,_,o1,aQ,bl,bK,aM,bD,b4,ns,cs,ho,ew,h3,hold⟩ bS aX bb a1 BE mC mT mU jM Ch bO) M)).trans (aJ.sub (.cons _ (.cons _ (.refl _))))) (PA rfl ?_);conv=>whnf)|(refine ar7 ?_;conv=>whnf))
   |(refine p9 b7 aD W ?_;conv=>whnf)
   |(exact cd.imp (K:=K) (aE++M) (aJ.sub ua) (O t' aE av))
   |(exact cd.imp (K:=K) (aE++M) (aJ.sub ua) (V _ _ aE av)))):P:=h
theorem asi:Cc 0 145:=by
 intro H w0 X M K Z c la s bS aX bb a1 dP u R E aS aZ bh b9 O V
 let qK:Nat:=0
 exact DL
theorem asj:Cc 1 146:=by
 intro H w0 X M K Z c la s bS aX bb a1 dP u R E aS aZ bh b9 O V
 let qK:Nat:=1
 exact DL
theorem asl:Cc 2 147:=by
 intro H w0 X M K Z c la s bS aX bb a1 dP u R E aS aZ bh b9 O V
 let qK:Nat:=2
 exact DL
theorem asm:Cc 3 148:=by
 intro H w0 X M K Z c la s bS aX bb a1 dP u R E aS aZ bh b9 O V
 let qK:Nat:=3
 exact DL
theorem asn:Cc 4 149:=by
 intro H w0 X M K Z c la s bS aX bb a1 dP u R E aS aZ bh b9 O V
 let qK:Nat:=4
 exact DL
theorem aso:Cc 5 150:=by
 intro H w0 X M K Z c la s bS aX bb a1 dP u R E aS aZ bh b9 O V
 let qK:Nat:=5
 exact DL
end Go.Proofs.YtcflcebplhdcpaaGreat
