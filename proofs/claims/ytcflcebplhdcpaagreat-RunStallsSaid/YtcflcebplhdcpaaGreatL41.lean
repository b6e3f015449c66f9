/- Lemmas, part 41; each states its own conditions. -/
import Derived.Test.YtcflcebplhdcpaaGreatL38
import Derived.Test.YtcflcebplhdcpaaGreatL40
namespace Go.Proofs.YtcflcebplhdcpaaGreat
open Go.RowKit
set_option linter.unusedSimpArgs false
set_option linter.unusedVariables false
set_option maxRecDepth 100000
set_option maxHeartbeats 16000000
variable{H w0:World}{X:Nat->Prop}{M:aw}{K:Value->an->Prop}{Z:bF}
theorem XB {P:Prop} (h:P:=by
 repeat'((first
  |(show ff _ _ _ _ _;first|(refine uV (n:=3) (e:=222) 0 _ W W W W bP aD W bC W ?_)|(refine uV (n:=3) (e:=222) 1 _ W W W W bP aD W bC W ?_)|(refine uV (n:=3) (e:=222) 2 _ W W W W bP aD W bC W ?_))
  |(show ay _ _ _ _ _ _;first|(refine aqh (gs:=gs) (g:=g) (op:=op) h ai fu ?_;rw[eR])|(refine adu (gs:=gs) (g:=g) (op:=op) h ?_;rw[eR])|(refine apD (gs:=gs) (g:=g) (op:=op) h ?_;rw[eR])|(refine uy (gs:=gs) (.inl (h.ea rfl)) h.fh kp h.pP (fun br bz dS ep=>?_)))
  |(intro br bz dS ep)
  |(refine cC (X:=Nat) 1 ?_ ?_ ⟨rfl,rfl,rfl,rfl,rfl,rfl,rfl,rfl,rfl,rfl,trivial⟩ ⟨rfl,rfl,rfl,rfl,trivial⟩<;>first|decide|omega)
  |(refine cC (X:=Nat) 2 ?_ ?_ ⟨rfl,rfl,rfl,rfl,rfl,rfl,rfl,rfl,rfl,rfl,trivial⟩ ⟨rfl,rfl,rfl,rfl,trivial⟩<;>first|decide|omega)
  |(refine cC (X:=Nat) 3 ?_ ?_ ⟨rfl,rfl,rfl,rfl,rfl,rfl,rfl,rfl,rfl,rfl,trivial⟩ ⟨rfl,rfl,rfl,rfl,trivial⟩<;>first|decide|omega)
  |(exact c1 (U br bz dS ep) cn)
  |(exact c1 U cn)
  |(have fz:=U br bz (by rw[<-fj];exact dS) ep;rw[<-fj] at fz;exact c1 fz cn)
  |refine eg ?_
  |(refine eh ?_ ?_<;>(try with_reducible intro ab)<;>(try(exfalso;omega)))
  |with_reducible intro r)<;>(try conv=>whnf))):P:=h
theorem uV{P:Program}{C:an}{o:Oper}{ao:Operand->Value}{t e n:Nat}{x y:Operand}{l:List Value}{K:Value->an->Prop}{Z:bF}{lu:c5}{k:IntKind}{i:Int}(j:Nat)(vs:List Value)(aU:o.op= .index t x y)(aW:ao x= .agg l.toArray)(bV:ao y= .int k i)(hi:i=(j:Int))(aS:P.underlying t=some (.array n e))(af:e7 P e lu)(dX:lu.d.agg=true)(a9:j<n)(ah:(l.drop (j*lu.size)).take lu.size=vs)(h:K (.agg vs.toArray) C):ff P C (execOp ao o) K Z:=by
 subst hi ah
 refine wa (fun w=>?_) h
 have e1:l.toArray.extract (j*lu.size) (j*lu.size+lu.size)=((l.drop (j*lu.size)).take lu.size).toArray:=by
  apply oH
  simp[Array.toList_extract]
 simp[execOp,aU,aW,bV,Instr.index,asIntOf,run_underlying aS,part,af.rR,dX,af.u0,a9,e1]
def kY(k:aI)(gs:List cz)(op:dp):e9:=
 if op.o0=6/\¬(0<=op.aQ/\op.aQ<4294967296) then m9 gs else
 if op.o0<1\/7<op.o0 then m9 gs else if op.o0<=3 then rV k gs op else if op.o0<=5 then oV k gs op else pk k gs op
section
theorem zv {P:Prop} (h:P:=by
 have kp:g.n<=1000000000:=by
  have O:g.n=gs.length:=h.fh
  omega
 have fj:g.n=gs.length:=h.fh
 refine a7 aow ?_
 intro az aF
 conv=>whnf
 repeat'((first
  |(show eS _ _;first|(refine eS.go ?_))
  |(show _/\_;first|(refine And.intro ?_ ?_))
  |(show bk _ _ _ _;first|((refine hT aD _ rfl ?_;intro _))|((refine h2 _ rfl ?_;intro _))|(refine yC (n:=3) (e:=222) bP aD aD ?_)|(refine uS ?_)|(refine IM ?_))
  |(show ay _ _ _ _ _ _;first|(refine gd anY ?_;intro be bM))
  |(show eB _ _ _ _;first|(refine st ?_))
  |(refine hy.go ?_)
  |(refine pE.go ?_)
  |(refine ba.dec (fun ab=>?_) (fun ab=>?_)<;>try(exfalso;omega))
  |(refine ba.v7 (fun ab=>?_) (fun ab=>?_)<;>try(exfalso;omega))
  |(refine ba.sk (fun ab=>?_) (fun ab=>?_)<;>try(exfalso;omega))
  |(refine ba.sM (fun ab=>?_) (fun ab=>?_)<;>try(exfalso;omega))
  |(refine ba.Uy (fun ab=>?_) (fun ab=>?_))
  |(refine ba.intro (fun ab=>?_) (fun ab=>?_))
  |(intro r jN))<;>(try conv=>whnf))
 all_goals
  refine c9.on (X:=Nat) (fun i=> [(1,.v (J k.a1)),(2,.v (.slice g.A g.n g.c)),(4,.v (.slice k.bK k.aM k.bD)),(5,.p 5 0),(8,.p 8 0),(10,.p 10 0),(11,.p 11 0),(13,.v (.bool sg)),(29,.v (.agg (List.toArray [J 1,J 3,.func (.func 203) #[] #[],J 4,J 5,.func (.func 204) #[] #[],J 6,J 7,.func (.func 205) #[] #[]]))),(30,.v (J (i:Int)))]) (fun _=> [(5,40,k.la.l),(8,72,op.l),(10,136,[J 0,J 0,J 0,J 0]),(11,145,[J 0,.bool false,J 0,J 0,.slice none 0 0])]) (fun _=>Y H az aF M) (fun i=>i<=qK) (fun i=>3-i) 0 (cY _) ⟨rfl,rfl,rfl,rfl,rfl,rfl,rfl,(by first|rfl|exact congrArg (fun b=>cD.v (.bool b)) (decide_eq_true S)|exact congrArg (fun b=>cD.v (.bool b)) (decide_eq_false S)),rfl,rfl,trivial⟩ ⟨rfl,rfl,rfl,rfl,trivial⟩ ?_
  intro i iC hi
  conv=>whnf
  refine ba.dec (fun jU=>?_) (fun jU=>?_)
  ·rcases(show i=0\/i=1\/i=2 by omega) with rfl|rfl|rfl
   all_goals try(exfalso;omega)
   all_goals conv=>whnf
   all_goals exact XB
  all_goals try(exfalso;omega)
  all_goals
   conv=>whnf
   all_goals exact XB
):P:=h
theorem alX{k:aI}{gs:List cz}{g:cg}{op:dp}(h:bc H k (aq.start gs) ⟨false,g.A,g.n,g.c⟩)(ai:k.log.length<=10000)(fu:gs.length<=200000){a:c4}(O:1<=op.o0)(V:op.o0<=3)(bU:¬(op.o0=6/\¬(0<=op.aQ/\op.aQ<4294967296)))(eR:rV k gs op= .ask a)(U:jn H w0 X M K (kY k gs op)):a4 H w0 X M 96 #[.agg k.la.l.toArray,J k.a1,.slice g.A g.n g.c,.agg op.l.toArray,.slice k.bK k.aM k.bD] K Z:=by
 rw[kY,if_neg bU,if_neg S,if_pos S,eR] at U
 obtain⟨qK,AJ⟩:∃n,n=0:=⟨_,rfl⟩
 let sg:Bool:=true
 exact zv
theorem alY{k:aI}{gs:List cz}{g:cg}{op:dp}(h:bc H k (aq.start gs) ⟨false,g.A,g.n,g.c⟩)(ai:k.log.length<=10000)(fu:gs.length<=200000){o:cI}{gv:List cz}(O:1<=op.o0)(V:op.o0<=3)(bU:¬(op.o0=6/\¬(0<=op.aQ/\op.aQ<4294967296)))(eR:rV k gs op= .done o gv)(U:jn H w0 X M K (kY k gs op)):a4 H w0 X M 96 #[.agg k.la.l.toArray,J k.a1,.slice g.A g.n g.c,.agg op.l.toArray,.slice k.bK k.aM k.bD] K Z:=by
 rw[kY,if_neg bU,if_neg S,if_pos S,eR] at U
 obtain⟨qK,AJ⟩:∃n,n=0:=⟨_,rfl⟩
 let sg:Bool:=true
 exact zv
theorem alZ{k:aI}{gs:List cz}{g:cg}{op:dp}(h:bc H k (aq.start gs) ⟨false,g.A,g.n,g.c⟩)(ai:k.log.length<=10000)(fu:gs.length<=200000){a:c4}(O:4<=op.o0)(V:op.o0<=5)(bU:¬(op.o0=6/\¬(0<=op.aQ/\op.aQ<4294967296)))(eR:oV k gs op= .ask a)(U:jn H w0 X M K (kY k gs op)):a4 H w0 X M 96 #[.agg k.la.l.toArray,J k.a1,.slice g.A g.n g.c,.agg op.l.toArray,.slice k.bK k.aM k.bD] K Z:=by
 rw[kY,if_neg bU,if_neg S,if_neg S,if_pos S,eR] at U
 obtain⟨qK,AJ⟩:∃n,n=1:=⟨_,rfl⟩
 let sg:Bool:=true
 exact zv
theorem al0{k:aI}{gs:List cz}{g:cg}{op:dp}(h:bc H k (aq.start gs) ⟨false,g.A,g.n,g.c⟩)(ai:k.log.length<=10000)(fu:gs.length<=200000){o:cI}{gv:List cz}(O:4<=op.o0)(V:op.o0<=5)(bU:¬(op.o0=6/\¬(0<=op.aQ/\op.aQ<4294967296)))(eR:oV k gs op= .done o gv)(U:jn H w0 X M K (kY k gs op)):a4 H w0 X M 96 #[.agg k.la.l.toArray,J k.a1,.slice g.A g.n g.c,.agg op.l.toArray,.slice k.bK k.aM k.bD] K Z:=by
 rw[kY,if_neg bU,if_neg S,if_neg S,if_pos S,eR] at U
 obtain⟨qK,AJ⟩:∃n,n=1:=⟨_,rfl⟩
 let sg:Bool:=true
 exact zv
theorem al1{k:aI}{gs:List cz}{g:cg}{op:dp}(h:bc H k (aq.start gs) ⟨false,g.A,g.n,g.c⟩)(ai:k.log.length<=10000)(fu:gs.length<=200000){a:c4}(O:6<=op.o0)(V:op.o0<=7)(bU:¬(op.o0=6/\¬(0<=op.aQ/\op.aQ<4294967296)))(eR:pk k gs op= .ask a)(U:jn H w0 X M K (kY k gs op)):a4 H w0 X M 96 #[.agg k.la.l.toArray,J k.a1,.slice g.A g.n g.c,.agg op.l.toArray,.slice k.bK k.aM k.bD] K Z:=by
 rw[kY,if_neg bU,if_neg S,if_neg S,if_neg S,eR] at U
 obtain⟨qK,AJ⟩:∃n,n=2:=⟨_,rfl⟩
 let sg:Bool:=true
 exact zv
theorem al2{k:aI}{gs:List cz}{g:cg}{op:dp}(h:bc H k (aq.start gs) ⟨false,g.A,g.n,g.c⟩)(ai:k.log.length<=10000)(fu:gs.length<=200000){o:cI}{gv:List cz}(O:6<=op.o0)(V:op.o0<=7)(bU:¬(op.o0=6/\¬(0<=op.aQ/\op.aQ<4294967296)))(eR:pk k gs op= .done o gv)(U:jn H w0 X M K (kY k gs op)):a4 H w0 X M 96 #[.agg k.la.l.toArray,J k.a1,.slice g.A g.n g.c,.agg op.l.toArray,.slice k.bK k.aM k.bD] K Z:=by
 rw[kY,if_neg bU,if_neg S,if_neg S,if_neg S,eR] at U
 obtain⟨qK,AJ⟩:∃n,n=2:=⟨_,rfl⟩
 let sg:Bool:=true
 exact zv
theorem al5{k:aI}{gs:List cz}{g:cg}{op:dp}(h:bc H k (aq.start gs) ⟨false,g.A,g.n,g.c⟩)(ai:k.log.length<=10000)(fu:gs.length<=200000)(bU:¬(op.o0=6/\¬(0<=op.aQ/\op.aQ<4294967296)))(O:op.o0<1\/7<op.o0)(U:jn H w0 X M K (kY k gs op)):a4 H w0 X M 96 #[.agg k.la.l.toArray,J k.a1,.slice g.A g.n g.c,.agg op.l.toArray,.slice k.bK k.aM k.bD] K Z:=by
 rw[kY,if_neg bU,if_pos O] at U
 obtain⟨qK,AJ⟩:∃n,n=3:=⟨_,rfl⟩
 let sg:Bool:=true
 exact zv
theorem al3{k:aI}{gs:List cz}{g:cg}{op:dp}(h:bc H k (aq.start gs) ⟨false,g.A,g.n,g.c⟩)(ai:k.log.length<=10000)(fu:gs.length<=200000)(bU:op.o0=6/\¬(0<=op.aQ/\op.aQ<4294967296))(U:jn H w0 X M K (kY k gs op)):a4 H w0 X M 96 #[.agg k.la.l.toArray,J k.a1,.slice g.A g.n g.c,.agg op.l.toArray,.slice k.bK k.aM k.bD] K Z:=by
 rw[kY,if_pos bU] at U
 obtain⟨qK,AJ⟩:∃n,n=3:=⟨_,rfl⟩
 let sg:Bool:=false
 exact zv
theorem UB{k:aI}{gs:List cz}{g:cg}{op:dp}(h:bc H k (aq.start gs) ⟨false,g.A,g.n,g.c⟩)(ai:k.log.length<=10000)(fu:gs.length<=200000)(U:jn H w0 X M K (kY k gs op)):a4 H w0 X M 96 #[.agg k.la.l.toArray,J k.a1,.slice g.A g.n g.c,.agg op.l.toArray,.slice k.bK k.aM k.bD] K Z:=by
 by_cases bU:op.o0=6/\¬(0<=op.aQ/\op.aQ<4294967296)
 ·exact al3 h ai fu bU U
 ·by_cases O:op.o0<1\/7<op.o0
  ·exact al5 h ai fu bU O U
  ·rcases(show(1<=op.o0/\op.o0<=3)\/(4<=op.o0/\op.o0<=5)\/(6<=op.o0/\op.o0<=7) by omega) with V|V|V
   ·cases eR:rV k gs op with
    |ask a=>exact alX h ai fu V.1 V.2 bU eR U
    |done o gv=>exact alY h ai fu V.1 V.2 bU eR U
   ·cases eR:oV k gs op with
    |ask a=>exact alZ h ai fu V.1 V.2 bU eR U
    |done o gv=>exact al0 h ai fu V.1 V.2 bU eR U
   ·cases eR:pk k gs op with
    |ask a=>exact al1 h ai fu V.1 V.2 bU eR U
    |done o gv=>exact al2 h ai fu V.1 V.2 bU eR U
end
theorem DS {P:Prop} (h:P:=by
 repeat'((first
  |(show bk _ _ _ _;first|(refine hT aD _ rfl ?_;intro _)|(refine h2 _ rfl ?_;intro _))
  |(show ay _ _ _ _ _ _;first|(refine UB (gs:=gs) (g:=g) (op:=op) h ai fu ?_;rw[eR])|(refine Ri (gs:=gs) (g:=g) (op:=op) h ?_;rw[eR])|(refine W2 (gs:=gs) (g:=g) (op:=op) h ?_;rw[eR])|(refine QI (gs:=gs) (g:=g) (op:=op) h ?_;rw[eR])|(refine Q6 (gs:=gs) (g:=g) (op:=op) h ?_;rw[eR])|(refine VP ?_))
  |(exact c1 (U.2 rfl) cn)
  |(exact c1 U cn)
  |refine eg ?_
  |(refine eh ?_ ?_<;>(try with_reducible intro ab)<;>(try(exfalso;omega)))
  |with_reducible intro r)<;>(try conv=>whnf))):P:=h
def eH(k:aI)(gs:List cz)(op:dp):e9:=
 if 1<=op.o0/\op.o0<=7 then kY k gs op else if 8<=op.o0/\op.o0<=10 then om k gs op else if 11<=op.o0/\op.o0<=15 then pn k gs op else
 if op.o0=16 then vw k gs op else if op.o0=17\/op.o0=18 then uw k gs op else m9 gs
section
theorem anA{k:aI}{gs:List cz}{g:cg}{op:dp}(h:bc H k (aq.start gs) ⟨false,g.A,g.n,g.c⟩)(ai:k.log.length<=10000)(fu:gs.length<=200000){a:c4}(O:1<=op.o0)(V:op.o0<=7)(eR:kY k gs op= .ask a)(U:oO H w0 X M g gs K (eH k gs op)):a4 H w0 X M 63 #[.agg k.la.l.toArray,J k.a1,.slice g.A g.n g.c,.agg op.l.toArray,.slice k.bK k.aM k.bD] K Z:=by
 have fj:g.n=gs.length:=h.fh
 rw[eH,if_pos S,eR] at U
 refine a7 tx ?_
 intro az aF
 conv=>whnf
 exact DS
theorem anB{k:aI}{gs:List cz}{g:cg}{op:dp}(h:bc H k (aq.start gs) ⟨false,g.A,g.n,g.c⟩)(ai:k.log.length<=10000)(fu:gs.length<=200000){o:cI}{gv:List cz}(O:1<=op.o0)(V:op.o0<=7)(eR:kY k gs op= .done o gv)(U:oO H w0 X M g gs K (eH k gs op)):a4 H w0 X M 63 #[.agg k.la.l.toArray,J k.a1,.slice g.A g.n g.c,.agg op.l.toArray,.slice k.bK k.aM k.bD] K Z:=by
 have fj:g.n=gs.length:=h.fh
 rw[eH,if_pos S,eR] at U
 refine a7 tx ?_
 intro az aF
 conv=>whnf
 repeat'((first
  |(show eS _ _;first|(refine eS.go ?_))
  |(show _/\_;first|(refine And.intro ?_ ?_))
  |(show bk _ _ _ _;first|((refine hT aD _ rfl ?_;intro _))|((refine h2 _ rfl ?_;intro _))|(refine uS ?_)|(refine IM ?_))
  |(show ay _ _ _ _ _ _;first|((refine UB (gs:=gs) (g:=g) (op:=op) h ai fu ?_;rw[eR];intro br bz dS ep)))
  |(show eB _ _ _ _;first|(refine st ?_))
  |(refine hy.go ?_)
  |(refine pE.go ?_)
  |(exact c1 (U.1 br bz dS ep) cn)
  |(refine ba.dec (fun ab=>?_) (fun ab=>?_)<;>try(exfalso;omega))
  |(refine ba.v7 (fun ab=>?_) (fun ab=>?_)<;>try(exfalso;omega))
  |(refine ba.sk (fun ab=>?_) (fun ab=>?_)<;>try(exfalso;omega))
  |(refine ba.sM (fun ab=>?_) (fun ab=>?_)<;>try(exfalso;omega))
  |(refine ba.Uy (fun ab=>?_) (fun ab=>?_))
  |(refine ba.intro (fun ab=>?_) (fun ab=>?_))
  |(intro r jN))<;>(try conv=>whnf))
theorem anw{k:aI}{gs:List cz}{g:cg}{op:dp}(h:bc H k (aq.start gs) ⟨false,g.A,g.n,g.c⟩)(ai:k.log.length<=10000)(fu:gs.length<=200000){a:c4}(O:8<=op.o0)(V:op.o0<=10)(eR:om k gs op= .ask a)(U:oO H w0 X M g gs K (eH k gs op)):a4 H w0 X M 63 #[.agg k.la.l.toArray,J k.a1,.slice g.A g.n g.c,.agg op.l.toArray,.slice k.bK k.aM k.bD] K Z:=by
 have fj:g.n=gs.length:=h.fh
 rw[eH,if_neg S,if_pos S,eR] at U
 refine a7 tx ?_
 intro az aF
 conv=>whnf
 exact DS
theorem anx{k:aI}{gs:List cz}{g:cg}{op:dp}(h:bc H k (aq.start gs) ⟨false,g.A,g.n,g.c⟩)(ai:k.log.length<=10000)(fu:gs.length<=200000){o:cI}{gv:List cz}(O:8<=op.o0)(V:op.o0<=10)(eR:om k gs op= .done o gv)(U:oO H w0 X M g gs K (eH k gs op)):a4 H w0 X M 63 #[.agg k.la.l.toArray,J k.a1,.slice g.A g.n g.c,.agg op.l.toArray,.slice k.bK k.aM k.bD] K Z:=by
 have fj:g.n=gs.length:=h.fh
 rw[eH,if_neg S,if_pos S,eR] at U
 refine a7 tx ?_
 intro az aF
 conv=>whnf
 repeat'((first
  |(show eS _ _;first|(refine eS.go ?_))
  |(show _/\_;first|(refine And.intro ?_ ?_))
  |(show bk _ _ _ _;first|((refine hT aD _ rfl ?_;intro _))|((refine h2 _ rfl ?_;intro _))|(refine uS ?_)|(refine IM ?_))
  |(show ay _ _ _ _ _ _;first|((refine Ri (gs:=gs) (g:=g) (op:=op) h ?_;rw[eR];intro br bz dS ep)))
  |(show eB _ _ _ _;first|(refine st ?_))
  |(refine hy.go ?_)
  |(refine pE.go ?_)
  |(exact c1 (U.1 br bz dS ep) cn)
  |(refine ba.dec (fun ab=>?_) (fun ab=>?_)<;>try(exfalso;omega))
  |(refine ba.v7 (fun ab=>?_) (fun ab=>?_)<;>try(exfalso;omega))
  |(refine ba.sk (fun ab=>?_) (fun ab=>?_)<;>try(exfalso;omega))
  |(refine ba.sM (fun ab=>?_) (fun ab=>?_)<;>try(exfalso;omega))
  |(refine ba.Uy (fun ab=>?_) (fun ab=>?_))
  |(refine ba.intro (fun ab=>?_) (fun ab=>?_))
  |(intro r jN))<;>(try conv=>whnf))
theorem anC{k:aI}{gs:List cz}{g:cg}{op:dp}(h:bc H k (aq.start gs) ⟨false,g.A,g.n,g.c⟩)(ai:k.log.length<=10000)(fu:gs.length<=200000){a:c4}(O:11<=op.o0)(V:op.o0<=15)(eR:pn k gs op= .ask a)(U:oO H w0 X M g gs K (eH k gs op)):a4 H w0 X M 63 #[.agg k.la.l.toArray,J k.a1,.slice g.A g.n g.c,.agg op.l.toArray,.slice k.bK k.aM k.bD] K Z:=by
 have fj:g.n=gs.length:=h.fh
 rw[eH,if_neg S,if_neg S,if_pos S,eR] at U
 refine a7 tx ?_
 intro az aF
 conv=>whnf
 exact DS
theorem anD{k:aI}{gs:List cz}{g:cg}{op:dp}(h:bc H k (aq.start gs) ⟨false,g.A,g.n,g.c⟩)(ai:k.log.length<=10000)(fu:gs.length<=200000){o:cI}{gv:List cz}(O:11<=op.o0)(V:op.o0<=15)(eR:pn k gs op= .done o gv)(U:oO H w0 X M g gs K (eH k gs op)):a4 H w0 X M 63 #[.agg k.la.l.toArray,J k.a1,.slice g.A g.n g.c,.agg op.l.toArray,.slice k.bK k.aM k.bD] K Z:=by
 have fj:g.n=gs.length:=h.fh
 rw[eH,if_neg S,if_neg S,if_pos S,eR] at U
 refine a7 tx ?_
 intro az aF
 conv=>whnf
 repeat'((first
  |(show eS _ _;first|(refine eS.go ?_))
  |(show _/\_;first|(refine And.intro ?_ ?_))
  |(show bk _ _ _ _;first|((refine hT aD _ rfl ?_;intro _))|((refine h2 _ rfl ?_;intro _))|(refine uS ?_)|(refine IM ?_))
  |(show ay _ _ _ _ _ _;first|((refine W2 (gs:=gs) (g:=g) (op:=op) h ?_;rw[eR];intro br bz dS ep)))
  |(show eB _ _ _ _;first|(refine st ?_))
  |(refine hy.go ?_)
  |(refine pE.go ?_)
  |(exact c1 (U.1 br bz dS ep) cn)
  |(refine ba.dec (fun ab=>?_) (fun ab=>?_)<;>try(exfalso;omega))
  |(refine ba.v7 (fun ab=>?_) (fun ab=>?_)<;>try(exfalso;omega))
  |(refine ba.sk (fun ab=>?_) (fun ab=>?_)<;>try(exfalso;omega))
  |(refine ba.sM (fun ab=>?_) (fun ab=>?_)<;>try(exfalso;omega))
  |(refine ba.Uy (fun ab=>?_) (fun ab=>?_))
  |(refine ba.intro (fun ab=>?_) (fun ab=>?_))
  |(intro r jN))<;>(try conv=>whnf))
theorem anr{k:aI}{gs:List cz}{g:cg}{op:dp}(h:bc H k (aq.start gs) ⟨false,g.A,g.n,g.c⟩)(ai:k.log.length<=10000)(fu:gs.length<=200000){a:c4}(O:16<=op.o0)(V:op.o0<=16)(eR:vw k gs op= .ask a)(U:oO H w0 X M g gs K (eH k gs op)):a4 H w0 X M 63 #[.agg k.la.l.toArray,J k.a1,.slice g.A g.n g.c,.agg op.l.toArray,.slice k.bK k.aM k.bD] K Z:=by
 have fj:g.n=gs.length:=h.fh
 rw[eH,if_neg S,if_neg S,if_neg S,if_pos S,eR] at U
 refine a7 tx ?_
 intro az aF
 conv=>whnf
 exact DS
theorem ans{k:aI}{gs:List cz}{g:cg}{op:dp}(h:bc H k (aq.start gs) ⟨false,g.A,g.n,g.c⟩)(ai:k.log.length<=10000)(fu:gs.length<=200000){o:cI}{gv:List cz}(O:16<=op.o0)(V:op.o0<=16)(eR:vw k gs op= .done o gv)(U:oO H w0 X M g gs K (eH k gs op)):a4 H w0 X M 63 #[.agg k.la.l.toArray,J k.a1,.slice g.A g.n g.c,.agg op.l.toArray,.slice k.bK k.aM k.bD] K Z:=by
 have fj:g.n=gs.length:=h.fh
 rw[eH,if_neg S,if_neg S,if_neg S,if_pos S,eR] at U
 refine a7 tx ?_
 intro az aF
 conv=>whnf
 repeat'((first
  |(show eS _ _;first|(refine eS.go ?_))
  |(show _/\_;first|(refine And.intro ?_ ?_))
  |(show bk _ _ _ _;first|((refine hT aD _ rfl ?_;intro _))|((refine h2 _ rfl ?_;intro _))|(refine uS ?_)|(refine IM ?_))
  |(show ay _ _ _ _ _ _;first|((refine QI (gs:=gs) (g:=g) (op:=op) h ?_;rw[eR];refine⟨fun br bz dS ep=>?_,fun aB=>?_⟩)))
  |(show eB _ _ _ _;first|(refine st ?_))
  |(refine hy.go ?_)
  |(refine pE.go ?_)
  |(exact c1 (U.1 br bz dS ep) cn)
  |(exact c1 (U.2 aB) cn)
  |(refine ba.dec (fun ab=>?_) (fun ab=>?_)<;>try(exfalso;omega))
  |(refine ba.v7 (fun ab=>?_) (fun ab=>?_)<;>try(exfalso;omega))
  |(refine ba.sk (fun ab=>?_) (fun ab=>?_)<;>try(exfalso;omega))
  |(refine ba.sM (fun ab=>?_) (fun ab=>?_)<;>try(exfalso;omega))
  |(refine ba.Uy (fun ab=>?_) (fun ab=>?_))
  |(refine ba.intro (fun ab=>?_) (fun ab=>?_))
  |(intro r jN))<;>(try conv=>whnf))
theorem ant{k:aI}{gs:List cz}{g:cg}{op:dp}(h:bc H k (aq.start gs) ⟨false,g.A,g.n,g.c⟩)(ai:k.log.length<=10000)(fu:gs.length<=200000){a:c4}(O:17<=op.o0)(V:op.o0<=18)(eR:uw k gs op= .ask a)(U:oO H w0 X M g gs K (eH k gs op)):a4 H w0 X M 63 #[.agg k.la.l.toArray,J k.a1,.slice g.A g.n g.c,.agg op.l.toArray,.slice k.bK k.aM k.bD] K Z:=by
 have fj:g.n=gs.length:=h.fh
 rw[eH,if_neg S,if_neg S,if_neg S,if_neg S,if_pos S,eR] at U
 refine a7 tx ?_
 intro az aF
 conv=>whnf
 exact DS
theorem anu{k:aI}{gs:List cz}{g:cg}{op:dp}(h:bc H k (aq.start gs) ⟨false,g.A,g.n,g.c⟩)(ai:k.log.length<=10000)(fu:gs.length<=200000){o:cI}{gv:List cz}(O:17<=op.o0)(V:op.o0<=18)(eR:uw k gs op= .done o gv)(U:oO H w0 X M g gs K (eH k gs op)):a4 H w0 X M 63 #[.agg k.la.l.toArray,J k.a1,.slice g.A g.n g.c,.agg op.l.toArray,.slice k.bK k.aM k.bD] K Z:=by
 have fj:g.n=gs.length:=h.fh
 rw[eH,if_neg S,if_neg S,if_neg S,if_neg S,if_pos S,eR] at U
 refine a7 tx ?_
 intro az aF
 conv=>whnf
 repeat'((first
  |(show eS _ _;first|(refine eS.go ?_))
  |(show _/\_;first|(refine And.intro ?_ ?_))
  |(show bk _ _ _ _;first|((refine hT aD _ rfl ?_;intro _))|((refine h2 _ rfl ?_;intro _))|(refine uS ?_)|(refine IM ?_))
  |(show ay _ _ _ _ _ _;first|((refine Q6 (gs:=gs) (g:=g) (op:=op) h ?_;rw[eR];refine⟨fun br bz dS ep=>?_,fun aB=>?_⟩)))
  |(show eB _ _ _ _;first|(refine st ?_))
  |(refine hy.go ?_)
  |(refine pE.go ?_)
  |(exact c1 (U.1 br bz dS ep) cn)
  |(exact c1 (U.2 aB) cn)
  |(refine ba.dec (fun ab=>?_) (fun ab=>?_)<;>try(exfalso;omega))
  |(refine ba.v7 (fun ab=>?_) (fun ab=>?_)<;>try(exfalso;omega))
  |(refine ba.sk (fun ab=>?_) (fun ab=>?_)<;>try(exfalso;omega))
  |(refine ba.sM (fun ab=>?_) (fun ab=>?_)<;>try(exfalso;omega))
  |(refine ba.Uy (fun ab=>?_) (fun ab=>?_))
  |(refine ba.intro (fun ab=>?_) (fun ab=>?_))
  |(intro r jN))<;>(try conv=>whnf))
theorem anq{k:aI}{gs:List cz}{g:cg}{op:dp}(h:bc H k (aq.start gs) ⟨false,g.A,g.n,g.c⟩)(ai:k.log.length<=10000)(fu:gs.length<=200000)(O:op.o0<1\/18<op.o0)(U:oO H w0 X M g gs K (eH k gs op)):a4 H w0 X M 63 #[.agg k.la.l.toArray,J k.a1,.slice g.A g.n g.c,.agg op.l.toArray,.slice k.bK k.aM k.bD] K Z:=by
 have fj:g.n=gs.length:=h.fh
 rw[eH,if_neg S,if_neg S,if_neg S,if_neg S,if_neg S] at U
 refine a7 tx ?_
 intro az aF
 conv=>whnf
 exact DS
theorem anE{k:aI}{gs:List cz}{g:cg}{op:dp}(h:bc H k (aq.start gs) ⟨false,g.A,g.n,g.c⟩)(ai:k.log.length<=10000)(fu:gs.length<=200000)(U:oO H w0 X M g gs K (eH k gs op)):a4 H w0 X M 63 #[.agg k.la.l.toArray,J k.a1,.slice g.A g.n g.c,.agg op.l.toArray,.slice k.bK k.aM k.bD] K Z:=by
 by_cases O:op.o0<1\/18<op.o0
 ·exact anq h ai fu O U
 ·rcases(show(1<=op.o0/\op.o0<=7)\/(8<=op.o0/\op.o0<=10)\/(11<=op.o0/\op.o0<=15)\/(16<=op.o0/\op.o0<=16)\/(17<=op.o0/\op.o0<=18) by omega) with V|V|V|V|V
  ·cases eR:kY k gs op with
   |ask a=>exact anA h ai fu V.1 V.2 eR U
   |done o gv=>exact anB h ai fu V.1 V.2 eR U
  ·cases eR:om k gs op with
   |ask a=>exact anw h ai fu V.1 V.2 eR U
   |done o gv=>exact anx h ai fu V.1 V.2 eR U
  ·cases eR:pn k gs op with
   |ask a=>exact anC h ai fu V.1 V.2 eR U
   |done o gv=>exact anD h ai fu V.1 V.2 eR U
  ·cases eR:vw k gs op with
   |ask a=>exact anr h ai fu V.1 V.2 eR U
   |done o gv=>exact ans h ai fu V.1 V.2 eR U
  ·cases eR:uw k gs op with
   |ask a=>exact ant h ai fu V.1 V.2 eR U
   |done o gv=>exact anu h ai fu V.1 V.2 eR U
end
def pv{ck:Type}(r:ax ck):Prop:=∃a,r= .ask a
theorem pv.and{ck gH:Type}{r:ax ck}{f:ck->aq->ax gH}(h:pv r):pv (r.and f):=by obtain⟨a,rfl⟩:=h;exact⟨a,rfl⟩
section
variable{k:aI}{s:aq}
theorem Ak{a:c4}(ai:k.log=[]):pv (hp k a s):=by
 unfold hp
 rw[ai]
 exact⟨_,rfl⟩
theorem EC{c:Int}(ai:k.log=[]):pv (gF k c s):=(Ak ai).and
theorem ED{σ gH:Type}{body:σ->aq->ax (gH ⊕ σ)}{x:σ}(ai:k.log=[])(ad:s.made=0)(h:pv (body x s)):pv (gQ k body x s):=by
 unfold gQ
 rw[ai,ad]
 exact h.and
theorem KN{slot cell:Int}(ai:k.log=[])(ad:s.made=0):pv (qy k slot cell s):=ED ai ad (EC ai).and
end
def fN(gs:List cz)(x:e9):Prop:=(∃a,x= .ask a)\/∃o,x= .done o gs/\o.err=1
section
variable{k:aI}{gs:List cz}{op:dp}
theorem fN.ref:fN gs (m9 gs):= .inr ⟨_,rfl,rfl⟩
theorem fN.ask{a:c4}:fN gs (.ask a):= .inl ⟨a,rfl⟩
theorem fN.of{r:ax cI}(h:pv r):fN gs (e9.of r):=by obtain⟨a,rfl⟩:=h;exact .inl ⟨a,rfl⟩
theorem fN.p4{r:ax cI}(h:pv r):fN gs (e9.p4 gs r):=by obtain⟨a,rfl⟩:=h;exact .inl ⟨a,rfl⟩
theorem fN.ite{c:Prop}[Decidable c]{x y:e9}(O:c->fN gs x)(V:¬c->fN gs y):fN gs (if c then x else y):=by
 split
 ·exact O av
 ·exact V av
theorem OD(ai:k.log=[]):fN gs (eH k gs op):=by
 have H5:k.log.length=0:=by rw[ai];rfl
 unfold eH
 refine fN.ite (fun _=>?_) fun _=>fN.ite (fun _=>?_) fun _=>fN.ite (fun _=>?_) fun _=>fN.ite (fun _=>?_) fun _=>fN.ite (fun _=>?_) fun _=>fN.ref
 ·unfold kY
  refine fN.ite (fun _=>fN.ref) fun _=>fN.ite (fun _=>fN.ref) fun _=>fN.ite (fun _=>?_) fun _=>fN.ite (fun _=>?_) fun _=>?_
  ·exact fN.ite (fun _=>fN.ref) fun _=>fN.of (Ak ai).and
  ·exact fN.ite (fun _=>fN.ref) fun _=>fN.ite (fun _=>fN.of (pv.and (ED ai rfl (EC ai).and))) fun _=>fN.ite (fun _=>fN.of (ED ai rfl (pv.and (pv.and (KN ai rfl))))) fun _=>fN.ref
  ·exact fN.ite (fun _=>fN.ref) fun _=>fN.ite (fun _=>fN.of (ED ai rfl (pv.and (KN ai rfl)))) fun _=>fN.ite (fun _=>fN.of (ED ai rfl (pv.and (KN ai rfl)))) fun _=>fN.ref
 ·unfold om
  exact fN.ite (fun _=>fN.ref) fun _=>fN.ite (fun _=>fN.p4 (EC ai).and) fun _=>fN.ite (fun _=>fN.p4 (EC ai).and) fun _=>fN.p4 (EC ai).and
 ·unfold pn
  refine fN.ite (fun _=>fN.ref) fun _=>fN.p4 ?_
  unfold tW
  split
  ·exact(Ak ai).and
  split
  ·exact(Ak ai).and
  split
  ·exact(pv.and (Ak ai)).and
  split
  ·exact(Ak ai).and
  ·exact(Ak ai).and
 ·unfold vw
  exact fN.ite (fun _=>fN.ref) fun _=>by rw[if_pos H5];exact fN.ask
 ·unfold uw
  exact fN.ite (fun _=>fN.ref) fun _=>by rw[if_pos H5];exact fN.ask
end
section
variable{k:aI}{s:aq}
theorem Vf{gs gv:List cz}{op:dp}{o:cI}(h:eH k gs op= .done o gv)(fi:op.o0=10):o.err=0\/o.err=1\/o.err=16:=by
 unfold eH at h
 rw[if_neg S,if_pos S] at h
 unfold om at h
 split at h
 ·injection h with h _
  subst h
  exact .inr (.inl rfl)
 rw[if_neg S,if_neg S] at h
 cases e:oE {k with a1:=op.o1} (aq.start []) with
 |ask a=>rw[e] at h;cases h
 |ok fX s'=>
  rw[e] at h
  injection h with h _
  subst h
  unfold oE at e
  obtain⟨t,s1,e1,e⟩:=ax.and_eq e
  obtain⟨b,aV,e2,e⟩:=ax.and_eq e
  split at e
  ·injection e with e _;subst e;exact .inr (.inr rfl)
  ·obtain⟨r,bu,cR,e⟩:=ax.and_eq e
   obtain⟨x,cw,dR,e⟩:=ax.and_eq e
   obtain⟨c,fF,gj,e⟩:=ax.and_eq e
   split at e
   ·injection e with e _;subst e;exact .inl rfl
   ·injection e with e _;subst e;exact .inl rfl
theorem arh{top n:Int}:bn k s (BD k top n s):=bn.load.and fun _ _ _=>bn.store.and fun _ _ _=>bn.ik
theorem aq2{slot gl p2:Int}:bn k s (A7 k slot gl p2 s):=bn.load.and fun _ _ _=>bn.ite (bn.load.and fun _ _ _=>bn.ite (bn.ik.and fun _ _ _=>bn.same) bn.same) bn.same
theorem arf{top:Int}:bn k s (BC k top s):=Gj.and fun _ _ _=>bn.ite bn.same (bn.load.and fun _ _ _=>bn.ik.and fun _ _ _=>bn.ite bn.same bn.same)
theorem aq6{top slot n v:Int}{x:Unit}:bn k s (Bo k top slot n v x s):=arh.and fun _ _ _=>bn.ite bn.same (bn.load.and fun _ _ _=>bn.ite (bn.ik.and fun _ _ _=>bn.ite (aq2.and fun _ _ _=>bn.ite (bn.store.and fun _ _ _=>JN.and fun _ _ _=>bn.same) bn.same) bn.same) bn.same)
theorem aq5{top slot v:Int}:bn k s (rP k top slot v s):=Pv.and fun _ _ _=>bn.ite (bn.store.and fun _ _ _=>bn.loop (fun _ _=>aq6) _ _ _) bn.same
theorem aq4{top slot:Int}{x:Unit}:bn k s (Bm k top slot x s):=arf.and fun _ _ _=>bn.ite (nF.and fun _ _ _=>bn.same) (bn.ite (bn.load.and fun _ _ _=>nF.and fun _ _ _=>JO.and fun _ _ _=>bn.same) (bn.load.and fun _ _ _=>bn.ite (bn.ik.and fun _ _ _=>bn.ite (nF.and fun _ _ _=>bn.same) bn.same) bn.same))
theorem aq3{top slot:Int}:bn k s (sO k top slot s):=bn.loop (fun _ _=>aq4) _ _ _
end
theorem WX{k:aI}{n:Int}:∀(m i:Nat) (s:aq),bn k s (w8 k n m i s)
 |0,_,s=>bn.same
 |m+1,i,s=>bn.store.and fun _ _ _=>WX m _ _
theorem aq0{k:aI}{n v:Int}{s:aq}:bn k s (yO k n v s):=bn.store.and fun _ _ _=>bn.store.and fun _ _ _=>WX _ _ _
theorem Pt{k:aI}{idx v:Int}:∀(m i:Nat) (s:aq),bn k s (rS k idx v m i s)
 |0,_,s=>bn.same
 |m+1,i,s=>bn.load.and fun _ _ _=>bn.ite (bn.ik.and fun _ _ _=>bn.ite bn.same (Pt m _ _)) (Pt m _ _)
theorem Ps{k:aI}{idx:Int}:∀(m i:Nat) (s:aq),bn k s (qU k idx m i s)
 |0,_,s=>bn.same
 |m+1,i,s=>bn.load.and fun _ _ _=>bn.ite (nF.and fun _ _ _=>bn.same) (bn.ite (Ps m _ _) (bn.ik.and fun _ _ _=>bn.ite (nF.and fun _ _ _=>bn.same) (Ps m _ _)))
section
variable{k:aI}{s:aq}
theorem W1{tail v w gl:Int}:bn k s (wo k tail v w gl s):=bn.ik.and fun _ _ _=>bn.ite (bn.ik.and fun _ _ _=>nF.and fun _ _ _=>bn.same) bn.same
theorem are{tail v gl w:Int}:bn k s (xV k tail v gl w s):=bn.load.and fun _ _ _=>bn.ite (bn.ite (Pv.and fun _ _ _=>bn.ite (aq0.and fun _ _ _=>W1) (nF.and fun _ _ _=>bn.same)) W1) (bn.ik.and fun _ _ _=>bn.same)
theorem arc{gl at_:Int}:bn k s (xU k gl at_ s):=bn.ite (nF.and fun _ _ _=>bn.same) (JN.and fun _ _ _=>nF.and fun _ _ _=>bn.same)
theorem ard{tail v gl w:Int}{r:Option Int}:bn k s (u1 k tail v gl w r s):=by
 cases r with
 |some a=>exact arc
 |none=>exact are
theorem arb{tail v gl:Int}:bn k s (qb k tail v gl s):=Gj.and fun _ _ _=>(Pt _ _ _).and fun _ _ _=>ard
theorem W0{head w ej:Int}:bn k s (uZ k head w ej s):=bn.ik.and fun _ _ _=>bn.ite (nF.and fun _ _ _=>JO.and fun _ _ _=>bn.same) bn.same
theorem ara{head tail w:Int}:bn k s (wi k head tail w s):=bn.load.and fun _ _ _=>bn.ite (nF.and fun _ _ _=>bn.same) (bn.load.and fun _ _ _=>bn.ite (bn.ik.and fun _ _ _=>W0) W0)
theorem aq9{head tail w:Int}{r:Option cI}:bn k s (uY k head tail w r s):=by
 cases r with
 |some a=>exact bn.same
 |none=>exact ara
theorem aq8{head tail:Int}{x:Unit}:bn k s (mL k head tail x s):=Gj.and fun _ _ _=>(Ps _ _ _).and fun _ _ _=>aq9
end
theorem amI:∀(b:Fin 64) (d:Fin 6),1<=b.val->b.val<2^(d.val+1)->nC (b.val:Int)<2^d.val:=by decide
theorem amJ{b:Int}{d:Nat}(aT:1<=b)(O:b<64)(V:d<6)(aa:b<2^(d+1)):nC b<2^d:=by
 have e:((b.toNat:Nat):Int)=b:=by omega
 have h:=amI ⟨b.toNat,by omega⟩ ⟨d,V⟩ (by show 1<=b.toNat;omega) (by
  show b.toNat<2^(d+1)
  have ag:((b.toNat:Nat):Int)<((2^(d+1):Nat):Int):=by rw[e];exact_mod_cast aa
  exact_mod_cast ag)
 rw[show(((⟨b.toNat,by omega⟩:Fin 64).val:Nat):Int)=b from e] at h
 exact h
theorem Rb{k:aI}{cv:Int}(ai:k.log.length<=10000):∀(f d:Nat) (b:Int) (s:aq) (x:Int×cI) (s':aq),d<=6->0<=b->b<64->b<2^d->s.made<=k.log.length->mf k cv f b s= .ok x s'->s'.gone.length<=s.gone.length+d*k.log.length/\s.made<=s'.made/\s'.made<=k.log.length
 |0,_,_,_,_,_,_,_,_,_,_,h=>by cases h
 |f+1,d,b,s,x,s',aL,aT,O,V,ad,h=>by
  unfold mf at h
  obtain⟨w,s1,e1,h⟩:=ax.and_eq h
  have hk:=sj e1
  split at h
  ·injection h with _ h;subst h;rw[hk.2.1];exact⟨Nat.le_add_right _ _,by omega,hk.2.2⟩
  ·split at h
   ·injection h with _ h;subst h;rw[hk.2.1];exact⟨Nat.le_add_right _ _,by omega,hk.2.2⟩
   ·obtain⟨a,aV,e2,h⟩:=ax.and_eq h
    have bh:=Jb (b:=b) S O
    match d,aL,V with
    |0,_,V=>exact absurd V (by simp;omega)
    |d+1,aL,V=>
     have iR:=Rb ai f d (nC b) s1 a aV S bh.1 S (amJ S O S V) hk.2.2 e2
     rw[hk.2.1] at iR
     rw[z5]
     split at h
     ·injection h with _ h;subst h;exact⟨by omega,by omega,by omega⟩
     ·obtain⟨y,bu,cR,h⟩:=ax.and_eq h
      have o9:=IQ ai iR.2.2 cR
      split at h
      ·injection h with _ h;subst h;exact⟨by omega,by omega,by omega⟩
      ·obtain⟨z,cw,dR,h⟩:=ax.and_eq h
       have pa:=sj dR
       injection h with _ h;subst h;rw[pa.2.1];exact⟨by omega,by omega,by omega⟩
theorem abC{k:aI}{cv kind size:Int}{s s':aq}{u:Unit}(h:tc k cv kind size s= .ok u s'):s'.gone=s.gone:=by
 unfold tc at h
 split at h
 ·injection h with _ h;subst h;rfl
 split at h
 ·obtain⟨r,s1,e1,h⟩:=ax.and_eq h
  have hk:=sj e1
  split at h
  ·obtain⟨lU,aV,e2,h⟩:=ax.and_eq h
   have iR:=sj e2
   injection h with _ h;subst h;rw[iR.2.1,hk.2.1]
  ·injection h with _ h;subst h;exact hk.2.1
 ·obtain⟨r,s1,e1,h⟩:=ax.and_eq h
  have hk:=sj e1
  injection h with _ h;subst h;exact hk.2.1
theorem aqj{k:aI}{cv:Int}{op:dp}{s s':aq}{o:cI}(kV:ig k.la)(ai:k.log.length<=10000)(aT:0<=op.aQ)(h:oD k cv op s= .ok o s'):s'.gone.length<=s.gone.length+7*k.log.length:=by
 have avV:=kV.buckets
 unfold oD at h
 obtain⟨r,s1,e1,h⟩:=ax.and_eq h
 have hk:=sj e1
 split at h
 ·injection h with _ h;subst h;rw[hk.2.1];omega
 ·rename_i ab
  obtain⟨a,aV,e2,h⟩:=ax.and_eq h
  have hr:0<=op.aQ.tmod r.1:=zV _ aT
  have hc:op.aQ.tmod r.1<r.1:=BZ _ S
  have iR:=Rb ai 64 6 _ s1 a aV (Nat.le_refl _) hr S (by show _<(64:Int);omega) hk.2.2 e2
  rw[hk.2.1] at iR
  split at h
  ·injection h with _ h;subst h;omega
  ·obtain⟨x,bu,cR,h⟩:=ax.and_eq h
   have o9:=IQ ai iR.2.2 cR
   split at h
   ·obtain⟨u,cw,dR,h⟩:=ax.and_eq h
    have pa:=abC dR
    injection h with _ h;subst h;rw[pa];omega
   ·injection h with _ h;subst h;omega
def eF(k:aI)(gs:List cz)(x:e9):Prop:=∀o gv,x= .done o gv->gv.length<=gs.length+7*k.log.length
section
variable{k:aI}{gs:List cz}{op:dp}
theorem eF.ref:eF k gs (m9 gs):=fun o gv h=>by injection h with _ h;subst h;omega
theorem eF.ask{a:c4}:eF k gs (.ask a):=fun o gv h=>by cases h
theorem eF.done{o:cI}:eF k gs (.done o gs):=fun o gv h=>by injection h with _ h;subst h;omega
theorem eF.p4{r:ax cI}:eF k gs (e9.p4 gs r):=by
 cases r with
 |ok a s=>exact eF.done
 |ask a=>exact eF.ask
theorem eF.of{r:ax cI}(h:bn k (aq.start gs) r)(U:∀a s',r= .ok a s'->s'.made<=k.log.length):eF k gs (e9.of r):=by
 cases r with
 |ok a s=>
  intro o gv e
  injection e with _ e
  have O:=h a s rfl
  have V:=U a s rfl
  have aa:(aq.start gs).gone.length=gs.length:=rfl
  have ag:(aq.start gs).made=0:=rfl
  subst e
  omega
 |ask a=>exact eF.ask
theorem eF.ite{c:Prop}[Decidable c]{x y:e9}(O:c->eF k gs x)(V:¬c->eF k gs y):eF k gs (if c then x else y):=by
 split
 ·exact O av
 ·exact V av
theorem di.end_{ck:Type}{r:ax ck}(h:di k (aq.start gs) r):∀a s',r= .ok a s'->s'.made<=k.log.length:=fun a s' e=>(h a s' e).2 (cY _)
theorem dx.end_{ck:Type}{r:ax ck}(h:dx k (aq.start gs) r):∀a s',r= .ok a s'->s'.made<=k.log.length:=fun a s' e=>(h a s' e).2
theorem akd{s:aq}{top slot v:Int}:di k s (rP k top slot v s):=(m1 HD).ee.and fun _ _ _=>by
 split
 ·exact dx.store.ee.and fun _ _ _=>(m1 RU).ee
 ·exact di.ok rfl
theorem anz(kV:ig k.la)(ai:k.log.length<=10000):eF k gs (eH k gs op):=by
 unfold eH
 refine eF.ite (fun _=>?_) fun _=>eF.ite (fun _=>?_) fun _=>eF.ite (fun _=>?_) fun _=>eF.ite (fun _=>?_) fun _=>eF.ite (fun _=>?_) fun _=>eF.ref
 ·unfold kY
  refine eF.ite (fun _=>eF.ref) fun _=>eF.ite (fun _=>eF.ref) fun _=>eF.ite (fun _=>?_) fun _=>eF.ite (fun _=>?_) fun _=>?_
  ·refine eF.ite (fun _=>eF.ref) fun h=>?_
   cases e:oD k op.o1 op (aq.start gs) with
   |ask a=>exact eF.ask
   |ok o s'=>
    intro fX gv e2
    injection e2 with _ e2
    subst e2
    exact aqj kV ai S e
  ·exact eF.ite (fun _=>eF.ref) fun _=>eF.ite (fun _=>eF.of aq5 akd.end_) fun _=>eF.ite (fun _=>eF.of aq3 (m1 RT).end_) fun _=>eF.ref
  ·exact eF.ite (fun _=>eF.ref) fun _=>eF.ite (fun _=>eF.of (bn.loop (fun _ _=>arb) _ _ _) (m1 RX).end_) fun _=>eF.ite (fun _=>eF.of (bn.loop (fun _ _=>aq8) _ _ _) (m1 RW).end_) fun _=>eF.ref
 ·unfold om
  exact eF.ite (fun _=>eF.ref) fun _=>eF.ite (fun _=>eF.p4) fun _=>eF.ite (fun _=>eF.p4) fun _=>eF.p4
 ·unfold pn
  exact eF.ite (fun _=>eF.ref) fun _=>eF.p4
 ·unfold vw
  exact eF.ite (fun _=>eF.ref) fun _=>eF.ite (fun _=>eF.ask) fun _=>eF.ite (fun _=>eF.done) fun _=>eF.ite (fun _=>eF.ask) fun _=>eF.ite (fun _=>eF.done) fun _=>eF.ite (fun _=>eF.ask) fun _=>eF.done
 ·unfold uw
  exact eF.ite (fun _=>eF.ref) fun _=>eF.ite (fun _=>eF.ask) fun _=>eF.done
end
def aI.cut(k:aI):aI:=⟨k.la,k.a1,k.log,none,0,0⟩
theorem Rf(k:aI):jy k=jy k.cut:=by kernel_rfl
theorem acM(k:aI):oV k=oV k.cut:=by kernel_rfl
theorem acR(k:aI):pk k=pk k.cut:=by kernel_rfl
theorem acL(k:aI):om k=om k.cut:=by kernel_rfl
theorem acT(k:aI):pn k=pn k.cut:=by kernel_rfl
theorem acJ(k:aI):vw k=vw k.cut:=by kernel_rfl
theorem acK(k:aI):uw k=uw k.cut:=by kernel_rfl
theorem acO(k:aI):m5 k=m5 k.cut:=by
 funext s op j
 show jy (qf k s j) s.gone op=jy (qf k.cut s j) s.gone op
 rw[show jy (qf k s j)=jy (qf k s j).cut from Rf _,show jy (qf k.cut s j)=jy (qf k.cut s j).cut from Rf _]
 rfl
theorem Rg(k:aI):m4 k=m4 k.cut:=by
 funext kind e4 order v s
 unfold m4
 rw[acO k]
 rfl
theorem Re(k:aI)(cv:Int):∀f b s,mf k cv f b s=mf k.cut cv f b s
 |0,b,s=>rfl
 |f+1,b,s=>by
  have O:mf k cv f (nC b)=mf k.cut cv f (nC b):=funext fun s=>Re k cv f _ s
  unfold mf
  rw[O,Rg k]
  rfl
theorem acS(k:aI):rV k=rV k.cut:=by
 funext gs op
 have h:oD k op.o1 op=oD k.cut op.o1 op:=by
  funext s
  have O:∀b,mf k op.o1 64 b=mf k.cut op.o1 64 b:=fun b=>funext fun s=>Re k op.o1 64 b s
  unfold oD
  simp only[O]
  rw[Rg k]
  rfl
 unfold rV
 rw[h]
 rfl
theorem acQ(k:aI):kY k=kY k.cut:=by
 funext gs op
 unfold kY
 rw[acS k,acM k,acR k]
theorem anv(k:aI)(gs:List cz)(op:dp):eH k gs op=eH k.cut gs op:=by
 unfold eH
 rw[acQ k,acL k,acT k,acJ k,acK k]
theorem asU {P:Prop} (h:P:=by
 repeat'((first
  |(refine yC (t:=200) (n:=3) (e:=3) bP aD aD ?_)
  |(refine yC (t:=201) (n:=8) (e:=200) bP aD aD ?_)
  |(refine uV (t:=201) (n:=8) (e:=200) 0 _ W W W bC bP aD W bC W ?_)
  |(refine uV (t:=201) (n:=8) (e:=200) 1 _ W W W bC bP aD W bC W ?_)
  |(refine uV (t:=201) (n:=8) (e:=200) 2 _ W W W bC bP aD W bC W ?_)
  |(refine uV (t:=201) (n:=8) (e:=200) 3 _ W W W bC bP aD W bC W ?_)
  |(refine uV (t:=201) (n:=8) (e:=200) 4 _ W W W bC bP aD W bC W ?_)
  |(refine uV (t:=201) (n:=8) (e:=200) 5 _ W W W bC bP aD W bC W ?_)
  |(refine uV (t:=201) (n:=8) (e:=200) 6 _ W W W bC bP aD W bC W ?_)
  |(refine uV (t:=201) (n:=8) (e:=200) 7 _ W W W bC bP aD W bC W ?_)
  |(refine lN (t:=200) (n:=3) (e:=3) 0 W bP aD bC ?_)
  |(refine lN (t:=200) (n:=3) (e:=3) 1 W bP aD bC ?_)
  |(refine lN (t:=200) (n:=3) (e:=3) 2 W bP aD bC ?_)
  |(refine c9.vd ?_)
  |(refine aa8 bh ?_)
  |(exact c1 U)
  |refine eg ?_
  |(refine eh ?_ ?_<;>(try with_reducible intro ab)<;>(try(exfalso;omega)))
  |with_reducible intro r)<;>(try conv=>whnf))):P:=h
structure h9 where
 bt:Int
 nodes:Int
 buckets:Int
 h6:Int
 en:Int
 cells:Int
 maps:Int
 dj:Int
 cF:Int
def h9.l(c:h9):List Value:=[J c.bt,J c.nodes,J c.buckets,J c.h6,J c.en,J c.cells,J c.maps,J c.dj,J c.cF]
structure BO(c:h9):Prop where
 bt:1<=c.bt/\c.bt<=8
 buckets:1<=c.buckets/\c.buckets<=64
 h6:1<=c.h6/\c.h6<=8
 en:1<=c.en/\c.en<=64
 cells:0<=c.cells/\c.cells<=16
 maps:0<=c.maps/\c.maps<=8
 dj:0<=c.dj/\c.dj<=8
 cF:0<=c.cF/\c.cF<=8
def Bn(b:Int):Prop:=b=1\/b=2\/b=4\/b=8\/b=16\/b=32\/b=64
section
theorem aa8{P:Program}{C:an}{t:TypeId}{b:Int}(h:Bn b){K:Value->an->Prop}(U:K (J 0) C):bk P C (binOp .and t (J b) (J (IntKind.i64.wrap (b-1)))) K:=by
 refine O5 _ (fun w=>?_) U
 rcases h with rfl|rfl|rfl|rfl|rfl|rfl|rfl<;>rfl
theorem abH{c:h9}(h:BO c)(bh:Bn c.buckets)(U:K (.bool true) (Y H w0 X M)):a4 H w0 X M 78 #[.agg c.l.toArray] K Z:=by
 obtain⟨O,V,aa,ag,a6,bU,dh,cT⟩:=h
 refine a7 atS ?_
 intro az aF
 conv=>whnf
 exact asU
end
theorem Xv {P:Prop} (h:P:=by
 repeat'((first
  |(refine abH h.KT bh ?_)
  |(rw[e2])
  |(rw[cR])
  |(refine amL mw S S ?_)
  |(refine kZ W ?_)
  |(refine OV (a:=Fy c) (akq h) (fun v ah=>?_);subst ah)
  |(refine QJ (r:=pj (Fy c)) (by have:=VU (Fy c);omega) (fun v ah=>?_);subst ah)
  |(exact c1 U)
  |(refine fv aS.mem aD W rfl ?_)
  |(refine tV aD aS ?_;rw[e1])
  |(rw[wq])
  |(exact cA U)
  |refine eg ?_
  |(refine eh ?_ ?_<;>(try with_reducible intro ab)<;>(try(exfalso;omega)))
  |with_reducible intro r)<;>(try conv=>whnf))):P:=h
section
def fJ(c:h9):c8:=
 let UW:=(0+1*1+1*1+1*1+1*1:Int)+c.bt*1
 let VH:=UW+c.bt*1
 let Rh:=VH+c.bt*3
 let VS:=Rh+c.bt*3
 let WU:=VS+c.bt*vx (pj ⟨c.bt,c.nodes,c.buckets,c.h6,c.en,c.cells,c.maps,c.dj,c.cF,0,0,0,0,0,0,0,0,0,0,0,0,0,0,0,0⟩)
 let ce:=WU+c.en*4
 let T3:=ce+c.cells*1
 let st:=T3+c.maps*(2+c.buckets)
 let ch:=st+c.dj*(1+c.h6)
 let p2:=ch+c.cF*2
 ⟨c.bt,c.nodes,c.buckets,c.h6,c.en,c.cells,c.maps,c.dj,c.cF,0,0+1*1,0+1*1+1*1,0+1*1+1*1+1*1,0+1*1+1*1+1*1+1*1,UW,VH,Rh,VS,WU,ce,T3,st,ch,p2,p2+c.nodes*8⟩
structure D6(c:h9):Prop where
 KT:BO c
 pow:Bn c.buckets
 nodes:c.maps+c.cF<=c.nodes/\c.nodes<=1000
theorem Bb{a b m n:Int}(O:0<=a/\a<=m)(V:0<=b/\b<=n):0<=a*b/\a*b<=m*n:=
 ⟨Int.mul_nonneg O.1 V.1,Int.le_trans (Kq O.2 V.1) (Kp V.2 S)⟩
theorem TT{c:h9}(h:D6 c):ig (fJ c):=by
 obtain⟨⟨O,V,aa,ag,a6,bU,dh,cT⟩,_,fz⟩:=h
 have m8:=Bb (a:=c.bt) (b:=vx (pj ⟨c.bt,c.nodes,c.buckets,c.h6,c.en,c.cells,c.maps,c.dj,c.cF,0,0,0,0,0,0,0,0,0,0,0,0,0,0,0,0⟩)) (m:=8) (n:=1000) S (G2 _)
 have p8:=Bb (a:=c.maps) (b:=2+c.buckets) (m:=8) (n:=66) S S
 have wg:=Bb (a:=c.dj) (b:=1+c.h6) (m:=8) (n:=9) S S
 refine⟨O,⟨by show 0<=c.nodes;omega,fz.2⟩,V,aa,ag,a6,bU,dh,cT,fun x aW=>?_⟩
 simp only[fJ,mz,sa,or_false] at aW
 omega
theorem amL{at_ m e:Int}{b:Nat}{M:aw}{i:Nat}(aS:h8 M i (ae b) (.cs 3 [J at_]))(O:0<=at_/\at_<=100000)(V:0<=m*e/\m*e<=100000)(U:qc M i (ae b,.cs 3 [J (at_+m*e)]) fun aE=>K (J at_) (Y H w0 X aE)):a4 H w0 X M 79 #[J m,J e,ae b] K Z:=by
 rw[wq] at U
 have e1:IntKind.i64.wrap (at_+IntKind.i64.wrap (m*e))=at_+m*e:=by rw[cK (x:=m*e) S];exact cK S
 refine a7 atT ?_
 intro az aF
 conv=>whnf
 exact Xv
def Fy(c:h9):c8:={fJ c with ring:=0,task:=0,cell:=0,map:=0,stack:=0,chan:=0,node:=0,size:=0}
theorem akq{c:h9}(h:D6 c):ig (Fy c):=by
 have ai:=TT h
 refine⟨ai.bt,ai.nodes,ai.buckets,ai.h6,ai.en,ai.cells,ai.maps,ai.dj,ai.cF,fun x aW=>?_⟩
 have aW:x∈[(fJ c).done,(fJ c).count,(fJ c).era,(fJ c).free,(fJ c).alive,(fJ c).owner,(fJ c).qV,(fJ c).qv,0,0,0,0,0,0,0,0]:=aW
 have aT:x∈[(fJ c).done,(fJ c).count,(fJ c).era,(fJ c).free,(fJ c).alive,(fJ c).owner,(fJ c).qV,(fJ c).qv]\/x=0:=by
  have aW:x∈[(fJ c).done,(fJ c).count,(fJ c).era,(fJ c).free,(fJ c).alive,(fJ c).owner,(fJ c).qV,(fJ c).qv]++List.replicate 8 0:=aW
  rcases iw.1 aW with h|h
  ·exact .inl h
  ·exact .inr (List.eq_of_mem_replicate h)
 rcases aT with aT|rfl
 ·exact ai.at_ x (List.mem_append_left [(fJ c).ring,(fJ c).task,(fJ c).cell,(fJ c).map,(fJ c).stack,(fJ c).chan,(fJ c).node,(fJ c).size] aT)
 ·omega
theorem akx{c:h9}(h:D6 c)(U:K (.tuple #[.agg (fJ c).l.toArray,J 0]) (Y H w0 X M)):a4 H w0 X M 35 #[.agg c.l.toArray] K Z:=by
 have ab:=h.KT
 have bh:=h.pow
 have aB:=h.nodes
 obtain⟨O,V,aa,ag,a6,bU,dh,cT⟩:=ab
 have m8:=Bb (a:=c.bt) (b:=vx (pj (Fy c))) (m:=8) (n:=1000) S (G2 _)
 have p8:=Bb (a:=c.maps) (b:=2+c.buckets) (m:=8) (n:=66) S S
 have wg:=Bb (a:=c.dj) (b:=1+c.h6) (m:=8) (n:=9) S S
 have be:IntKind.i64.wrap (c.maps+c.cF)=c.maps+c.cF:=cK S
 have e2:IntKind.i64.wrap (2+c.buckets)=2+c.buckets:=cK S
 have cR:IntKind.i64.wrap (1+c.h6)=1+c.h6:=cK S
 refine a7 atE ?_
 intro az aF
 conv=>whnf
 exact Xv
end
end Go.Proofs.YtcflcebplhdcpaaGreat
