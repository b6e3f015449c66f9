/- Lemmas, part 40; each states its own conditions. -/
import Derived.Test.YtcflcebplhdcpaaGreatL37
import Derived.Test.YtcflcebplhdcpaaGreatL39
namespace Go.Proofs.YtcflcebplhdcpaaGreat
open Go.RowKit
set_option linter.unusedSimpArgs false
set_option linter.unusedVariables false
set_option maxRecDepth 100000
set_option maxHeartbeats 16000000
variable{H w0:World}{X:Nat->Prop}{M:aw}{K:Value->an->Prop}{Z:bF}
theorem PR {P:Prop} (h:P:=by
 repeat'((first
  |(show ih _ _ _ _;first|(refine uT (mi 0 _ rfl) aD W ?_)|(refine uT (mi 1 _ rfl) aD W ?_)|(refine uT (dS 0 _ rfl) aD W ?_)|(refine uT (dS 1 _ rfl) aD W ?_)|(refine uT (ka 0 _ rfl) aD W ?_)|(refine uT (ka 1 _ rfl) aD W ?_))
  |(show bk _ _ _ _;first|(refine hT aD _ rfl ?_;intro _)|(refine h2 _ rfl ?_;intro _)|(refine mo (mi 0 _ rfl) aD W ?_)|(refine mo (mi 1 _ rfl) aD W ?_)|(refine mo (dS 0 _ rfl) aD W ?_)|(refine mo (dS 1 _ rfl) aD W ?_)|(refine mo (ka 0 _ rfl) aD W ?_)|(refine mo (ka 1 _ rfl) aD W ?_))
  |(show ay _ _ _ _ _ _;first|(refine UZ h.la (fun v ah=>?_);subst ah)|(refine KK h.la (fun v ah=>?_);subst ah)|(refine VP ?_)|(refine Q8 h.la (fun v ah=>?_);subst ah))
  |(show gn _ _ _ _ _;first|(refine xx hs 2 xQ S h.tF h.kJ 0 rfl S (fun wY o0 avK mi=>?_))|(refine xx hs 2 xQ S h.tF h.kJ 1 rfl S (fun b1 o1 ep dS=>?_))|(refine xx hs 2 xQ S h.tF h.kJ 2 rfl S (fun b2 aQ iz ka=>?_)))
  |(rw[uw,if_pos S] at U;exact c1 (U.2 rfl) cn)
  |(rw[uw,if_neg S] at U;first|(rw[if_pos S,if_pos S] at U;exact c1 U cn)|(rw[if_pos S,if_neg S] at U;exact c1 U cn)|(rw[if_neg S,if_pos S,IV (j:=0) S] at U;exact c1 (U.2 rfl) cn)|(rw[if_neg S,if_neg S] at U;exact c1 (U.2 rfl) cn))
  |(rw[vw] at U;first|(rw[if_pos S] at U;exact c1 (U.2 rfl) cn)|(rw[if_neg S,if_pos S] at U;exact c1 U cn)|(rw[if_neg S,if_neg S,IV (j:=0) S] at U;first|(rw[if_pos S] at U;exact c1 (U.2 rfl) cn)|(rw[if_neg S,if_pos S] at U;exact c1 U cn)|(rw[if_neg S,if_neg S,IV (j:=1) S] at U;first|(rw[if_pos S] at U;exact c1 (U.2 rfl) cn)|(rw[if_neg S,if_pos S] at U;exact c1 U cn)|(rw[if_neg S,if_neg S,IV (j:=2) S] at U;exact c1 (U.2 rfl) cn))))
  |(exact cA U)
  |refine eg ?_
  |(refine eh ?_ ?_<;>(try with_reducible intro ab)<;>(try(exfalso;omega)))
  |with_reducible intro r)<;>(try conv=>whnf))):P:=h
def oO(H w0:World)(X:Nat->Prop)(M:aw)(g:cg)(L1:List cz)(K:Value->an->Prop):e9->Prop
 | .ask a=>K (.tuple #[.agg a.l.toArray,.agg #[J 0,.bool false,J 0,J 0,.slice none 0 0],.bool false]) (Y H w0 X M)
 | .done o gs=>(∀aR aN,gs.length<=aN->(0<aN->∃b,aR=some ⟨b,0,none⟩)->K (.tuple #[.agg #[J 0,J 0,J 0,J 0],.agg (lp o aR gs.length aN).toArray,.bool true]) (Y H w0 X ((.slice aR gs.length aN,.row 187 2 (gs.flatMap ft))::M)))/\(gs=L1->K (.tuple #[.agg #[J 0,J 0,J 0,J 0],.agg (lp o g.A g.n g.c).toArray,.bool true]) (Y H w0 X M))
theorem oO.kR{H w0:World}{X:Nat->Prop}{M:aw}{g:cg}{L1:List cz}{K:Value->an->Prop}{x:e9}(h:oO H w0 X M g L1 K x):jn H w0 X M K x:=by
 cases x with
 |ask a=>exact h
 |done o gs=>exact h.1
def vw(k:aI)(gs:List cz)(op:dp):e9:=
 if Dw k.la op.aQ<0\/vy k.la op.bl<0 then m9 gs else
 if k.log.length=0 then .ask ⟨1,Dw k.la op.aQ,0,0⟩ else
 if(k.log.getD 0 (0,false)).1=op.bl\/vy k.la (k.log.getD 0 (0,false)).1<0 then .done ⟨0,false,0,0⟩ gs else
 if k.log.length=1 then .ask ⟨1,vy k.la (k.log.getD 0 (0,false)).1,0,0⟩ else
 if(k.log.getD 1 (0,false)).1≠0 then .done ⟨0,false,0,1⟩ gs else
 if k.log.length=2 then .ask ⟨3,Dw k.la op.aQ,(k.log.getD 0 (0,false)).1,op.bl⟩ else .done ⟨0,(k.log.getD 2 (0,false)).2,0,2⟩ gs
def uw(k:aI)(gs:List cz)(op:dp):e9:=
 if Cl k.la op.aQ<0 then m9 gs else
 if k.log.length=0 then .ask (if op.o0=18 then⟨2,Cl k.la op.aQ,0,op.bl⟩ else⟨1,Cl k.la op.aQ,0,0⟩) else
 .done ⟨if op.o0=17 then(k.log.getD 0 (0,false)).1 else 0,false,0,0⟩ gs
section
theorem VP{A:Option Addr}{n c:Nat}(U:K (.tuple #[.agg #[J 0,J 0,J 0,J 0],.agg #[J 0,.bool false,J 1,J (-1),.slice A n c],.bool true]) (Y H w0 X M)):a4 H w0 X M 101 #[.slice A n c] K Z:=by
 refine a7 ahy ?_
 intro az aF
 conv=>whnf
 exact PR
theorem IV{k:aI}{j:Nat}(h:j<k.log.length):k.log.getD j (0,false)=k.log[j]:=by simp[List.getD,h]
theorem QI{k:aI}{gs:List cz}{g:cg}{op:dp}(h:bc H k (aq.start gs) ⟨false,g.A,g.n,g.c⟩)(U:oO H w0 X M g gs K (vw k gs op)):a4 H w0 X M 99 #[.agg k.la.l.toArray,.slice g.A g.n g.c,.agg op.l.toArray,.slice k.bK k.aM k.bD] K Z:=by
 have fj:g.n=gs.length:=h.fh
 have qC:=h.kJ
 have lL:=h.la.bt
 refine a7 akb ?_
 intro az aF
 conv=>whnf
 exact PR
theorem Q6{k:aI}{gs:List cz}{g:cg}{op:dp}(h:bc H k (aq.start gs) ⟨false,g.A,g.n,g.c⟩)(U:oO H w0 X M g gs K (uw k gs op)):a4 H w0 X M 100 #[.agg k.la.l.toArray,.slice g.A g.n g.c,.agg op.l.toArray,.slice k.bK k.aM k.bD] K Z:=by
 have fj:g.n=gs.length:=h.fh
 have qC:=h.kJ
 have lL:=h.la.bt
 refine a7 ahx ?_
 intro az aF
 conv=>whnf
 exact PR
end
theorem Gz {P:Prop} (h:P:=by
 repeat'((first
  |(show bk _ _ _ _;first|(refine hT aD _ rfl ?_;intro _)|(refine h2 _ rfl ?_;intro _)|(refine jx a.cell.toNat tn (List.Mem.head _) rfl S ?_)|(refine jx (xs:=[(sY (xs.getD a.cell.toNat 0) {a with cell:=0}).1]) 0 hr (List.Mem.head _) rfl (El 0) ?_))
  |(show ay _ _ _ _ _ _;first|(refine aoW (a:=a) (fun aP=>?_) (fun aP=>?_))|(refine ay.anchor [] _ OL.dg rfl (fun E w fV a2=>Uh (a:={a with cell:=0}) ((a2.kg (List.Mem.head _) ad).one (j:=a.cell.toNat) S) (fun af=>hR.go (aE:=[]) ?_) (fun b3 br bz dS ep=>hR.go (aE:=[(Value.slice br 1 bz,aY.row 3 1 (is [(sY (xs.getD a.cell.toNat 0) {a with cell:=0}).1]))]) ?_)))|(refine ay.anchor [] _ OL.dg rfl (fun E w fV a2=>Uh (a:=a) (a2.kg (List.Mem.head _) ad) (fun af=>hR.go (aE:=[]) ?_) (fun b3 br bz dS ep=>?_))))
  |(show gn _ _ _ _ _;first|(refine uQ b0 aj aT O (fun b tn=>?_))|(refine uQ ep dS (my _) bC (fun b1 hr=>?_))|(refine uQ b0 aj S S (fun b tn=>?_)))
  |(show eB _ _ _ _;first|(refine sU a.cell.toNat tn h8.here rfl S ?_)|(refine sU a.cell.toNat tn (.there .here) rfl S ?_)|(refine sU at_.toNat tn h8.here rfl S ?_))
  |(show kN _ _ _ _ _ _ _;first|(refine acH a.cell.toNat 1 S ?_ S ?_;focus(rw[cK S];omega)))
  |(rw[if_pos S] at U;exact cA U)
  |(rw[if_neg S] at U;exact cA U)
  |(exfalso;have:=LL b3;omega)
  |(refine ba.sk (b:=0) (fun ru=>absurd ru af) (fun ru=>?_))
  |(refine ba.sk (b:=0) (fun ru=>?_) (fun ru=>absurd rfl ru))
  |(rw[g2,if_pos S] at U;rw[<-aW] at U;exact cA U)
  |(rw[g2,if_neg S,if_pos av] at U;exact c1 U)
  |(rw[g2,if_neg S,if_neg av] at U;exact c1 U)
  |(rw[sY,if_pos S,if_pos S] at U;skip;exact cA U)
  |(rw[sY,if_pos S,if_neg S] at U;rw[Wr S] at U;exact cA U)
  |(rw[sY,if_neg S,if_pos S] at U;skip;exact cA U)
  |(rw[sY,if_neg S,if_neg S,if_pos S] at U;skip;exact cA U)
  |(rw[sY,if_neg S,if_neg S,if_neg S] at U;rw[Wr S] at U;exact cA U)
  |(rw[th,if_neg aP] at U;exact cA U)
  |(rw[th,if_pos aP,if_pos S] at U;exact cA U)
  |(rw[th,if_pos aP,if_neg S] at U;exact cA U)
  |(by_cases bd:a.fk=0;(rw[show(a.fk==(0:Int))=true from by simp[bd]];exact cA (O (by unfold wj;omega)));(rw[show(a.fk==(0:Int))=false from by simp[bd]];exact cA (V (by unfold wj;omega))))
  |(refine cA (O ?_);(unfold wj;omega))
  |(refine cA (V ?_);(unfold wj;omega))
  |refine eg ?_
  |(refine eh ?_ ?_<;>(try with_reducible intro ab)<;>(try(exfalso;omega)))
  |with_reducible intro r)<;>(try conv=>whnf))):P:=h
def wj(a:c4):Prop:=0<=a.cell/\((a.kind=1/\a.zq=0/\a.fk=0)\/((a.kind=2\/a.kind=4\/a.kind=5)/\a.fk=0)\/a.kind=3)
instance(a:c4):Decidable (wj a):=by unfold wj;exact inferInstance
def th(n:Int)(a:c4):Int:=if wj a then(if n<=a.cell then 12 else 0) else 1
def sY(oq:Int)(a:c4):Int×oP:=if a.kind=3 then(if oq=a.fk then(a.zq,(oq,true)) else(oq,(oq,false))) else if a.kind=2\/a.kind=5 then(a.zq,(oq,true)) else if a.kind=4 then(IntKind.i64.wrap (oq+a.zq),(oq,true)) else(oq,(oq,true))
section
theorem aoW{a:c4}(O:wj a->K (.bool true) (Y H w0 X M))(V:¬wj a->K (.bool false) (Y H w0 X M)):a4 H w0 X (M) 216 #[.agg a.l.toArray] K Z:=by
 refine a7 aod ?_
 intro az aF
 conv=>whnf
 exact Gz
theorem adL{a:c4}{n:Int}(U:K (J (th n a)) (Y H w0 X M)):a4 H w0 X (M) 141 #[J n,.agg a.l.toArray] K Z:=by
 refine a7 an2 ?_
 intro az aF
 conv=>whnf
 exact Gz
theorem LL{n:Int}{a:c4}(h:th n a=0):0<=a.cell/\a.cell<n:=by
 unfold th at h
 split at h
 ·rename_i aP
  unfold wj at aP
  split at h<;>omega
 ·omega
theorem Wr{xs:List Int}{j:Nat}(h:j<xs.length):xs.set j (xs.getD j 0)=xs:=by
 apply List.ext_getElem (by simp)
 intro i O V
 rw[List.getElem_set]
 split
 ·rename_i e;subst e;simp[List.getD,h]
 ·rfl
theorem asp{a:c4}{A:Option Addr}{n c:Nat}{xs:List Int}(b0:0<c->∃b,A=some ⟨b,0,none⟩)(aW:n=xs.length)(aj:n<=c)(aT:0<=a.cell)(O:a.cell<n)(U:K (.agg (hs (sY (xs.getD a.cell.toNat 0) a).2).toArray) (Y H w0 X ((Value.slice A n c,aY.row 3 1 (is (xs.set a.cell.toNat (sY (xs.getD a.cell.toNat 0) a).1)))::M))):a4 H w0 X ((Value.slice A n c,aY.row 3 1 (is xs))::M) 142 #[.slice A n c,.agg a.l.toArray] K Z:=by
 refine a7 an3 ?_
 intro az aF
 conv=>whnf
 exact Gz
theorem Uh{a:c4}{A:Option Addr}{n c:Nat}{xs:List Int}(h:fG H A n c xs)(af:th n a≠0->K (.tuple #[.agg #[.slice A n c],.agg (hs (0,false)).toArray,J (th n a)]) (Y H w0 X M))(U:th n a=0->∀aR aN,n<=aN->(0<aN->∃b,aR=some ⟨b,0,none⟩)->K (.tuple #[.agg #[.slice aR n aN],.agg (hs (sY (xs.getD a.cell.toNat 0) a).2).toArray,J 0]) (Y H w0 X ((Value.slice aR n aN,aY.row 3 1 (is (xs.set a.cell.toNat (sY (xs.getD a.cell.toNat 0) a).1)))::M))):a4 H w0 X (M) 102 #[.agg #[.slice A n c],.agg a.l.toArray] K Z:=by
 refine a7 OL ?_
 intro az aF
 conv=>whnf
 repeat'((first
  |(show eS _ _;first|(refine eS.go ?_))
  |(show gN _ _ _;first|(refine gN.mk (ie.refl _) ?_))
  |(show _/\_;first|(refine And.intro ?_ ?_))
  |(show ih _ _ _ _;first|(refine IS ?_)|(refine NM ?_))
  |(show bk _ _ _ _;first|((refine hT aD _ rfl ?_;intro _))|((refine h2 _ rfl ?_;intro _))|(refine uS ?_)|(refine IM ?_))
  |(show ay _ _ _ _ _ _;first|(refine adL (a:=a) ?_)|(refine yG h (fun br bz dS ep=>?_))|(refine asp ep h.len dS (LL ru).1 (LL ru).2 ?_))
  |(show eB _ _ _ _;first|(refine st ?_))
  |(refine hy.go ?_)
  |(refine pE.go ?_)
  |(refine ba.sM (fun ru=>?_) (fun ru=>?_))
  |(exact cA (af ru))
  |(exact cA (U ru br bz dS ep))
  |(refine ba.dec (fun ab=>?_) (fun ab=>?_)<;>try(exfalso;omega))
  |(refine ba.v7 (fun ab=>?_) (fun ab=>?_)<;>try(exfalso;omega))
  |(refine ba.sk (fun ab=>?_) (fun ab=>?_)<;>try(exfalso;omega))
  |(refine ba.sM (fun ab=>?_) (fun ab=>?_)<;>try(exfalso;omega))
  |(refine ba.Uy (fun ab=>?_) (fun ab=>?_))
  |(refine ba.intro (fun ab=>?_) (fun ab=>?_))
  |(intro r jN))<;>(try conv=>whnf))
theorem acH{A:Option Addr}{n c sz:Nat}{lo hi:Int}{K:Value->Prop}(l m:Nat)(e1:lo=(l:Int))(e2:hi=((l+m:Nat):Int))(h:l+m<=c)(U:K (.slice (if c=l then A else A.map (·.add (l*sz))) m (c-l))):kN A n c sz (some lo) (some hi) K:=by
 subst e1 e2
 refine⟨by simp,by simp;omega,by simp;omega,?_⟩
 have:((some ((l+m:Nat):Int)).getD n).toNat-((some (l:Int)).getD 0).toNat=m:=by simp only[Option.getD_some,r8];omega
 rw[this]
 simpa using U
theorem fG.one{E:World}{A:Option Addr}{n c:Nat}{xs:List Int}(h:fG E A n c xs){j:Nat}(a9:j<n):fG E (if c=j then A else A.map (·.add (j*1))) 1 (c-j) [xs.getD j 0]:=by
 have O:=h.len
 have V:=h.cap
 rw[if_neg S]
 refine⟨dU.sub h.rd _ _ fun i v ah=>?_,rfl,by omega,by omega⟩
 have hi:=(l0.1 ah).1
 simp at hi
 subst hi
 rw[h1,vp,Fq j S]
 simpa[is] using ah
def g2(xs:List Int)(a:c4):List Int×oP×Int:=
 if a.cell<0\/xs.length<=a.cell then(xs,(0,false),th xs.length a) else
 if th 1 {a with cell:=0}=0 then(xs.set a.cell.toNat (sY (xs.getD a.cell.toNat 0) {a with cell:=0}).1,(sY (xs.getD a.cell.toNat 0) {a with cell:=0}).2,0) else(xs,(0,false),th 1 {a with cell:=0})
theorem W9{a:c4}{A:Option Addr}{n c:Nat}{xs:List Int}(b0:0<c->∃b,A=some ⟨b,0,none⟩)(aW:n=xs.length)(aj:n<=c)(ad:n<=1000000)(U:K (.tuple #[.agg (hs (g2 xs a).2.1).toArray,J (g2 xs a).2.2]) (Y H w0 X ((Value.slice A n c,aY.row 3 1 (is (g2 xs a).1))::M))):a4 H w0 X ((Value.slice A n c,aY.row 3 1 (is xs))::M) 64 #[.slice A n c,.agg a.l.toArray] K Z:=by
 refine a7 aou ?_
 intro az aF
 conv=>whnf
 exact Gz
theorem Vp{A:Option Addr}{n c:Nat}{xs:List Int}{at_ v:Int}(b0:0<c->∃b,A=some ⟨b,0,none⟩)(aW:n=xs.length)(aj:n<=c)(ad:n<=1000000)(U:K (.tuple #[]) (Y H w0 X ((Value.slice A n c,aY.row 3 1 (is (if 0<=at_/\at_<n then xs.set at_.toNat v else xs)))::M))):a4 H w0 X ((Value.slice A n c,aY.row 3 1 (is xs))::M) 87 #[.slice A n c,J at_,J v] K Z:=by
 refine a7 aov ?_
 intro az aF
 conv=>whnf
 exact Gz
end
theorem BJ {P:Prop} (h:P:=by
 repeat'((first
  |(show ih _ _ _ _;first|(refine uT av aD W ?_))
  |(show bk _ _ _ _;first|(refine mo av aD W ?_))
  |(show gn _ _ _ _ _;first|(refine M9 a8 w.toNat S S (fun b off xd im=>?_))|(refine tv hi w.toNat S S (fun b off xd im=>?_)))
  |(show ay _ _ _ _ _ _;first|(refine QH a8 hi (fun xh=>?_) (fun xh=>?_))|(refine Uu a8 ?_))
  |(exact cA (V (fun q=>xh q.1)))
  |(by_cases bd:j0 al w=w;(rw[show(j0 al w !=w)=false from by simp[bd]];exact cA (V (fun q=>q.2 bd)));(rw[show(j0 al w !=w)=true from by simp[bd]];exact cA (O ⟨xh,bd⟩)))
  |(refine cA (V ?_);(rintro⟨m8,p8,wg,Ji,ON,aot,axs⟩;first|omega|(simp_all;done)))
  |(by_cases bd:bN.getD w.toNat 0<(m.ec:Int);(rw[decide_eq_true bd];exact cA (O ⟨by simp_all,by omega,by omega,by simp_all,by omega,by omega,bd⟩));(rw[decide_eq_false bd];exact cA (V (fun q=>bd q.2.2.2.2.2.2))))
  |(exact cA U)
  |(rw[<-ai,if_pos ab] at aa;rw[<-aa] at U;exact cA U)
  |(exact cC (X:=Nat) (i+1) (by show n+1-(i+1)<n+1-i;omega) ⟨by omega,by omega,by rw[show n+1-(i+1)=n-i by omega];rw[<-ai,if_neg (by rw[ab];decide)] at aa;exact aa⟩ ⟨rfl,rfl,rfl,eD S,trivial⟩ trivial)
  |refine eg ?_
  |(refine eh ?_ ?_<;>(try with_reducible intro ab)<;>(try(exfalso;omega)))
  |with_reducible intro r)<;>(try conv=>whnf))):P:=h
structure yo(H:World)(A:Option Addr)(n c:Nat)(xs:List Bool):Prop where
 rd:dU H H.heap.size A (xs.map Value.bool)
 len:n=xs.length
 cap:n<=c
 dB:n<=1000000
theorem M9{H:World}{A:Option Addr}{n c:Nat}{xs:List Bool}(h:yo H A n c xs){i:Int}(j:Nat)(a9:i=j)(O:j<n){K:Value->Prop}(U:∀b off,A=some ⟨b,off,none⟩->H.cell? ⟨b,off+j,none⟩=some (.bool (xs.getD j false))->K (.pointer (some ⟨b,off+j,none⟩))):gn A n i 1 K:=by
 subst a9
 have ai:=h.len
 have aW:(xs.map Value.bool)[j]?=some (.bool (xs.getD j false)):=by simp[List.getD,show j<xs.length by omega]
 obtain⟨b,off,b0,_,aj⟩:=h.rd.at_ aW
 refine⟨_,b0,by omega,by omega,?_⟩
 rw[Addr.add_lit]
 simpa using U b off b0 aj
def qa(al:List Bool)(l:Int):Nat->Nat->Int
 |0,_=> -1
 |f+1,i=>if al.getD ((l+i).tmod al.length).toNat false=true then(l+i).tmod al.length else qa al l f (i+1)
def j0(al:List Bool)(last:Int):Int:=qa al (if last<0\/al.length<=last then(al.length:Int)-1 else last) al.length 1
def jP(ng:Int)(o:dp)(steps:List Int)(u:cI):List Value:=
 [J ng,J o.o0,J o.o1,J o.aQ,J o.bl,J u.val,.bool u.eG,
  J (if 0<steps.length then steps.getD 0 0 else 0),J (if 0<steps.length then steps.getD (steps.length-1) 0 else 0),
  J (if 0<=IntKind.i64.wrap (-2-u.c0)/\IntKind.i64.wrap (-2-u.c0)<steps.length then IntKind.i64.wrap (-2-steps.getD (IntKind.i64.wrap (-2-u.c0)).toNat 0) else
   if 0<=u.c0/\u.c0<steps.length then steps.getD u.c0.toNat 0 else-1)]
section
theorem alO{A:Option Addr}{n c:Nat}{al:List Bool}{last:Int}(h:yo H A n c al)(bd:last<0\/(n:Int)<=last)(U:K (J (j0 al last)) (Y H w0 X M)):a4 H w0 X M 19 #[.slice A n c,J last] K Z:=by
 have ai:=h.len
 have ar:=h.dB
 have aP:j0 al last=qa al ((n:Int)-1) n 1:=by
  unfold j0
  rw[if_pos S]
  rw[<-ai]
 rw[aP] at U
 clear aP
 refine a7 OM ?_
 intro az aF
 conv=>whnf
 repeat'((first
  |refine jK ?_
  |(refine iK ?_ ?_<;>(try with_reducible intro ab)<;>(try(exfalso;omega)))
  |with_reducible intro r)<;>(try conv=>whnf))
 all_goals
  refine c9.on (X:=Nat) (fun i=> [(0,.v (.slice A n c)),(1,.v (J ((n:Int)-1))),(5,.v (J (n:Int))),(6,.v (J (i:Int)))]) (fun _=> []) (fun _=>Y H az aF M) (fun i=>1<=i/\i<=n+1/\qa al ((n:Int)-1) (n+1-i) i=qa al ((n:Int)-1) n 1) (fun i=>n+1-i) 1 ⟨Nat.le_refl _,by omega,by rw[Nat.add_sub_cancel]⟩ ⟨rfl,(by show cD.v (J (IntKind.i64.wrap ((n:Int)-1)))=_;rw[cK S]),rfl,rfl,trivial⟩ trivial ?_
  intro i iC ⟨O,V,aa⟩
  conv=>whnf
  refine ba.dec (fun hi=>?_) (fun hi=>?_)
  ·have m3:i<=n:=by omega
   rw[show n+1-i=(n-i)+1 by omega,qa] at aa
   have au:IntKind.i64.wrap (((n:Int)-1)+(i:Int))=((n:Int)-1)+(i:Int):=cK S
   have bh:0<=(((n:Int)-1)+(i:Int)).tmod n:=zV _ S
   have SD:(((n:Int)-1)+(i:Int)).tmod n<n:=BZ _ S
   conv=>whnf
   refine⟨by omega,?_⟩
   rw[au]
   conv=>whnf
   refine M9 h ((((n:Int)-1)+(i:Int)).tmod n).toNat S S (fun b off xd im=>?_)
   conv=>whnf
   exact BJ
  ·rw[show n+1-i=0 by omega,qa] at aa
   rw[<-aa] at U
   conv=>whnf
   exact BJ
theorem alP{A:Option Addr}{n c:Nat}{al:List Bool}{last:Int}(h:yo H A n c al)(bd:¬(last<0\/(n:Int)<=last))(U:K (J (j0 al last)) (Y H w0 X M)):a4 H w0 X M 19 #[.slice A n c,J last] K Z:=by
 have ai:=h.len
 have ar:=h.dB
 have aP:j0 al last=qa al last n 1:=by
  unfold j0
  rw[if_neg S]
  rw[<-ai]
 rw[aP] at U
 clear aP
 refine a7 OM ?_
 intro az aF
 conv=>whnf
 repeat'((first
  |refine jK ?_
  |(refine iK ?_ ?_<;>(try with_reducible intro ab)<;>(try(exfalso;omega)))
  |with_reducible intro r)<;>(try conv=>whnf))
 all_goals
  refine c9.on (X:=Nat) (fun i=> [(0,.v (.slice A n c)),(1,.v (J last)),(5,.v (J (n:Int))),(6,.v (J (i:Int)))]) (fun _=> []) (fun _=>Y H az aF M) (fun i=>1<=i/\i<=n+1/\qa al last (n+1-i) i=qa al last n 1) (fun i=>n+1-i) 1 ⟨Nat.le_refl _,by omega,by rw[Nat.add_sub_cancel]⟩ ⟨rfl,rfl,rfl,rfl,trivial⟩ trivial ?_
  intro i iC ⟨O,V,aa⟩
  conv=>whnf
  refine ba.dec (fun hi=>?_) (fun hi=>?_)
  ·have m3:i<=n:=by omega
   rw[show n+1-i=(n-i)+1 by omega,qa] at aa
   have au:IntKind.i64.wrap (last+(i:Int))=last+(i:Int):=cK S
   have bh:0<=(last+(i:Int)).tmod n:=zV _ S
   have SD:(last+(i:Int)).tmod n<n:=BZ _ S
   conv=>whnf
   refine⟨by omega,?_⟩
   rw[au]
   conv=>whnf
   refine M9 h ((last+(i:Int)).tmod n).toNat S S (fun b off xd im=>?_)
   conv=>whnf
   exact BJ
  ·rw[show n+1-i=0 by omega,qa] at aa
   rw[<-aa] at U
   conv=>whnf
   exact BJ
end
structure hz where
 la:c8
 c:cr
 gT:Option Addr
 dO:Nat
 gP:Nat
 gm:Option Addr
 ec:Nat
 hj:Nat
 eU:Option Addr
 b6:Nat
 ci:Nat
 bS:Option Addr
 aX:Nat
 bb:Nat
 ed:Option Addr
 ev:Nat
 bp:Nat
 hO:Option Addr
 ne:Nat
 ce:Nat
 fY:Option Addr
 bB:Nat
 dD:Nat
 cP:Bool
 value:Int
 err:Int
def hz.l(m:hz):List Value:=[J m.la.bt,J m.la.nodes,J m.la.buckets,J m.la.h6,J m.la.en,J m.la.cells,J m.la.maps,J m.la.dj,J m.la.cF,J m.la.done,J m.la.count,J m.la.era,J m.la.free,J m.la.alive,J m.la.owner,J m.la.qV,J m.la.qv,J m.la.ring,J m.la.task,J m.la.cell,J m.la.map,J m.la.stack,J m.la.chan,J m.la.node,J m.la.size,.slice m.c.bS m.c.aX m.c.bb,.slice m.c.fY m.c.bB m.c.dD,J m.c.maps,J m.c.dj,J m.c.cF,J m.c.main,.slice m.gT m.dO m.gP,.slice m.gm m.ec m.hj,.slice m.eU m.b6 m.ci,.slice m.bS m.aX m.bb,.slice m.ed m.ev m.bp,.slice m.hO m.ne m.ce,.slice m.fY m.bB m.dD,.bool m.cP,J m.value,J m.err]
def wR(cP:Bool)(al:List Bool)(bN:List Int)(ec:Nat)(w:Int):Prop:=cP=false/\0<=w/\w<al.length/\al.getD w.toNat false=true/\w<bN.length/\0<=bN.getD w.toNat 0/\bN.getD w.toNat 0<ec
instance(cP:Bool)(al:List Bool)(bN:List Int)(ec:Nat)(w:Int):Decidable (wR cP al bN ec w):=by unfold wR;exact inferInstance
section
theorem QH{m:hz}{al:List Bool}{bN:List Int}{w:Int}(a8:yo H m.ed m.ev m.bp al)(hi:fG H m.eU m.b6 m.ci bN)(O:wR m.cP al bN m.ec w->K (.bool true) (Y H w0 X M))(V:¬wR m.cP al bN m.ec w->K (.bool false) (Y H w0 X M)):a4 H w0 X M 60 #[.agg m.l.toArray,J w] K Z:=by
 have so:=a8.len
 have hU:=hi.len
 refine a7 Vu ?_
 intro az aF
 conv=>whnf
 exact BJ
theorem Uu{A:Option Addr}{n c:Nat}{al:List Bool}{last:Int}(h:yo H A n c al)(U:K (J (j0 al last)) (Y H w0 X M)):a4 H w0 X M 19 #[.slice A n c,J last] K Z:=by
 by_cases bd:last<0\/(n:Int)<=last
 ·exact alO h bd U
 ·exact alP h bd U
def Ba(cP:Bool)(al:List Bool)(bN:List Int)(ec:Nat)(w:Int):Prop:=wR cP al bN ec w/\j0 al w≠w
instance(cP:Bool)(al:List Bool)(bN:List Int)(ec:Nat)(w:Int):Decidable (Ba cP al bN ec w):=by unfold Ba;exact inferInstance
theorem alr{m:hz}{al:List Bool}{bN:List Int}{w:Int}(a8:yo H m.ed m.ev m.bp al)(hi:fG H m.eU m.b6 m.ci bN)(O:Ba m.cP al bN m.ec w->K (.bool true) (Y H w0 X M))(V:¬Ba m.cP al bN m.ec w->K (.bool false) (Y H w0 X M)):a4 H w0 X M 61 #[.agg m.l.toArray,J w] K Z:=by
 refine a7 Vv ?_
 intro az aF
 conv=>whnf
 exact BJ
def Ug(m:hz)(pm:Nat)(M:aw):aw:=(ae pm,.cs 85 m.l)::M
theorem I1{m:hz}{pm:Nat}{e v:Int}(U:K (.tuple #[]) (Y H w0 X (Ug {m with cP:=true,err:=e,value:=v} pm M))):a4 H w0 X (Ug m pm M) 17 #[ae pm,J e,J v] K Z:=by
 refine a7 an4 ?_
 intro az aF
 conv=>whnf
 exact BJ
end
theorem J1 {P:Prop} (h:P:=by
 repeat'((first
  |(show bk _ _ _ _;first|(refine mo av aD W ?_))
  |(show ih _ _ _ _;first|(refine uT av aD W ?_))
  |(show gn _ _ _ _ _;first|(refine tv ar 0 W S (fun b off xd im=>?_))|(refine tv ar (s.ns-1) uI S (fun b off xd im=>?_))|(refine tv ar u.c0.toNat S S (fun b off xd im=>?_))|(refine tv ar (IntKind.i64.wrap (-2-u.c0)).toNat S S (fun b off xd im=>?_)))
  |(exact cA U)
  |refine eg ?_
  |(refine eh ?_ ?_<;>(try with_reducible intro ab)<;>(try(exfalso;omega)))
  |with_reducible intro r)<;>(try conv=>whnf))):P:=h
section
theorem abS{ng:Int}{s:cm}{u:cI}{A:Option Addr}{n c:Nat}{steps:List Int}(ar:fG H s.b4 s.ns s.cs steps)(O:s.ns=0)(U:K (.agg ([J ng,J s.o0,J s.o1,J s.aQ,J s.bl,J u.val,.bool u.eG,J 0,J 0,J (-1)]:List Value).toArray) (Y H w0 X M)):a4 H w0 X M 103 #[J ng,.agg s.l.toArray,.agg (lp u A n c).toArray] K Z:=by
 have uI:0<s.ns->IntKind.i64.wrap ((s.ns:Int)-1)=((s.ns-1:Nat):Int):=fun h=>by have:=ar.dB;rw[cK S];omega
 clear uI
 refine a7 F0 ?_
 intro az aF
 conv=>whnf
 exact J1
theorem abT{ng:Int}{s:cm}{u:cI}{A:Option Addr}{n c:Nat}{steps:List Int}(ar:fG H s.b4 s.ns s.cs steps)(O:0<s.ns)(V:0<=u.c0/\u.c0<s.ns)(aa:IntKind.i64.wrap (-2-u.c0)<0)(U:K (.agg ([J ng,J s.o0,J s.o1,J s.aQ,J s.bl,J u.val,.bool u.eG,J (steps.getD 0 0),J (steps.getD (s.ns-1) 0),J (steps.getD u.c0.toNat 0)]:List Value).toArray) (Y H w0 X M)):a4 H w0 X M 103 #[J ng,.agg s.l.toArray,.agg (lp u A n c).toArray] K Z:=by
 have uI:0<s.ns->IntKind.i64.wrap ((s.ns:Int)-1)=((s.ns-1:Nat):Int):=fun h=>by have:=ar.dB;rw[cK S];omega
 replace uI:=uI O
 refine a7 F0 ?_
 intro az aF
 conv=>whnf
 exact J1
theorem abU{ng:Int}{s:cm}{u:cI}{A:Option Addr}{n c:Nat}{steps:List Int}(ar:fG H s.b4 s.ns s.cs steps)(O:0<s.ns)(V:¬(0<=u.c0/\u.c0<s.ns))(aa:0<=IntKind.i64.wrap (-2-u.c0)/\IntKind.i64.wrap (-2-u.c0)<s.ns)(U:K (.agg ([J ng,J s.o0,J s.o1,J s.aQ,J s.bl,J u.val,.bool u.eG,J (steps.getD 0 0),J (steps.getD (s.ns-1) 0),J (IntKind.i64.wrap (-2-steps.getD (IntKind.i64.wrap (-2-u.c0)).toNat 0))]:List Value).toArray) (Y H w0 X M)):a4 H w0 X M 103 #[J ng,.agg s.l.toArray,.agg (lp u A n c).toArray] K Z:=by
 have uI:0<s.ns->IntKind.i64.wrap ((s.ns:Int)-1)=((s.ns-1:Nat):Int):=fun h=>by have:=ar.dB;rw[cK S];omega
 replace uI:=uI O
 refine a7 F0 ?_
 intro az aF
 conv=>whnf
 exact J1
theorem abV{ng:Int}{s:cm}{u:cI}{A:Option Addr}{n c:Nat}{steps:List Int}(ar:fG H s.b4 s.ns s.cs steps)(O:0<s.ns)(V:¬(0<=u.c0/\u.c0<s.ns))(aa:¬(0<=IntKind.i64.wrap (-2-u.c0)/\IntKind.i64.wrap (-2-u.c0)<s.ns))(U:K (.agg ([J ng,J s.o0,J s.o1,J s.aQ,J s.bl,J u.val,.bool u.eG,J (steps.getD 0 0),J (steps.getD (s.ns-1) 0),J (-1)]:List Value).toArray) (Y H w0 X M)):a4 H w0 X M 103 #[J ng,.agg s.l.toArray,.agg (lp u A n c).toArray] K Z:=by
 have uI:0<s.ns->IntKind.i64.wrap ((s.ns:Int)-1)=((s.ns-1:Nat):Int):=fun h=>by have:=ar.dB;rw[cK S];omega
 replace uI:=uI O
 refine a7 F0 ?_
 intro az aF
 conv=>whnf
 exact J1
theorem abY{ng:Int}{s:cm}{u:cI}{A:Option Addr}{n c:Nat}{steps:List Int}(ar:fG H s.b4 s.ns s.cs steps)(U:K (.agg (jP ng ⟨s.o0,s.o1,s.aQ,s.bl⟩ steps u).toArray) (Y H w0 X M)):a4 H w0 X M 103 #[J ng,.agg s.l.toArray,.agg (lp u A n c).toArray] K Z:=by
 have ai:=ar.len
 have gx:=ar.dB
 unfold jP at U
 rw[<-ai] at U
 by_cases O:0<s.ns
 ·rw[if_pos O,if_pos O] at U
  by_cases V:0<=u.c0/\u.c0<s.ns
  ·have aa:IntKind.i64.wrap (-2-u.c0)<0:=by rw[cK S];omega
   rw[if_neg S,if_pos V] at U
   exact abT ar O V aa U
  ·by_cases aa:0<=IntKind.i64.wrap (-2-u.c0)/\IntKind.i64.wrap (-2-u.c0)<s.ns
   ·rw[if_pos aa] at U
    exact abU ar O V aa U
   ·rw[if_neg aa,if_neg V] at U
    exact abV ar O V aa U
 ·rw[if_neg O,if_neg O,if_neg S,if_neg S] at U
  exact abS ar S U
end
end Go.Proofs.YtcflcebplhdcpaaGreat
