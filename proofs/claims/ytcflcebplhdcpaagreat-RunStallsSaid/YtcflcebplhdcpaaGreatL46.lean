/- Lemmas, part 46; each states its own conditions. -/
import Derived.Test.YtcflcebplhdcpaaGreatL45
namespace Go.Proofs.YtcflcebplhdcpaaGreat
open Go.RowKit
set_option linter.unusedSimpArgs false
set_option linter.unusedVariables false
set_option maxRecDepth 100000
set_option maxHeartbeats 16000000
variable{H w0:World}{X:Nat->Prop}{M:aw}{K:Value->an->Prop}{Z:bF}
theorem DR {P:Prop} (h:P:=by
 repeat'((first
  |(exact cd.drop (K:=K) _ (.cons _ (List.Sublist.refl _)) (U A c ag a6))
  |(refine je iv (fun _=>rfl) ai.rd aB i rfl hi bC (fun b o aj=>?_))
  |(refine iZ (iv l[i]) av aD W W ?_)
  |(refine hb vG W ?_)
  |(refine jL vG (fy.own (l:=iv l[i]) vG (List.Mem.head _) Ow 1) .here (show out.length+1<=1000000000 by omega) ?_;intro br bz dS ep;rw[Oy,<-hlen])
  |(exact cC (X:=Nat×List e5×Option Addr×Nat) (i+1,out++[l[i]],br,bz) (by show aM-(i+1)<aM-i;omega) ⟨by show i+1<=aM;omega,by show _=(l.take (i+1)).filter (i9 n);rw[aK,if_pos e],by show(out++[l[i]]).length<=i+1;omega,by show(out++[l[i]]).length<=bz;omega,ep⟩ ⟨rfl,rfl,rfl,eD S,trivial⟩ trivial)
  |(exact cC (X:=Nat×List e5×Option Addr×Nat) (i+1,out,A,c) (by show aM-(i+1)<aM-i;omega) ⟨by show i+1<=aM;omega,by show _=(l.take (i+1)).filter (i9 n);rw[aK,if_neg (by rw[e];decide),List.append_nil],by show out.length<=i+1;omega,ag,a6⟩ ⟨rfl,rfl,rfl,eD S,trivial⟩ trivial)
  |(exact cA (U A c ag a6))
  |(exact cA U)
  |(exact lV U V.symm)
  |(refine lV U (U4 ?_);simp only[Ep,beq_iff_eq,decide_eq_true_eq,dH,false_iff];omega)
  |refine eg ?_
  |(refine eh ?_ ?_<;>(try with_reducible intro ab)<;>(try(exfalso;omega)))
  |with_reducible intro r)<;>(try conv=>whnf))):P:=h
theorem dc.Oj{H E:World}{M:aw}(h:dc H M E){A:Option Addr}{n c:Nat}{t:TypeId}{xs:List e5}(ad:(Value.slice A n c,aY.row t 3 (xs.flatMap iv))∈M)(ar:n<=1000000):uf E A n c xs:=by
 obtain⟨O,V,aa,ag⟩:=h.row _ _ _ _ _ _ ad
 refine⟨O,?_,aa,ar⟩
 rw[tj iv 3 (fun _=>rfl)] at V
 omega
section
theorem amY{n:Int}{p:e5}(U:K (.bool (i9 n p)) (Y H w0 X M)):a4 H w0 X M 66 #[J n,.agg (iv p).toArray] K Z:=by
 refine a7 atJ ?_
 intro az aF
 conv=>whnf
 exact DR
theorem Dg{p:e5}{b o:Nat}(aj:∀q v,(iv p)[q]?=some v->H.cell? ⟨b,o+q,none⟩=some v){off:Nat}(q:Nat)(aU:off=o+q){v:Value}(ah:(iv p)[q]?=some v){K:Value->an->Prop}(h:K v (Y H w0 X M)):bk Tryz.prog (Y H w0 X M) (Instr.loadAt 3 (.pointer (some ⟨b,off,none⟩))) K:=by
 subst aU
 exact mo (aj q v ah) aD W h
theorem NK{p:e5}{b o:Nat}(aj:∀q v,(iv p)[q]?=some v->H.cell? ⟨b,o+q,none⟩=some v){off:Nat}(q:Nat)(aU:off=o+q){v:Value}(ah:(iv p)[q]?=some v){K:Value->Prop}(h:K v):ud H w0 X M (Instr.loadAt 3 (.pointer (some ⟨b,off,none⟩))) K:=by
 subst aU
 exact uT (aj q v ah) aD W h
theorem acW{l:List e5}{i:Nat}{a:Int}(hi:i<l.length):lh (l.take (i+1)) a=(lh (l.take i) a||decide (l[i].kind=3/\l[i].a=a)):=by
 rw[ue hi,Lf]
theorem acX{A:Option Addr}{n c:Nat}{l:List e5}{a:Int}(ai:uf H A n c l)(U:K (.bool (lh l a)) (Y H w0 X M)):a4 H w0 X M 22 #[.slice A n c,J a] K Z:=by
 have aB:=ai.len
 have gx:=ai.dB
 refine a7 XN ?_
 intro az aF
 conv=>whnf
 refine c9.on (X:=Nat) (fun i=> [(0,.v (.slice A n c)),(1,.v (J a)),(5,.v (J (i:Int)))]) (fun _=> []) (fun _=>Y H az aF M) (fun i=>i<=n/\lh (l.take i) a=false) (fun i=>n-i) 0 ⟨cY _,rfl⟩ ⟨rfl,rfl,rfl,trivial⟩ trivial ?_
 intro i iC ⟨O,V⟩
 conv=>whnf
 refine ba.dec (fun cc=>?_) (fun cc=>?_)
 ·have hi:i<l.length:=by omega
  have aL:=acW (a:=a) hi
  rw[V,wI] at aL
  have vT:l[i].kind=3->l[i].a=a->true=lh l a:=fun gX gr=>(acV.2 ⟨l[i],fM hi,gX,gr⟩).symm
  conv=>whnf
  repeat'((first
   |(refine je iv (fun _=>rfl) ai.rd aB i rfl hi bC (fun b o aj=>?_))
   |(refine Dg av 0 rfl rfl ?_)
   |(refine Dg av 1 rfl rfl ?_)
   |exact lV U (vT av av)
   |exact cC (X:=Nat) (i+1) (by show n-(i+1)<n-i;omega) ⟨by omega,by rw[aL];simp;omega⟩ ⟨rfl,rfl,eD S,trivial⟩ trivial
   |refine ea ?_
   |(refine gs ?_ ?_<;>(try intro ab))
   |intro r)<;>(try conv=>whnf))
 ·rw[rb S] at V
  conv=>whnf
  exact DR
theorem aqK{all:List e5}{k:Nat}{a:Int}(h:∀i q,i<k->all[i]?=some q->¬(q.kind=2/\q.a=a/\(k:Int)-i<=q.b)):qe all k a=false:=by
 rcases D4 (qe all k a) with e|e
 ·obtain⟨i,q,O,V,aa⟩:=JG.1 e
  exact absurd aa (h i q O V)
 ·exact e
theorem aqL{A:Option Addr}{n c at_:Nat}{l:List e5}(ai:uf H A n c l)(a8:at_<l.length)(U:K (.bool (qe l at_ l[at_].a)) (Y H w0 X M)):a4 H w0 X M 23 #[.slice A n c,J (at_:Int)] K Z:=by
 have aB:=ai.len
 have gx:=ai.dB
 refine a7 XO ?_
 intro az aF
 conv=>whnf
 refine c9.on (X:=Nat) (fun i=> [(0,.v (.slice A n c)),(1,.v (J (at_:Int))),(5,.v (J (i:Int)))]) (fun _=> []) (fun _=>Y H az aF M) (fun i=>i<=at_/\∀j q,j<i->l[j]?=some q->¬(q.kind=2/\q.a=l[at_].a/\(at_:Int)-j<=q.b)) (fun i=>at_-i) 0 ⟨cY _,fun j q h=>absurd h (En _)⟩ ⟨rfl,rfl,rfl,trivial⟩ trivial ?_
 intro i iC ⟨O,V⟩
 conv=>whnf
 refine ba.dec (fun cc=>?_) (fun cc=>?_)
 ·have hi:i<l.length:=by omega
  have afF:i<at_:=by omega
  have au:IntKind.i64.wrap ((at_:Int)-(i:Int))=(at_:Int)-i:=cK S
  have mj:¬(l[i].kind=2/\l[i].a=l[at_].a/\(at_:Int)-i<=l[i].b)->∀j q,j<i+1->l[j]?=some q->¬(q.kind=2/\q.a=l[at_].a/\(at_:Int)-j<=q.b):=fun h j q a9 bd=>by
   rcases pB j i with aa|aa
   ·exact V j q aa bd
   ·have:j=i:=by omega
    subst this
    rw[List.getElem?_eq_getElem hi] at bd
    injection bd with bd
    subst bd
    exact h
  have SS:(l[i].kind=2/\l[i].a=l[at_].a/\(at_:Int)-i<=l[i].b)->true=qe l at_ l[at_].a:=fun h=>(JG.2 ⟨i,l[i],afF,List.getElem?_eq_getElem hi,h.1,h.2.1,h.2.2⟩).symm
  conv=>whnf
  repeat'((first
   |(refine je iv (fun _=>rfl) ai.rd aB i rfl hi bC (fun b o aj=>?_))
   |(refine je iv (fun _=>rfl) ai.rd aB at_ rfl a8 bC (fun b o aj=>?_))
   |(refine Dg av 0 rfl rfl ?_)
   |(refine Dg av 1 rfl rfl ?_)
   |(refine Dg av 2 rfl rfl ?_)
   |(refine NK av 0 rfl rfl ?_)
   |(refine NK av 1 rfl rfl ?_)
   |(refine NK av 2 rfl rfl ?_)
   |exact lV U (SS ⟨by assumption,by assumption,by omega⟩)
   |(rw[au] at ab;exact lV U (SS ⟨by assumption,by assumption,by omega⟩))
   |exact cC (X:=Nat) (i+1) (by show at_-(i+1)<at_-i;omega) ⟨by omega,mj (by first|omega|(rw[au] at ab;omega))⟩ ⟨rfl,rfl,eD S,trivial⟩ trivial
   |refine ea ?_
   |(refine gs ?_ ?_<;>(try intro ab))
   |intro r)<;>(try conv=>whnf))
 ·have hi:i=at_:=by omega
  rw[hi] at V
  conv=>whnf
  repeat'((first
   |exact lV U (aqK V).symm
   |refine ea ?_
   |intro r)<;>(try conv=>whnf))
theorem adh{A:Option Addr}{n c:Nat}{l:List e5}(ai:uf H A n c l)(U:K (J (nQ l:Int)) (Y H w0 X M)):a4 H w0 X M 24 #[.slice A n c] K Z:=by
 have aB:=ai.len
 have gx:=ai.dB
 refine a7 XP ?_
 intro az aF
 conv=>whnf
 refine c9.on (X:=Nat×Nat) (fun y=> [(0,.v (.slice A n c)),(3,.v (J (y.2:Int))),(4,.v (J (y.1:Int)))]) (fun _=> []) (fun _=>Y H az aF M) (fun y=>y.1<=n/\y.2=nQ (l.take y.1)/\y.2<=y.1) (fun y=>n-y.1) (0,0) ⟨cY _,rfl,Nat.le_refl _⟩ ⟨rfl,rfl,rfl,trivial⟩ trivial ?_
 intro⟨i,d⟩ iC ⟨O,V,aa⟩
 dsimp only at O V aa|-
 conv=>whnf
 refine ba.dec (fun cc=>?_) (fun cc=>?_)
 ·have hi:i<l.length:=by omega
  have aL:nQ (l.take (i+1))=d+if l[i].kind=3 then 1 else 0:=by rw[ue hi,Lo,<-V]
  conv=>whnf
  repeat'((first
   |(refine je iv (fun _=>rfl) ai.rd aB i rfl hi bC (fun b o aj=>?_))
   |(refine Dg av 0 rfl rfl ?_)
   |exact cC (X:=Nat×Nat) (i+1,d+1) (by show n-(i+1)<n-i;omega) ⟨by show i+1<=n;omega,by show d+1=nQ (l.take (i+1));rw[aL,if_pos av],by show d+1<=i+1;omega⟩ ⟨rfl,eD S,eD S,trivial⟩ trivial
   |exact cC (X:=Nat×Nat) (i+1,d) (by show n-(i+1)<n-i;omega) ⟨by show i+1<=n;omega,by show d=nQ (l.take (i+1));rw[aL,if_neg av];rfl,by show d<=i+1;omega⟩ ⟨rfl,rfl,eD S,trivial⟩ trivial
   |refine ea ?_
   |(refine gs ?_ ?_<;>(try intro ab))
   |intro r)<;>(try conv=>whnf))
 ·rw[rb S] at V
  subst V
  conv=>whnf
  exact DR
def Bj(A:Option Addr)(c:Nat)(l:List e5):Value×aY:=(.slice A l.length c,.row 65 3 (l.flatMap iv))
theorem aoV{n:Int}{bK:Option Addr}{aM bD:Nat}{l:List e5}(ai:uf H bK aM bD l)(U:∀A k,(l.filter (i9 n)).length<=k->(0<k->∃b,A=some ⟨b,0,none⟩)->K (.slice A (l.filter (i9 n)).length k) (Y H w0 X (Bj A k (l.filter (i9 n))::M))):
  a4 H w0 X M 21 #[J n,.slice bK aM bD] K Z:=by
 have aB:=ai.len
 have gx:=ai.dB
 refine ay.imp (aJ.nil M none 65 3) ?_
 refine a7 atu ?_
 intro az aF
 conv=>whnf
 refine c9.on (X:=Nat×List e5×Option Addr×Nat) (fun y=> [(0,.v (J n)),(1,.v (.slice bK aM bD)),(5,.v (.slice y.2.2.1 y.2.1.length y.2.2.2)),(6,.v (J (y.1:Int)))]) (fun _=> []) (fun y=>Y H az aF (Bj y.2.2.1 y.2.2.2 y.2.1::M)) (fun y=>y.1<=aM/\y.2.1=(l.take y.1).filter (i9 n)/\y.2.1.length<=y.1/\y.2.1.length<=y.2.2.2/\(0<y.2.2.2->∃b,y.2.2.1=some ⟨b,0,none⟩)) (fun y=>aM-y.1) (0,[],none,0) ⟨cY _,rfl,Nat.le_refl _,Nat.le_refl _,fun h=>absurd h bC⟩ ⟨rfl,rfl,rfl,rfl,trivial⟩ trivial ?_
 intro⟨i,out,A,c⟩ iC ⟨O,V,aa,ag,a6⟩
 dsimp only at O V aa ag a6|-
 conv=>whnf
 refine ba.dec (fun cc=>?_) (fun cc=>?_)
 rotate_left
 ·rw[rb S] at V
  subst V
  conv=>whnf
  exact DR
 have hi:i<l.length:=by omega
 have aK:(l.take (i+1)).filter (i9 n)=out++if i9 n l[i]=true then [l[i]] else []:=by
  rw[ue hi,List.filter_append,<-V,List.filter_cons,List.filter_nil]
 have hlen:(out++[l[i]]).length=out.length+1:=gC
 conv=>whnf
 refine je iv (fun _=>rfl) ai.rd aB i rfl hi bC (fun b o aj=>?_)
 conv=>whnf
 refine iZ (iv l[i]) aj aD W W ?_
 conv=>whnf
 rcases D4 (i9 n l[i]) with e|e
 all_goals
  refine amY ?_
  rw[e]
  conv=>whnf
  exact DR
theorem TM{n:Int}{all:List e5}:∀k,(cL n all k).length<=k
 |0=>Nat.le_refl _
 |k+1=>by
  have cy:=TM (n:=n) (all:=all) k
  unfold cL
  split
  ·split
   ·simp;exact cy
   ·omega
  ·omega
theorem am9{n:Int}{bK:Option Addr}{aM bD:Nat}{l:List e5}(ai:uf H bK aM bD l)(awj:0<=n/\n<=8)(U:∀A k,(qQ n l).length<=k->(0<k->∃b,A=some ⟨b,0,none⟩)->K (.slice A (qQ n l).length k) (Y H w0 X (Bj A k (qQ n l)::M))):
  a4 H w0 X M 7 #[J n,.slice bK aM bD] K Z:=by
 have aB:=ai.len
 have gx:=ai.dB
 refine ay.imp (aJ.nil M none 65 3) ?_
 refine a7 atM ?_
 intro az aF
 conv=>whnf
 refine aoV ai (fun ed TB CW E3=>?_)
 generalize pR:l.filter (i9 n)=all at*
 have so:all.length<=aM:=by rw[<-pR,aB];exact List.length_filter_le _ _
 have zc:qQ n l=cL n all all.length:=by unfold qQ;rw[pR]
 rw[zc] at U
 have pT:∀p∈all,i9 n p=true:=fun p bh=>by rw[<-pR] at bh;exact(List.mem_filter.1 bh).2
 conv=>whnf
 refine c9.on (X:=Nat×Option Addr×Nat) (fun y=> [(0,.v (J n)),(5,.v (.slice ed all.length TB)),(6,.v (.slice y.2.1 (cL n all y.1).length y.2.2)),(7,.v (J (y.1:Int)))]) (fun _=> []) (fun y=>Y H az aF (Bj ed TB all::Bj y.2.1 y.2.2 (cL n all y.1)::M)) (fun y=>y.1<=all.length/\(cL n all y.1).length<=y.2.2/\(0<y.2.2->∃b,y.2.1=some ⟨b,0,none⟩)) (fun y=>all.length-y.1) (0,none,0) ⟨cY _,Nat.le_refl _,fun h=>absurd h bC⟩ ⟨rfl,rfl,rfl,rfl,trivial⟩ trivial ?_
 intro⟨i,A,c⟩ iC ⟨O,ag,a6⟩
 dsimp only at O ag a6|-
 conv=>whnf
 refine ba.dec (fun cc=>?_) (fun cc=>?_)
 rotate_left
 ·have hi:i=all.length:=by omega
  subst hi
  conv=>whnf
  exact DR
 have hi:i<all.length:=by omega
 obtain⟨df,R3⟩:=E3 S
 have ou:cL n all (i+1)=if qG n all i all[i] (cL n all i)=true then cL n all i++[all[i]] else cL n all i:=by rw[cL,List.getElem?_eq_getElem hi]
 have hlen:(cL n all i++[all[i]]).length=(cL n all i).length+1:=gC
 have m3:=TM (n:=n) (all:=all) i
 have H3:all[i].kind=1\/all[i].kind=2\/all[i].kind=3:=by have:=Ox.1 (pT _ (fM hi));have:=this.2;omega
 have au:IntKind.i64.wrap ((nQ (cL n all i):Int)+1)=(nQ (cL n all i):Int)+1:=by
  have:nQ (cL n all i)<=(cL n all i).length:=List.length_filter_le _ _
  exact cK S
 have bX:qG n all i all[i] (cL n all i)=true↔lh (cL n all i) all[i].a=false/\all[i].kind≠2/\(all[i].kind=1/\qe all i all[i].a=false\/all[i].kind=3/\(nQ (cL n all i):Int)+1<n):=by
  simp only[qG,e3,r4,Bool.not_eq_true',Bool.or_eq_false_iff,decide_eq_true_eq,decide_eq_false_iff_not,and_assoc]
 have mj:lh (cL n all i) all[i].a=false/\all[i].kind≠2/\(all[i].kind=1/\qe all i all[i].a=false\/all[i].kind=3/\(nQ (cL n all i):Int)+1<n)->lh (cL n all i) all[i].a=true\/all[i].kind=2\/(all[i].kind=1/\qe all i all[i].a=true)\/(all[i].kind=3/\¬(nQ (cL n all i):Int)+1<n)->False:=fun⟨gX,gr,kT⟩ h=>by
  rcases h with h|h|⟨h,ak⟩|⟨h,ak⟩
  ·rw[gX] at h;cases h
  ·exact gr h
  ·rcases kT with⟨_,lI⟩|⟨lI,_⟩
   ·rw[lI] at ak;cases ak
   ·omega
  ·rcases kT with⟨lI,_⟩|⟨_,lI⟩
   ·omega
   ·exact ak lI
 conv=>whnf
 repeat'((first
  |refine iP R3 i rfl hi ?_
  |(subst R3;refine zl (iv all[i]) (List.Mem.head _) aD W W (uF iv 3 (fun _=>rfl) all i hi) ?_)
  |(refine ay.anchor [] _ XN.dg rfl (fun E w fV a2=>acX (l:=cL n all i) (a:=all[i].a) (a2.Oj (t:=65) (.tail _ (.head _)) S) (hR.go (aE:=[]) ?_)))
  |(refine ay.anchor [] _ XO.dg rfl (fun E w fV a2=>aqL (l:=all) (at_:=i) (a2.Oj (t:=65) (.head _) S) hi (hR.go (aE:=[]) ?_)))
  |(refine ay.anchor [] _ XP.dg rfl (fun E w fV a2=>adh (l:=cL n all i) (a2.Oj (t:=65) (.tail _ (.head _)) S) (hR.go (aE:=[]) ?_)))
  |refine hb vG W ?_
  |(refine jL vG (fy.own (l:=iv all[i]) vG (List.Mem.head _) Ow 1) (.there .here) (show(cL n all i).length+1<=1000000000 by omega) ?_;intro br bz dS ep;rw[Oy,<-hlen])
  |(have sB:=ou.trans (if_pos (bX.2 ⟨by assumption,by omega,by first|exact .inl ⟨by assumption,by assumption⟩|exact .inr ⟨by assumption,by omega⟩⟩));rw[<-sB];exact cC (X:=Nat×Option Addr×Nat) (i+1,br,bz) (by show all.length-(i+1)<all.length-i;omega) ⟨by show i+1<=all.length;omega,by show(cL n all (i+1)).length<=bz;rw[sB,hlen];exact dS,ep⟩ ⟨rfl,rfl,rfl,eD S,trivial⟩ trivial)
  |(have sB:=ou.trans (if_neg (fun h=>mj (bX.1 h) (by first|exact .inl av|exact .inr (.inl av)|exact .inr (.inr (.inl ⟨by assumption,by assumption⟩))|exact .inr (.inr (.inr S)))));rw[<-sB];exact cC (X:=Nat×Option Addr×Nat) (i+1,A,c) (by show all.length-(i+1)<all.length-i;omega) ⟨by show i+1<=all.length;omega,by show(cL n all (i+1)).length<=c;rw[sB];exact ag,a6⟩ ⟨rfl,rfl,rfl,eD S,trivial⟩ trivial)
  |refine ea ?_
  |(refine gs ?_ ?_<;>(try intro ab))
  |intro r)<;>(try conv=>whnf))
end
theorem PJ {P:Prop} (h:P:=by
 repeat'((first
  |(refine hb gK W ?_)
  |(exact cA (U _ _ [i.a] (by unfold lP;rw[if_pos S]) (Nat.le_refl _) (fun _=>⟨_,rfl⟩)))
  |(rw[au];exact cA (U _ _ [(k:Int)+1,i.a] (by unfold lP;rw[if_neg S,if_pos S]) (Nat.le_refl _) (fun _=>⟨_,rfl⟩)))
  |(exact cd.imp (K:=K) _ (aJ.nil M none 3 1) (U none 0 [] (by unfold lP;rw[if_neg S,if_neg S,if_pos S]) (Nat.le_refl _) (fun h=>absurd h bC)))
  |(rw[au];exact cA (U _ _ [(k:Int)+1] (by unfold lP;rw[if_neg S,if_neg S,if_neg S]) (Nat.le_refl _) (fun _=>⟨_,rfl⟩)))
  |(refine Vy U ?_;unfold qS;repeat(first|rfl|(rw[if_pos S])|rw[if_neg S]))
  |(refine Vy U ?_;unfold jE;repeat(first|rfl|(rw[if_pos S])|rw[if_neg S]))
  |refine eg ?_
  |(refine eh ?_ ?_<;>(try with_reducible intro ab)<;>(try(exfalso;omega)))
  |with_reducible intro r)<;>(try conv=>whnf))):P:=h
def iO(i:fe):List Value:=[J i.op,J i.a,J i.b,J i.c]
theorem C9:∀(l:List fe),xy l=l.flatMap iO
 |[]=>rfl
 |x::l=>by rw[qn,<-C9 l];rfl
section
theorem Vy{be:World}{bM:Nat->Prop}{x y:Int}(U:K (J y) (Y H w0 X M))(h:x=y):cd H w0 X be bM K (J x) (Y H be bM M):=cA (h▸U)
theorem W5{i:fe}(U:K (J (jE i)) (Y H w0 X M)):a4 H w0 X M 107 #[.agg (iO i).toArray] K Z:=by
 refine a7 atf ?_
 intro az aF
 conv=>whnf
 exact PJ
theorem anF{i:fe}(U:K (J (qS i)) (Y H w0 X M)):a4 H w0 X M 108 #[.agg (iO i).toArray] K Z:=by
 refine a7 atg ?_
 intro az aF
 conv=>whnf
 exact PJ
structure vj(H:World)(c:cr):Prop where
 aX:c.aX=c.dC.length
 FF:c.aX<=9223372036854775807
 body:∀i (h:i<c.dC.length),∃b o,c.bS=some ⟨b,o,none⟩/\∀q v,c.dC[i].l[q]?=some v->H.cell? ⟨b,o+i*3+q,none⟩=some v
 ins:∀i (h:i<c.dC.length),dU H H.heap.size c.dC[i].eU (xy c.dC[i].ins)/\c.dC[i].b6=c.dC[i].ins.length/\c.dC[i].b6<=9223372036854775807
theorem vj.at_{c:cr}(h:vj H c){fn:Int}(aT:0<=fn)(O:fn<c.aX):∃b o,c.bS=some ⟨b,o,none⟩/\∀q v,(b8 c fn).l[q]?=some v->H.cell? ⟨b,o+fn.toNat*3+q,none⟩=some v:=by
 have hi:fn.toNat<c.dC.length:=by have:=h.aX;omega
 have e:b8 c fn=c.dC[fn.toNat]:=by simp[b8,List.getD,hi]
 rw[e]
 exact h.body _ hi
theorem vj.ok{c:cr}(h:vj H c)(O:c.aX<=1000000)(V:c.bB<=1000000)(aa:∀b∈c.dC,b.ins.length<=1000000):hP H c:=⟨h.aX,O,V,h.body,fun i hi=>by
 obtain⟨a,b,_⟩:=h.ins i hi
 exact⟨a,b,by rw[b];exact aa _ (fM hi)⟩⟩
theorem aha{A:Option Addr}{n:Nat}{xs:List Int}(h:dU H H.heap.size A (is xs))(ai:n=xs.length){i:Int}(j:Nat)(a9:i=j)(O:j<n){K:Value->Prop}(U:∀b off,A=some ⟨b,off,none⟩->H.cell? ⟨b,off+j,none⟩=some (J (xs.getD j 0))->K (.pointer (some ⟨b,off+j,none⟩))):gn A n i 1 K:=by
 subst a9
 have aW:(is xs)[j]?=some (J (xs.getD j 0)):=Fq j S
 obtain⟨b,off,b0,_,aj⟩:=h.at_ aW
 refine⟨_,b0,by omega,by omega,?_⟩
 have:=U b off b0 aj
 simpa[Ag] using this
theorem tB{l:List Value}{b o:Nat}(aj:∀q v,l[q]?=some v->H.cell? ⟨b,o+q,none⟩=some v){off:Nat}(q:Nat)(aU:off=o+q){v:Value}(ah:l[q]?=some v){t:TypeId}{c2:c5}(hi:e7 Tryz.prog t c2)(dX:c2.d.agg=false){K:Value->an->Prop}(h:K v (Y H w0 X M)):bk Tryz.prog (Y H w0 X M) (Instr.loadAt t (.pointer (some ⟨b,off,none⟩))) K:=by
 subst aU
 exact mo (aj q v ah) hi dX h
theorem FC{l:List Value}{b o:Nat}(aj:∀q v,l[q]?=some v->H.cell? ⟨b,o+q,none⟩=some v){off:Nat}(q:Nat)(aU:off=o+q){v:Value}(ah:l[q]?=some v){t:TypeId}{c2:c5}(hi:e7 Tryz.prog t c2)(dX:c2.d.agg=false){K:Value->Prop}(h:K v):ud H w0 X M (Instr.loadAt t (.pointer (some ⟨b,off,none⟩))) K:=by
 subst aU
 exact uT (aj q v ah) hi dX h
def DO(A:Option Addr)(c:Nat)(l:List Int):Value×aY:=(.slice A l.length c,.row 3 1 (is l))
theorem amo{i:fe}{k:Nat}(ov:k<=1000000)(U:∀A c l,l=lP i k->l.length<=c->(0<c->∃b,A=some ⟨b,0,none⟩)->K (.slice A l.length c) (Y H w0 X (DO A c l::M))):a4 H w0 X M 109 #[.agg (iO i).toArray,J (k:Int)] K Z:=by
 have au:IntKind.i64.wrap ((k:Int)+1)=(k:Int)+1:=cK S
 refine a7 ath ?_
 intro az aF
 conv=>whnf
 exact PJ
end
section
def tN(A:Option Addr)(c:Nat)(n:Nat)(l:List Int):Value×aY:=(.slice A n c,.row 3 1 (is l))
theorem aoP{k:Nat}:is (List.replicate k (-1))++[J (-1)]=is (List.replicate (k+1) (-1)):=by
 rw[List.replicate_succ']
 simp[is]
theorem agw{c:cr}(aj:vj H c)(j:Nat)(a9:j<c.dC.length)(aB:c.dC[j].ins.length<=100000)(HL:K (.slice none 0 0) (Y H w0 X M))(afz:∀A bI out,q6 c.dC[j].ins out->wJ c.dC[j].ins out->0<c.dC[j].ins.length->(∀i∈c.dC[j].ins,1<=i.op/\i.op<=19)->K (.slice A c.dC[j].ins.length bI) (Y H w0 X M)):
  a4 H w0 X M 73 #[.agg c.l.toArray,J (j:Int)] K Z:=by
 have xq:=aj.aX
 obtain⟨qB,hU,H2⟩:=aj.ins j a9
 obtain⟨nN,n1,nT,oY⟩:=aj.body j a9
 generalize nU:c.dC[j]=b at*
 rw[C9] at qB
 refine ay.imp (aJ.nil M none 3 1) ?_
 refine a7 atO ?_
 intro az aF
 conv=>whnf
 repeat'((first
  |refine rG nN n1 nT S S ?_
  |(refine mo (v:= .slice b.eU b.b6 b.ci) (oY 2 _ rfl) aD W ?_)
  |refine ea ?_
  |(refine gs ?_ ?_<;>(try with_reducible intro ab)<;>(try(exfalso;omega)))
  |intro r)<;>(try conv=>whnf))
 refine c9.on (X:=Nat×Option Addr×Nat) (fun x=> [(2,.p 2 0),(5,.v (.slice b.eU b.b6 b.ci)),(6,.v (.slice x.2.1 x.1 x.2.2)),(7,.v (J (x.1:Int)))]) (fun x=> [(2,25,c.l)]) (fun x=>Y H az aF (tN x.2.1 x.2.2 x.1 (List.replicate x.1 (-1))::M)) (fun x=>x.1<=b.b6/\x.1<=x.2.2/\(0<x.2.2->∃b,x.2.1=some ⟨b,0,none⟩)/\∀i∈b.ins.take x.1,1<=i.op/\i.op<=19) (fun x=>b.b6-x.1) (0,none,0) ⟨cY _,Nat.le_refl _,fun h=>absurd h bC,fun i hi=>by simp at hi⟩ ⟨rfl,rfl,rfl,rfl,trivial⟩ ⟨rfl,trivial⟩ ?_
 intro⟨k,A,bI⟩ r ⟨O,V,b0,cO⟩
 dsimp only at O V b0 cO|-
 conv=>whnf
 refine ba.dec (fun cc=>?_) (fun cc=>?_)
 ·have U:k<b.ins.length:=by omega
  conv=>whnf
  repeat'((first
   |(refine je iO (fun _=>rfl) qB hU k rfl U bC (fun cu fX gw=>?_))
   |refine tB av 0 rfl rfl aD W ?_
   |refine hb gK W ?_
   |(refine jL gK (fy.own (l:=[J (-1)]) gK (List.Mem.head _) (Dt _) 1) .here (show k+1<=1000000000 by omega) ?_;intro br bz dS ep;rw[aoP])
   |exact cC (X:=Nat×Option Addr×Nat) (k+1,br,bz) (by show b.b6-(k+1)<b.b6-k;omega) ⟨by show k+1<=b.b6;omega,dS,ep,fun i hi=>by
     rw[ue U] at hi
     rcases iw.1 hi with hi|hi
     ·exact cO i hi
     ·rw[nK] at hi
      subst hi
      omega⟩ ⟨rfl,rfl,rfl,eD S,trivial⟩ ⟨rfl,trivial⟩
   |exact cd.drop (K:=K) _ (.cons _ (List.Sublist.refl _)) HL
   |refine ea ?_
   |(refine gs ?_ ?_<;>(try with_reducible intro ab)<;>(try(exfalso;omega)))
   |intro r)<;>(try conv=>whnf))
 have rB:k=b.b6:=by omega
 subst rB
 conv=>whnf
 refine ba.sk (fun aT=>?_) (fun aT=>?_)
 ·conv=>whnf
  exact cd.drop (K:=K) _ (.cons _ (List.Sublist.refl _)) HL
 have C1:0<b.ins.length:=by omega
 rw[rb S] at cO
 obtain⟨dI,vU⟩:∃dI,b.ins.length=dI+1:=⟨b.ins.length-1,by omega⟩
 obtain⟨EF,oX⟩:=b0 S
 have y3:=afE vU
 rw[<-vU,<-hU] at y3
 conv=>whnf
 repeat'((first
  |refine iP oX 0 rfl (show 0<b.b6 by omega) ?_
  |refine sU 0 oX .here W (by rw[List.length_replicate];omega) ?_
  |refine ea ?_
  |intro r)<;>(try conv=>whnf))
 refine c9.on (X:=Nat×List Int×aw) (fun x=> [(2,.p 2 0),(5,.v (.slice b.eU b.b6 b.ci)),(6,.v (.slice A b.b6 bI)),(8,.v (J (x.1:Int)))]) (fun _=> [(2,25,c.l)]) (fun x=>Y H az aF (x.2.2++(tN A bI b.b6 x.2.1::M))) (fun x=>x.1<=b.ins.length+1/\q6 b.ins x.2.1/\(wJ b.ins x.2.1\/x.1+1<=lg x.2.1)) (fun x=>b.ins.length+1-x.1) (0,(List.replicate b.b6 (-1)).set 0 0,[]) ⟨cY _,y3.1,.inr y3.2⟩ ⟨rfl,rfl,rfl,rfl,trivial⟩ ⟨rfl,trivial⟩ ?_
 intro⟨wT,n3,Qg⟩ j2 ⟨dX,HZ,mi⟩
 dsimp only at dX HZ mi|-
 conv=>whnf
 refine ba.dec (fun m3=>?_) (fun m3=>?_)
 rotate_left
 ·have e:wT=b.ins.length+1:=by omega
  rw[e] at mi
  have aZ:=afz A bI n3 HZ (HZ.closed mi) C1 cO
  rw[<-hU] at aZ
  conv=>whnf
  exact cd.drop (K:=K) _ (List.Sublist.trans (.cons _ (List.Sublist.refl _)) (od Qg _)) aZ
 conv=>whnf
 refine c9.on (X:=Nat×List Int×aw) (fun x=> [(2,.p 2 0),(5,.v (.slice b.eU b.b6 b.ci)),(6,.v (.slice A b.b6 bI)),(8,.v (J (wT:Int))),(9,.v (J (x.1:Int)))]) (fun _=> [(2,25,c.l)]) (fun x=>Y H az aF (x.2.2++(tN A bI b.b6 x.2.1::M))) (fun x=>x.1<=b.ins.length/\sc b.ins n3 x.1 x.2.1) (fun x=>b.ins.length-x.1) (0,n3,Qg) ⟨cY _,sc.start HZ⟩ ⟨rfl,rfl,rfl,rfl,rfl,trivial⟩ ⟨rfl,trivial⟩ ?_
 intro⟨k,out,lZ⟩ lU ⟨sA,aP⟩
 dsimp only at sA aP|-
 conv=>whnf
 refine ba.dec (fun cc=>?_) (fun cc=>?_)
 rotate_left
 ·have e:k=b.ins.length:=by omega
  subst e
  conv=>whnf
  exact cC (X:=Nat×List Int×aw) (wT+1,out,lZ) (by show b.ins.length+1-(wT+1)<b.ins.length+1-wT;omega) ⟨by show wT+1<=b.ins.length+1;omega,aP.pT,aP.next mi⟩ ⟨rfl,rfl,rfl,eD S,trivial⟩ ⟨rfl,trivial⟩
 have U:k<b.ins.length:=by omega
 have awq:=aP.pT.len
 have Mw:=aP.pT.get U
 have gw:=K8 out
 conv=>whnf
 refine iP oX k rfl (show k<b.b6 by omega) ?_
 conv=>whnf
 refine bk.imp (aJ.sub (od lZ _)) (jx (xs:=out) k oX (List.Mem.head _) (h1 k) S ?_)
 conv=>whnf
 refine ba.dec (fun ts=>?_) (fun ts=>?_)
 ·conv=>whnf
  exact cC (X:=Nat×List Int×aw) (k+1,out,[]) (by show b.ins.length-(k+1)<b.ins.length-k;omega) ⟨by show k+1<=b.ins.length;omega,aP.skip ts⟩ ⟨rfl,rfl,rfl,rfl,eD S,trivial⟩ ⟨rfl,trivial⟩
 have nV:b.ins[k]?=some b.ins[k]:=List.getElem?_eq_getElem U
 generalize CT:b.ins[k]=i at*
 have Ih:=OE i
 conv=>whnf
 refine eS.on (X:=Bool) (fun q=> [(2,.p 2 0),(5,.v (.slice b.eU b.b6 b.ci)),(6,.v (.slice A b.b6 bI)),(8,.v (J (wT:Int))),(9,.v (J (k:Int))),(90,.v (.bool q))]) (fun _=> [(2,25,c.l)]) (fun _=>Y H az aF (tN A bI b.b6 out::M)) (fun q=>q=true↔jE i<0\/out.getD k 0<jE i) ?_ ?_
 ·conv=>whnf
  repeat'((first
   |(refine je iO (fun _=>rfl) qB hU k rfl U bC (fun cu fX gw=>?_);rw[CT] at gw)
   |refine iZ (iO i) av aD W W ?_
   |refine tC (iO i) av aD W W ?_
   |refine W5 ?_
   |refine iP oX k rfl (show k<b.b6 by omega) ?_
   |refine jx (xs:=out) k oX (List.Mem.head _) (h1 k) S ?_
   |refine A6 (xs:=out) k oX (List.Mem.head _) (h1 k) S ?_
   |exact hA.on (X:=Bool) true (iff_of_true rfl S) ⟨rfl,rfl,rfl,rfl,rfl,rfl,trivial⟩ ⟨rfl,trivial⟩
   |exact hA.on (X:=Bool) (decide (jE i>out.getD k 0)) (decide_eq_true_iff.trans S) ⟨rfl,rfl,rfl,rfl,rfl,rfl,trivial⟩ ⟨rfl,trivial⟩
   |refine ea ?_
   |(refine gs ?_ ?_<;>(try with_reducible intro ab))
   |with_reducible intro r)<;>(try conv=>whnf))
 intro q rQ bd
 cases q
 rotate_left
 ·conv=>whnf
  exact cd.drop (K:=K) _ (.cons _ (List.Sublist.refl _)) HL
 have tt:0<=jE i/\jE i<=out.getD k 0:=by
  have:¬(jE i<0\/out.getD k 0<jE i):=fun h=>Bool.false_ne_true (bd.2 h)
  omega
 obtain⟨h,eb⟩:∃h,h=out.getD k 0-jE i+qS i:=⟨_,rfl⟩
 have sF:IntKind.i64.wrap (out.getD k 0-jE i)=out.getD k 0-jE i:=cK S
 have AV:IntKind.i64.wrap (out.getD k 0-jE i+qS i)=h:=by rw[eb];exact cK S
 conv=>whnf
 refine eS.on (X:=Unit) (fun _=> [(2,.p 2 0),(5,.v (.slice b.eU b.b6 b.ci)),(6,.v (.slice A b.b6 bI)),(8,.v (J (wT:Int))),(9,.v (J (k:Int))),(10,.v (J h))]) (fun _=> [(2,25,c.l)]) (fun _=>Y H az aF (tN A bI b.b6 out::M)) (fun _=>True) ?_ ?_
 ·conv=>whnf
  repeat'((first
   |(refine je iO (fun _=>rfl) qB hU k rfl U bC (fun cu fX gw=>?_);rw[CT] at gw)
   |refine iZ (iO i) av aD W W ?_
   |refine tC (iO i) av aD W W ?_
   |refine W5 ?_
   |refine anF ?_
   |refine iP oX k rfl (show k<b.b6 by omega) ?_
   |refine jx (xs:=out) k oX (List.Mem.head _) (h1 k) S ?_
   |refine A6 (xs:=out) k oX (List.Mem.head _) (h1 k) S ?_
   |rw[sF]
   |rw[AV]
   |exact hA.on (X:=Unit) () trivial ⟨rfl,rfl,rfl,rfl,rfl,rfl,trivial⟩ ⟨rfl,trivial⟩
   |refine ea ?_
   |(refine gs ?_ ?_<;>(try with_reducible intro ab))
   |with_reducible intro r)<;>(try conv=>whnf))
 intro _ Bq _
 conv=>whnf
 repeat'((first
  |(refine je iO (fun _=>rfl) qB hU k rfl U bC (fun cu fX gw=>?_);rw[CT] at gw)
  |refine iZ (iO i) av aD W W ?_
  |refine amo S (fun gm hj fl zg o2 iN=>?_)
  |refine ea ?_
  |with_reducible intro r)<;>(try conv=>whnf))
 have agx:fl.length<=2:=by rw[zg];exact UJ i k
 refine c9.on (X:=Nat×List Int) (fun x=> [(2,.p 2 0),(5,.v (.slice b.eU b.b6 b.ci)),(6,.v (.slice A b.b6 bI)),(8,.v (J (wT:Int))),(9,.v (J (k:Int))),(10,.v (J h)),(11,.v (.slice gm fl.length hj)),(12,.v (J (x.1:Int)))]) (fun _=> [(2,25,c.l)]) (fun x=>Y H az aF (DO gm hj fl::tN A bI b.b6 x.2::M)) (fun x=>x.1<=fl.length/\uj b.ins out k h fl x.1 x.2) (fun x=>fl.length-x.1) (0,out) ⟨cY _,aP.arA⟩ ⟨rfl,rfl,rfl,rfl,rfl,rfl,rfl,rfl,trivial⟩ ⟨rfl,trivial⟩ ?_
 intro⟨x,xH⟩ aox ⟨aW,bs⟩
 dsimp only at aW bs|-
 conv=>whnf
 refine ba.dec (fun MD=>?_) (fun MD=>?_)
 rotate_left
 ·have e:x=fl.length:=by omega
  subst e
  conv=>whnf
  exact cC (X:=Nat×List Int×aw) (k+1,xH,[DO gm hj fl]) (by show b.ins.length-(k+1)<b.ins.length-k;omega) ⟨by show k+1<=b.ins.length;omega,by rw[zg] at bs;exact bs.done aP nV eb tt⟩ ⟨rfl,rfl,rfl,rfl,eD S,trivial⟩ ⟨rfl,trivial⟩
 have lM:x<fl.length:=by omega
 obtain⟨abv,CN⟩:=iN S
 have HY:fl.getD x 0=fl[x]:=yR lM
 have awr:=bs.pT.len
 have tp:∀(I9:List Int),(0<=fl[x]/\fl[x]<b.ins.length)->(I9=xH/\xH.getD fl[x].toNat 0=h)\/(xH.getD fl[x].toNat 0<0/\I9=xH.set fl[x].toNat h)->uj b.ins out k h fl (x+1) I9:=by
  intro I9 aT O
  subst zg
  rcases O with⟨rfl,O⟩|⟨O,rfl⟩
  ·exact bs.same lM aT O
  ·exact bs.set nV S eb tt lM aT O Mw.2
 generalize fl[x]=t at*
 conv=>whnf
 repeat'((first
  |refine iP CN x rfl lM ?_
  |(refine jx (xs:=fl) x CN (List.Mem.head _) (h1 x) lM ?_;rw[HY])
  |(refine A6 (xs:=fl) x CN (List.Mem.head _) (h1 x) lM ?_;rw[HY])
  |refine iP oX t.toNat S (show t.toNat<b.b6 by omega) ?_
  |refine jx (xs:=xH) t.toNat oX (.tail _ (.head _)) (h1 _) S ?_
  |refine jx (xs:=xH.set t.toNat h) t.toNat oX (.tail _ (.head _)) (h1 _) (by rw[nJ];omega) ?_
  |refine sU t.toNat oX (.there .here) (h1 _) S ?_
  |exact cd.drop (K:=K) _ (.cons _ (.cons _ (List.Sublist.refl _))) HL
  |exact cC (X:=Nat×List Int) (x+1,xH.set t.toNat h) (by show fl.length-(x+1)<fl.length-x;omega) ⟨by show x+1<=fl.length;omega,tp _ ⟨by omega,by omega⟩ (.inr ⟨by assumption,rfl⟩)⟩ ⟨rfl,rfl,rfl,rfl,rfl,rfl,rfl,eD S,trivial⟩ ⟨rfl,trivial⟩
  |exact cC (X:=Nat×List Int) (x+1,xH) (by show fl.length-(x+1)<fl.length-x;omega) ⟨by show x+1<=fl.length;omega,tp _ ⟨by omega,by omega⟩ (.inl ⟨rfl,by assumption⟩)⟩ ⟨rfl,rfl,rfl,rfl,rfl,rfl,rfl,eD S,trivial⟩ ⟨rfl,trivial⟩
  |refine ea ?_
  |(refine gs ?_ ?_<;>(try with_reducible intro ab))
  |with_reducible intro r)<;>(try conv=>whnf))
end
def w3(c:cr)(i:fe):Prop:=1<=i.a/\i.a<=7/\0<=i.b/\i.b<([0,c.maps,c.maps,c.maps,c.dj,c.dj,c.cF,c.cF]:List Int).getD i.a.toNat 0/\i.c=([0,1,2,1,1,0,1,0]:List Int).getD i.a.toNat 0
instance(c:cr)(i:fe):Decidable (w3 c i):=by unfold w3;exact inferInstance
def oB(c:cr)(b:nj)(i:fe):Prop:=
 if i.op=1 then 0<=i.a/\i.a<4294967296 else if i.op=2\/i.op=3 then 0<=i.a/\i.a<b.locals else if i.op=4\/i.op=5 then 0<=i.a/\i.a<c.bB
 else if i.op=11 then w3 c i else if i.op=13 then 0<=i.a/\i.a<c.aX/\i.b=(b8 c i.a).args/\ -1<=i.c/\i.c<b.locals else True
instance(c:cr)(b:nj)(i:fe):Decidable (oB c b i):=by unfold oB;exact inferInstance
section
variable{c:cr}{b:nj}{i:fe}
theorem NU(h:i.op=1):oB c b i↔0<=i.a/\i.a<4294967296:=by unfold oB;rw[if_pos h]
theorem Ue(h:i.op=2\/i.op=3):oB c b i↔0<=i.a/\i.a<b.locals:=by unfold oB;rw[if_neg (show ¬i.op=1 by omega),if_pos h]
theorem Uf(h:i.op=4\/i.op=5):oB c b i↔0<=i.a/\i.a<c.bB:=by unfold oB;rw[if_neg (show ¬i.op=1 by omega),if_neg (show ¬(i.op=2\/i.op=3) by omega),if_pos h]
theorem Uc(h:i.op=11):oB c b i↔w3 c i:=by unfold oB;rw[if_neg (show ¬i.op=1 by omega),if_neg (show ¬(i.op=2\/i.op=3) by omega),if_neg (show ¬(i.op=4\/i.op=5) by omega),if_pos h]
theorem Ud(h:i.op=13):oB c b i↔0<=i.a/\i.a<c.aX/\i.b=(b8 c i.a).args/\ -1<=i.c/\i.c<b.locals:=by unfold oB;rw[if_neg (show ¬i.op=1 by omega),if_neg (show ¬(i.op=2\/i.op=3) by omega),if_neg (show ¬(i.op=4\/i.op=5) by omega),if_neg (show ¬i.op=11 by omega),if_pos h]
theorem alf(h:i.op≠1/\¬(i.op=2\/i.op=3)/\¬(i.op=4\/i.op=5)/\i.op≠11/\i.op≠13):oB c b i:=by unfold oB;rw[if_neg h.1,if_neg h.2.1,if_neg h.2.2.1,if_neg h.2.2.2.1,if_neg h.2.2.2.2];trivial
end
theorem vD{b:Bool}{p:Prop}[Decidable p](h:b=true↔p):b=decide p:=Bool.eq_iff_iff.2 (h.trans decide_eq_true_iff.symm)
structure GH(c:cr)(b:nj):Prop where
 args:0<=b.args/\b.args<=b.locals/\b.locals<=16
 b6:0<b.ins.length/\b.ins.length<=400
 hi:∃out,q6 b.ins out/\wJ b.ins out
 op:∀i∈b.ins,1<=i.op/\i.op<=19
 may:∀i∈b.ins,oB c b i
structure l6(c:cr)(cs:List Int):Prop where
 aX:1<=c.aX/\c.aX<=32
 main:0<=c.main/\c.main<c.aX
 bB:c.bB<=16
 cs:∀x∈cs,0<=x/\x<4294967296
 maps:0<=c.maps/\c.maps<=8
 dj:0<=c.dj/\c.dj<=8
 cF:0<=c.cF/\c.cF<=8
 body:∀b∈c.dC,GH c b
 T8:(b8 c c.main).args=0
section
theorem al8{n:Int}(U:K (.bool (decide (0<=n/\n<=8))) (Y H w0 X M)):a4 H w0 X M 72 #[J n] K Z:=by
 refine a7 atN ?_
 intro az aF
 conv=>whnf
 repeat'((first
  |(refine lV U (vD ?_);simp only[decide_eq_true_eq,dH,false_iff];omega)
  |refine ea ?_
  |(refine gs ?_ ?_<;>(try with_reducible intro ab))
  |with_reducible intro r)<;>(try conv=>whnf))
theorem abK{c:cr}{i:fe}(U:K (.bool (decide (w3 c i))) (Y H w0 X M)):a4 H w0 X M 110 #[.agg c.l.toArray,.agg (iO i).toArray] K Z:=by
 refine a7 ati ?_
 intro az aF
 conv=>whnf
 repeat'((first
  |(refine hb gK W ?_)
  |(refine iP (A:=some _) rfl i.a.toNat S (show i.a.toNat<8 by omega) ?_)
  |(refine jx (A:=some _) (xs:=[0,c.maps,c.maps,c.maps,c.dj,c.dj,c.cF,c.cF]) i.a.toNat rfl (.tail _ (.head _)) (h1 _) (show i.a.toNat<8 by omega) ?_)
  |(refine jx (A:=some _) (xs:=[0,1,2,1,1,0,1,0]) i.a.toNat rfl (.head _) (h1 _) (show i.a.toNat<8 by omega) ?_)
  |(refine A6 (A:=some _) (xs:=[0,c.maps,c.maps,c.maps,c.dj,c.dj,c.cF,c.cF]) i.a.toNat rfl (.tail _ (.head _)) (h1 _) (show i.a.toNat<8 by omega) ?_)
  |(refine A6 (A:=some _) (xs:=[0,1,2,1,1,0,1,0]) i.a.toNat rfl (.head _) (h1 _) (show i.a.toNat<8 by omega) ?_)
  |(refine cd.drop (K:=K) M (.refl _) (Ck (vD ?_) U);simp only[w3,decide_eq_true_eq,dH,false_iff,beq_iff_eq];omega)
  |(refine cd.drop (K:=K) M (.cons _ (.cons _ (.refl _))) (Ck (vD ?_) U);simp only[w3,decide_eq_true_eq,dH,false_iff,beq_iff_eq];omega)
  |refine ea ?_
  |(refine gs ?_ ?_<;>(try with_reducible intro ab))
  |with_reducible intro r)<;>(try conv=>whnf))
theorem ald{c:cr}(aj:vj H c){b:nj}{i:fe}(U:K (.bool (decide (oB c b i))) (Y H w0 X M)):a4 H w0 X M 74 #[.agg c.l.toArray,.agg b.l.toArray,.agg (iO i).toArray] K Z:=by
 have xq:=aj.aX
 have gx:=aj.FF
 refine a7 atP ?_
 intro az aF
 conv=>whnf
 repeat'((first
  |refine abK ?_
  |(obtain⟨nN,n1,nT,oY⟩:=aj.at_ (fn:=i.a) S S;refine rG nN n1 nT S S ?_)
  |refine tB av 0 rfl rfl aD W ?_
  |refine FC av 0 rfl rfl aD W ?_
  |(refine lV U (vD (Iff.trans ?_ (NU av).symm));simp only[decide_eq_true_eq,dH,false_iff,true_iff,beq_iff_eq];omega)
  |(refine lV U (vD (Iff.trans ?_ (Ue (by first|exact .inl av|exact .inr av)).symm));simp only[decide_eq_true_eq,dH,false_iff,true_iff,beq_iff_eq];omega)
  |(refine lV U (vD (Iff.trans ?_ (Uf (by first|exact .inl av|exact .inr av)).symm));simp only[decide_eq_true_eq,dH,false_iff,true_iff,beq_iff_eq];omega)
  |(refine lV U (vD (Iff.trans ?_ (Ud av).symm));simp only[decide_eq_true_eq,dH,false_iff,true_iff,beq_iff_eq];omega)
  |exact lV U (vD (Iff.trans decide_eq_true_iff (Uc av).symm))
  |exact lV U (vD (iff_of_true rfl (alf ⟨by omega,by omega,by omega,by omega,by omega⟩)))
  |refine ea ?_
  |(refine gs ?_ ?_<;>(try with_reducible intro ab))
  |with_reducible intro r)<;>(try conv=>whnf))
theorem Fs:∀(l:List Int),is l=l.flatMap fun x=> [J x]
 |[]=>rfl
 |x::l=>by rw[qn,<-Fs l];rfl
theorem aoU{c:cr}{cs:List Int}(aj:vj H c)(agk:dU H H.heap.size c.fY (is cs))(Ib:c.bB=cs.length)(I0:c.bB<=9223372036854775807)(O:l6 c cs->K (.bool true) (Y H w0 X M))(aT:K (.bool false) (Y H w0 X M)):a4 H w0 X M 32 #[.agg c.l.toArray] K Z:=by
 have xq:=aj.aX
 have gx:=aj.FF
 refine a7 atC ?_
 intro az aF
 conv=>whnf
 repeat'((first
  |refine al8 ?_
  |exact cA aT
  |refine ea ?_
  |(refine gs ?_ ?_<;>(try with_reducible intro ab))
  |with_reducible intro r)<;>(try conv=>whnf))
 refine c9.on (X:=Nat) (fun k=> [(1,.p 1 0),(3,.v (J (k:Int)))]) (fun _=> [(1,25,c.l)]) (fun _=>Y H az aF M) (fun k=>k<=c.bB/\∀x∈cs.take k,0<=x/\x<4294967296) (fun k=>c.bB-k) 0 ⟨cY _,fun x aW=>by simp at aW⟩ ⟨rfl,rfl,trivial⟩ ⟨rfl,trivial⟩ ?_
 intro k j2 ⟨ou,Mm⟩
 conv=>whnf
 refine ba.dec (fun cc=>?_) (fun cc=>?_)
 ·have U:k<cs.length:=by omega
  have sw:cs.getD k 0=cs[k]:=yR U
  conv=>whnf
  repeat'((first
   |(refine aha agk Ib k rfl S (fun cu fX b0 im=>?_);rw[sw] at im)
   |(refine mo av aD W ?_)
   |exact cA aT
   |exact cC (X:=Nat) (k+1) (by show c.bB-(k+1)<c.bB-k;omega) ⟨by omega,fun x aW=>by
     rw[ue U] at aW
     rcases iw.1 aW with aW|aW
     ·exact Mm x aW
     ·rw[nK] at aW
      subst aW
      omega⟩ ⟨rfl,eD S,trivial⟩ ⟨rfl,trivial⟩
   |refine ea ?_
   |(refine gs ?_ ?_<;>(try with_reducible intro ab))
   |with_reducible intro r)<;>(try conv=>whnf))
 rw[rb S] at Mm
 conv=>whnf
 refine c9.on (X:=Nat) (fun k=> [(1,.p 1 0),(4,.v (J (k:Int)))]) (fun _=> [(1,25,c.l)]) (fun _=>Y H az aF M) (fun k=>k<=c.aX/\∀b∈c.dC.take k,GH c b) (fun k=>c.aX-k) 0 ⟨cY _,fun x aW=>by simp at aW⟩ ⟨rfl,rfl,trivial⟩ ⟨rfl,trivial⟩ ?_
 intro hV lU ⟨lk,Mi⟩
 conv=>whnf
 refine ba.dec (fun cc=>?_) (fun cc=>?_)
 rotate_left
 ·rw[rb S] at Mi
  obtain⟨nN,n1,nT,oY⟩:=aj.at_ (fn:=c.main) S S
  conv=>whnf
  repeat'((first
   |refine rG nN n1 nT S S ?_
   |refine tB oY 0 rfl rfl aD W ?_
   |refine ea ?_
   |with_reducible intro r)<;>(try conv=>whnf))
  by_cases ad:(b8 c c.main).args=0
  ·exact lV (O ⟨by omega,by omega,by omega,Mm,by assumption,by assumption,by assumption,Mi,ad⟩) (by rw[ad];rfl)
  ·exact lV aT (by simpa using ad)
 have U:hV<c.dC.length:=by omega
 obtain⟨nN,n1,nT,oY⟩:=aj.body hV U
 obtain⟨qB,hU,H2⟩:=aj.ins hV U
 rw[C9] at qB
 have Mx:=fun(M:aw) (aF:Nat->Prop) (K:Value->an->Prop) (Z:bF) h=>agw (w0:=az) (X:=aF) (M:=M) (K:=K) (Z:=Z) aj hV U h
 have tt:c.dC.take (hV+1)=c.dC.take hV++[c.dC[hV]]:=ue U
 generalize c.dC[hV]=b at*
 conv=>whnf
 repeat'((first
  |refine rG nN n1 nT S S ?_
  |refine iZ b.l oY aD W W ?_
  |refine Mx _ _ _ _ S ?_ (fun A bI out gX gr kT lI=>?_)
  |exact cA aT
  |refine ea ?_
  |(refine gs ?_ ?_<;>(try with_reducible intro ab))
  |with_reducible intro r)<;>(try conv=>whnf))
 refine c9.on (X:=Nat) (fun q=> [(1,.p 1 0),(4,.v (J (hV:Int))),(5,.p 5 0),(6,.v (J (q:Int)))]) (fun _=> [(1,25,c.l),(5,63,b.l)]) (fun _=>Y H az aF M) (fun q=>q<=b.b6/\∀i∈b.ins.take q,oB c b i) (fun q=>b.b6-q) 0 ⟨cY _,fun x aW=>by simp at aW⟩ ⟨rfl,rfl,rfl,rfl,trivial⟩ ⟨rfl,rfl,trivial⟩ ?_
 intro q rQ ⟨MM,MP⟩
 conv=>whnf
 refine ba.dec (fun cc=>?_) (fun cc=>?_)
 rotate_left
 ·rw[rb S] at MP
  conv=>whnf
  exact cC (X:=Nat) (hV+1) (by show c.aX-(hV+1)<c.aX-hV;omega) ⟨by omega,fun cu dQ=>by
   rw[tt] at dQ
   rcases iw.1 dQ with h|h
   ·exact Mi cu h
   ·rw[nK] at h
    subst h
    exact⟨by omega,by omega,⟨out,gX,gr⟩,lI,MP⟩⟩ ⟨rfl,eD S,trivial⟩ ⟨rfl,trivial⟩
 have ze:q<b.ins.length:=by omega
 have MX:b.ins.take (q+1)=b.ins.take q++[b.ins[q]]:=ue ze
 have AM:∀{K:Value->Prop},(∀cu fX,(∀p v,(iO b.ins[q])[p]?=some v->H.cell? ⟨cu,fX+q*4+p,none⟩=some v)->K (.pointer (some ⟨cu,fX+q*4,none⟩)))->gn b.eU b.b6 (q:Int) 4 K:=fun h=>je iO (fun _=>rfl) qB hU q rfl ze bC h
 generalize b.ins[q]=i at*
 conv=>whnf
 repeat'((first
  |refine AM (fun cu fX gw=>?_)
  |refine iZ (iO i) av aD W W ?_
  |refine tC (iO i) av aD W W ?_
  |refine ald aj ?_
  |exact cA aT
  |exact cC (X:=Nat) (q+1) (by show b.b6-(q+1)<b.b6-q;omega) ⟨by omega,fun Iq o4=>by
    rw[MX] at o4
    rcases iw.1 o4 with h|h
    ·exact MP Iq h
    ·rw[nK] at h
     subst h
     assumption⟩ ⟨rfl,rfl,rfl,eD S,trivial⟩ ⟨rfl,rfl,trivial⟩
  |refine ea ?_
  |(refine gs ?_ ?_<;>(try with_reducible intro ab))
  |with_reducible intro r)<;>(try conv=>whnf))
end
theorem Xw {P:Prop} (h:P:=by
 repeat'((first
  |(refine hb gK W ?_)
  |(exact cA (U _ _ [i.a] (by unfold lP;rw[if_pos S]) (Nat.le_refl _) (fun _=>⟨_,rfl⟩)))
  |(rw[au];exact cA (U _ _ [(k:Int)+1,i.a] (by unfold lP;rw[if_neg S,if_pos S]) (Nat.le_refl _) (fun _=>⟨_,rfl⟩)))
  |(exact cd.imp (K:=K) _ (aJ.nil M none 3 1) (U none 0 [] (by unfold lP;rw[if_neg S,if_neg S,if_pos S]) (Nat.le_refl _) (fun h=>absurd h bC)))
  |(rw[au];exact cA (U _ _ [(k:Int)+1] (by unfold lP;rw[if_neg S,if_neg S,if_neg S]) (Nat.le_refl _) (fun _=>⟨_,rfl⟩)))
  |(refine aoz U ?_;unfold jE qS;constructor<;>repeat(first|rfl|(rw[if_pos S])|rw[if_neg S]))
  |refine eg ?_
  |(refine eh ?_ ?_<;>(try with_reducible intro ab)<;>(try(exfalso;omega)))
  |with_reducible intro r)<;>(try conv=>whnf))):P:=h
def pd(l:List Int):Nat:=l.countP fun x=>decide (x<0)
theorem Uo{out:List Int}:∀{t:Nat} {h:Int},t<out.length->out.getD t 0<0->0<=h->pd (out.set t h)+1=pd out:=by
 induction out with
 |nil=>intro t h bs;exact absurd bs (En _)
 |cons x l cy=>
  intro t h bs aB eb
  cases t with
  |zero=>
   have aW:x<0:=aB
   simp only[pd,Ej,List.countP_cons]
   simp[aW,show ¬h<0 by omega]
  |succ t=>
   have:=cy (t:=t) (h:=h) (by simpa using bs) (by simpa[List.getD] using aB) eb
   simp only[pd,List.set_cons_succ,List.countP_cons] at this|-
   omega
structure Ad(ins:List fe)(L high todo:List Int):Prop where
 len:high.length=ins.length
 hi:∀k,k<ins.length->high.getD k 0= -1\/(high.getD k 0=L.getD k 0/\0<=L.getD k 0)
 Px:∀t∈todo,0<=t/\t<ins.length/\0<=high.getD t.toNat 0
theorem Ad.push{ins:List fe}{L high todo:List Int}(h:Ad ins L high todo){t:Int}(aT:0<=t/\t<ins.length)(ai:0<=L.getD t.toNat 0):Ad ins L (high.set t.toNat (L.getD t.toNat 0)) (todo++[t]):=by
 have hlen:=h.len
 have aZ:∀k,k<ins.length->(high.set t.toNat (L.getD t.toNat 0)).getD k 0=if k=t.toNat then L.getD k 0 else high.getD k 0:=fun k U=>by
  by_cases e:k=t.toNat
  ·subst e
   rw[if_pos rfl]
   simp[List.getD,q9 (show t.toNat<high.length by omega)]
  ·rw[if_neg e]
   simp[List.getD,zY (Ne.symm e)]
 refine⟨by rw[nJ];exact hlen,fun k U=>?_,fun u aS=>?_⟩
 ·rw[aZ k U]
  split
  ·rename_i e
   exact .inr ⟨rfl,by rw[e];exact ai⟩
  ·exact h.hi k U
 ·rcases iw.1 aS with aS|aS
  ·have:=h.Px u aS
   refine⟨this.1,this.2.1,?_⟩
   rw[aZ _ S]
   split
   ·rename_i e
    rw[e];exact ai
   ·exact this.2.2
  ·rw[nK] at aS
   subst aS
   refine⟨aT.1,aT.2,?_⟩
   rw[aZ _ S,if_pos rfl]
   exact ai
section
theorem aoz{be:World}{bM:Nat->Prop}{x y de wD:Int}(U:K (.tuple #[J de,J wD]) (Y H w0 X M))(h:x=de/\y=wD):cd H w0 X be bM K (.tuple #[J x,J y]) (Y H be bM M):=cA (h.1▸h.2▸U)
theorem ado{i:fe}(aU:1<=i.op/\i.op<=19)(U:K (.tuple #[J (jE i),J (qS i)]) (Y H w0 X M)):a4 H w0 X M 158 #[.agg (iO i).toArray] K Z:=by
 refine a7 atq ?_
 intro az aF
 conv=>whnf
 exact Xw
theorem amp{i:fe}{k:Nat}(ov:k<=1000000)(U:∀A c l,l=lP i k->l.length<=c->(0<c->∃b,A=some ⟨b,0,none⟩)->K (.slice A l.length c) (Y H w0 X (DO A c l::M))):a4 H w0 X M 159 #[.agg (iO i).toArray,J (k:Int)] K Z:=by
 have au:IntKind.i64.wrap ((k:Int)+1)=(k:Int)+1:=cK S
 refine a7 atr ?_
 intro az aF
 conv=>whnf
 exact Xw
end
end Go.Proofs.YtcflcebplhdcpaaGreat
