/- Lemmas, part 48; each states its own conditions. -/
import Derived.Test.YtcflcebplhdcpaaGreatL46
namespace Go.Proofs.YtcflcebplhdcpaaGreat
open Go.RowKit
set_option linter.unusedSimpArgs false
set_option linter.unusedVariables false
set_option maxRecDepth 100000
set_option maxHeartbeats 16000000
variable{H w0:World}{X:Nat->Prop}{M:aw}{K:Value->an->Prop}{Z:bF}
theorem Xx {P:Prop} (h:P:=by
 repeat'((first
  |(refine iP R9 x rfl lM ?_)
  |(refine jx (xs:=fl) x R9 (List.Mem.head _) (h1 x) lM ?_;rw[HY])
  |(refine iP rfl t.toNat S (show t.toNat<b.b6 by omega) ?_)
  |(refine jx (xs:=kF) t.toNat rfl (.tail _ (.tail _ (.head _))) (h1 _) S ?_)
  |(refine jx (xs:=kF.set t.toNat h) t.toNat rfl (.tail _ (.tail _ (.head _))) (h1 _) (by rw[nJ];omega) ?_)
  |(refine sU t.toNat rfl (.there (.there .here)) (h1 _) S ?_)
  |(refine hb gK W ?_)
  |(refine jL gK (fy.own (l:=[J t]) gK (List.Mem.head _) (Dt _) 1) (.there .here) (show rY.length+1<=1000000000 by omega) ?_;intro da c7 qz xb;rw[show is rY++[J t]=is (rY++[t]) from(Nk rY [t]).symm,<-hlen])
  |(exact cC (X:=Nat×List Int×List Int×Option Addr×Nat) (x+1,kF.set t.toNat h,rY++[t],da,c7) (by show fl.length-(x+1)<fl.length-x;omega) ⟨by show x+1<=fl.length;omega,(SC av).1,by show(rY++[t]).length<=c7;omega,xb,by show 2*pd (kF.set t.toNat h)+(rY++[t]).length+1<=_;have:=(SC av).2;omega⟩ ⟨rfl,rfl,rfl,rfl,rfl,rfl,rfl,eD S,trivial⟩ ⟨rfl,trivial⟩)
  |(exact cC (X:=Nat×List Int×List Int×Option Addr×Nat) (x+1,kF,rY,bf,bA) (by show fl.length-(x+1)<fl.length-x;omega) ⟨by show x+1<=fl.length;omega,CL,ka,iz,hc⟩ ⟨rfl,rfl,rfl,rfl,rfl,rfl,rfl,eD S,trivial⟩ ⟨rfl,trivial⟩)
  |(exact absurd agq av)
  |(refine je iO (fun _=>rfl) qB hU k rfl U bC (fun cu fX gw=>?_))
  |(refine iZ (iO b.ins[k]) av aD W W ?_)
  |(refine iP rfl k rfl (show k<b.b6 by omega) ?_)
  |(refine sU k rfl .here (h1 k) S ?_)
  |(exact cC (X:=Nat×List Int) (k+1,aZ.set k (-1)) (by show b.b6-(k+1)<b.b6-k;omega) ⟨by show k+1<=b.b6;omega,by show(aZ.set k (-1)).length=b.b6;rw[nJ];exact V,agt V aa S⟩ ⟨rfl,rfl,rfl,rfl,rfl,eD S,trivial⟩ ⟨rfl,trivial⟩)
  |refine eg ?_
  |(refine eh ?_ ?_<;>(try with_reducible intro ab)<;>(try(exfalso;omega)))
  |with_reducible intro r)<;>(try conv=>whnf))):P:=h
section
theorem VQ:∀(m:Nat),(List.replicate m [J 0]).flatten=is (List.replicate m 0)
 |0=>rfl
 |m+1=>by rw[Ei,List.flatten_cons,VQ m];rfl
theorem Ui{n:Int}(m:Nat)(aB:n=(m:Int))(ad:m<=1000000){K:Value->an->Prop}(h:∀b,K (.slice (some ⟨b,0,none⟩) m m) (Y H w0 X (tN (some ⟨b,0,none⟩) m m (List.replicate m 0)::M))):bk Tryz.prog (Y H w0 X M) (Instr.makeSlice 23 (J n) (J n)) K:=
 NY gK m aB S (fun b=>by rw[VQ];exact h b)
theorem agt{l:List Int}{k:Nat}{n:Nat}(ai:l.length=n)(h:∀q,q<k->l.getD q 0= -1)(U:k<n):∀q,q<k+1->(l.set k (-1)).getD q 0= -1:=fun q bd=>by
 by_cases e:q=k
 ·subst e
  simp[List.getD,q9 (show q<l.length by omega)]
 ·simp only[List.getD,zY (Ne.symm e)]
  exact h q S
theorem agy{c:cr}(aj:hP H c)(j:Nat)(a9:j<c.dC.length)(ab:GH c c.dC[j])(U:∀A bI,K (.slice A c.dC[j].ins.length bI) (Y H w0 X M)):
  a4 H w0 X M 117 #[.agg c.l.toArray,J (j:Int)] K Z:=by
 have xq:=aj.aX
 obtain⟨qB,hU,H2⟩:=aj.ins j a9
 obtain⟨nN,n1,nT,oY⟩:=aj.body j a9
 generalize c.dC[j]=b at*
 rw[C9] at qB
 obtain⟨L,jT,hC⟩:=ab.hi
 have lK:=ab.b6
 have cO:=ab.op
 refine a7 atj ?_
 intro az aF
 conv=>whnf
 repeat'((first
  |refine rG nN n1 nT S S ?_
  |(refine tB (v:= .slice b.eU b.b6 b.ci) oY 2 rfl rfl aD W ?_)
  |refine Ui b.b6 rfl H2 (fun Al=>?_)
  |refine ea ?_
  |(refine gs ?_ ?_<;>(try with_reducible intro ab)<;>(try(exfalso;omega)))
  |with_reducible intro r)<;>(try conv=>whnf))
 refine c9.on (X:=Nat×List Int) (fun x=> [(2,.p 2 0),(5,.v (.slice b.eU b.b6 b.ci)),(6,.v (.slice (some ⟨Al,0,none⟩) b.b6 b.b6)),(44,.v (.slice b.eU b.b6 b.ci)),(45,.v (J (b.b6:Int))),(46,.v (J (x.1:Int)))]) (fun _=> [(2,25,c.l)]) (fun x=>Y H az aF (tN (some ⟨Al,0,none⟩) b.b6 b.b6 x.2::M)) (fun x=>x.1<=b.b6/\x.2.length=b.b6/\∀q,q<x.1->x.2.getD q 0= -1) (fun x=>b.b6-x.1) (0,List.replicate b.b6 0) ⟨cY _,List.length_replicate,fun q h=>absurd h (En _)⟩ ⟨rfl,rfl,rfl,rfl,rfl,rfl,trivial⟩ ⟨rfl,trivial⟩ ?_
 intro⟨k,aZ⟩ j2 ⟨O,V,aa⟩
 dsimp only at O V aa|-
 conv=>whnf
 refine ba.dec (fun cc=>?_) (fun cc=>?_)
 ·have U:k<b.ins.length:=by omega
  have aU:=cO _ (fM U)
  conv=>whnf
  exact Xx
 have rB:k=b.b6:=by omega
 subst rB
 conv=>whnf
 repeat'((first
  |refine iP rfl 0 rfl (show 0<b.b6 by omega) ?_
  |refine sU 0 rfl .here W S ?_
  |refine hb gK W ?_
  |refine ea ?_
  |with_reducible intro r)<;>(try conv=>whnf))
 have b3:=jT.z
 have avN:=jT.len
 have gw:=K8 L
 have aeU:∀k,k<b.ins.length-> -1<=L.getD k 0/\L.getD k 0<lg L:=fun k U=>jT.get U
 have aeS:L.getD 0 0=0:=by simp[List.getD,b3]
 have ts:=Uo (out:=aZ) (t:=0) (h:=0) S (by rw[aa 0 S];decide) (my _)
 have awn:pd aZ<=aZ.length:=List.countP_le_length
 refine c9.on (X:=List Int×List Int×Option Addr×Nat×aw) (fun x=> [(2,.p 2 0),(5,.v (.slice b.eU b.b6 b.ci)),(6,.v (.slice (some ⟨Al,0,none⟩) b.b6 b.b6)),(9,.v (.slice x.2.2.1 x.2.1.length x.2.2.2.1))]) (fun _=> [(2,25,c.l)]) (fun x=>Y H az aF (x.2.2.2.2++(tN x.2.2.1 x.2.2.2.1 x.2.1.length x.2.1::tN (some ⟨Al,0,none⟩) b.b6 b.b6 x.1::M))) (fun x=>Ad b.ins L x.1 x.2.1/\x.2.1.length<=x.2.2.2.1/\(0<x.2.2.2.1->∃b,x.2.2.1=some ⟨b,0,none⟩)/\2*pd x.1+x.2.1.length<=2*b.b6) (fun x=>2*pd x.1+x.2.1.length) (aZ.set 0 0,[0],some ⟨r,0,none⟩,1,[]) ⟨⟨by rw[nJ];omega,fun k U=>?_,fun t bs=>?_⟩,Nat.le_refl _,fun _=>⟨_,rfl⟩,by show 2*pd (aZ.set 0 0)+1<=2*b.b6;omega⟩ ⟨rfl,rfl,rfl,rfl,trivial⟩ ⟨rfl,trivial⟩ ?_
 ·show(aZ.set 0 0).getD k 0= -1\/_
  by_cases e:k=0
  ·subst e
   exact .inr ⟨by simp[List.getD,q9 (show 0<aZ.length by omega)];simpa[List.getD] using aeS.symm,by omega⟩
  ·exact .inl (by have:=aa k S;simpa[List.getD,zY (Ne.symm e)] using this)
 ·have bs:t∈[(0:Int)]:=bs
  rw[nK] at bs
  subst bs
  exact⟨my _,by omega,by simp[List.getD,q9 (show 0<aZ.length by omega)]⟩
 intro⟨high,todo,gm,hj,lZ⟩ lU ⟨AI,o2,iN,ae5⟩
 dsimp only at AI o2 iN ae5|-
 conv=>whnf
 refine ba.dec (fun Sn=>?_) (fun Sn=>?_)
 rotate_left
 ·have U:=U (some ⟨Al,0,none⟩) b.b6
  rw[<-hU] at U
  conv=>whnf
  exact cd.drop (K:=K) _ (List.Sublist.trans (.cons _ (.cons _ (List.Sublist.refl _))) (od lZ _)) U
 have C1:0<todo.length:=by omega
 obtain⟨abv,CN⟩:=iN S
 have SL:IntKind.i64.wrap ((todo.length:Int)-1)=((todo.length-1:Nat):Int):=(cK S).trans S
 have SI:=AI.Px (todo.getD (todo.length-1) 0) (by rw[yR S];exact fM _)
 generalize kE:todo.getD (todo.length-1) 0=at_ at*
 obtain⟨kR,rfl⟩:=uc SI.1
 have CM:kR<b.ins.length:=by omega
 have afB:=AI.hi kR CM
 have sx:=SI.2.2
 rw[r8] at sx
 have aeT:high.getD kR 0=L.getD kR 0/\0<=L.getD kR 0:=by
  rcases afB with h|h
  ·omega
  ·exact h
 have kU:=hC kR CM
 have aU:=cO _ (fM CM)
 obtain⟨i,hi,uH,y4,H0⟩:∃i,b.ins[kR]=i/\0<=jE i/\jE i<=L.getD kR 0/\∀t∈lP i kR,0<=t/\t<b.ins.length/\L.getD t.toNat 0=L.getD kR 0-jE i+qS i:=by
  rcases kU with h|⟨i,ag,a6⟩
  ·omega
  ·rw[List.getElem?_eq_getElem CM] at ag
   injection ag with ag
   exact⟨i,ag,a6⟩
 have AM:∀{K:Value->Prop},(∀cu fX,(∀p v,(iO b.ins[kR])[p]?=some v->H.cell? ⟨cu,fX+kR*4+p,none⟩=some v)->K (.pointer (some ⟨cu,fX+kR*4,none⟩)))->gn b.eU b.b6 (kR:Int) 4 K:=fun h=>je iO (fun _=>rfl) qB hU kR rfl CM bC h
 rw[hi] at aU AM
 have Ih:=OE i
 obtain⟨h,eb⟩:∃h,h=L.getD kR 0-jE i+qS i:=⟨_,rfl⟩
 have av6:=aeU kR CM
 have sF:IntKind.i64.wrap (high.getD kR 0-jE i)=L.getD kR 0-jE i:=by rw[aeT.1];exact cK S
 have AV:IntKind.i64.wrap (L.getD kR 0-jE i+qS i)=h:=by rw[eb];exact cK S
 conv=>whnf
 refine iP CN (todo.length-1) SL S ?_
 conv=>whnf
 refine bk.imp (aJ.sub (od lZ _)) (jx (xs:=todo) (todo.length-1) CN (List.Mem.head _) (h1 _) S ?_)
 rw[kE]
 conv=>whnf
 refine Ld (todo.length-1) SL S ?_
 conv=>whnf
 refine AM (fun cu fX gw=>?_)
 conv=>whnf
 refine bk.imp (aJ.Wu .here (todo.length-1) S) (iZ (iO i) gw aD W W ?_)
 conv=>whnf
 repeat'((first
  |refine ado aU ?_
  |refine AM (fun cu fX gw=>?_)
  |refine iZ (iO i) av aD W W ?_
  |refine iP rfl kR rfl (show kR<b.b6 by omega) ?_
  |refine jx (xs:=high) kR rfl (.tail _ (.head _)) (h1 _) (by have:=AI.len;omega) ?_
  |rw[sF]
  |rw[AV]
  |refine amp (k:=kR) S (fun Kg La fl zg avY aeI=>?_)
  |refine ea ?_
  |(refine gs ?_ ?_<;>(try with_reducible intro ab)<;>(try(exfalso;omega)))
  |with_reducible intro r)<;>(try conv=>whnf))
 obtain⟨BB,MW⟩:∃BB,BB=todo.take (todo.length-1):=⟨_,rfl⟩
 have H5:todo.length-1=BB.length:=by rw[MW,r9];omega
 have ae0:Ad b.ins L high BB:=⟨AI.len,AI.hi,fun t bs=>AI.Px t (by rw[MW] at bs;exact List.mem_of_mem_take bs)⟩
 have agx:fl.length<=2:=by rw[zg];exact UJ i kR
 rw[<-MW,H5]
 refine c9.on (X:=Nat×List Int×List Int×Option Addr×Nat) (fun x=> [(2,.p 2 0),(5,.v (.slice b.eU b.b6 b.ci)),(6,.v (.slice (some ⟨Al,0,none⟩) b.b6 b.b6)),(9,.v (.slice x.2.2.2.1 x.2.2.1.length x.2.2.2.2)),(13,.v (J h)),(111,.v (.slice Kg fl.length La)),(112,.v (J (fl.length:Int))),(113,.v (J (x.1:Int)))]) (fun _=> [(2,25,c.l)]) (fun x=>Y H az aF (DO Kg La fl::tN x.2.2.2.1 x.2.2.2.2 x.2.2.1.length x.2.2.1::tN (some ⟨Al,0,none⟩) b.b6 b.b6 x.2.1::M)) (fun x=>x.1<=fl.length/\Ad b.ins L x.2.1 x.2.2.1/\x.2.2.1.length<=x.2.2.2.2/\(0<x.2.2.2.2->∃b,x.2.2.2.1=some ⟨b,0,none⟩)/\2*pd x.2.1+x.2.2.1.length+1<=2*pd high+todo.length) (fun x=>fl.length-x.1) (0,high,BB,gm,hj) ⟨cY _,ae0,by show BB.length<=hj;omega,iN,by show 2*pd high+BB.length+1<=_;omega⟩ ⟨rfl,rfl,rfl,rfl,rfl,rfl,rfl,rfl,trivial⟩ ⟨rfl,trivial⟩ ?_
 intro⟨x,kF,rY,bf,bA⟩ rQ ⟨aW,CL,ka,iz,hc⟩
 dsimp only at aW CL ka iz hc|-
 conv=>whnf
 refine ba.dec (fun MD=>?_) (fun MD=>?_)
 rotate_left
 ·conv=>whnf
  exact cC (X:=List Int×List Int×Option Addr×Nat×aw) (kF,rY,bf,bA,[DO Kg La fl]) (by show 2*pd kF+rY.length<2*pd high+todo.length;omega) ⟨CL,ka,iz,by show 2*pd kF+rY.length<=2*b.b6;omega⟩ ⟨rfl,rfl,rfl,rfl,trivial⟩ ⟨rfl,trivial⟩
 have lM:x<fl.length:=by omega
 obtain⟨auT,R9⟩:=aeI S
 have HY:fl.getD x 0=fl[x]:=yR lM
 have avJ:=CL.len
 have C7:=H0 fl[x] (by rw[<-zg];exact fM lM)
 rw[<-eb] at C7
 generalize fl[x]=t at*
 have Mx:=CL.hi t.toNat S
 rw[C7.2.2] at Mx
 have SC:kF.getD t.toNat 0= -1->Ad b.ins L (kF.set t.toNat h) (rY++[t])/\pd (kF.set t.toNat h)+1=pd kF:=fun e=>by
  have:=CL.push (t:=t) ⟨C7.1,C7.2.1⟩ (by rw[C7.2.2];omega)
  rw[C7.2.2] at this
  exact⟨this,Uo S S S⟩
 have hlen:(rY++[t]).length=rY.length+1:=gC
 have agq:(kF.set t.toNat h).getD t.toNat 0=h:=by simp[List.getD,q9 (show t.toNat<kF.length by omega)]
 conv=>whnf
 exact Xx
end
theorem PK {P:Prop} (h:P:=by
 repeat'((first
  |(refine AM (fun cu fX gw=>?_))
  |(refine iZ (iO i) av aD W W ?_)
  |(refine alz aj af4 ?_)
  |(exact cC (X:=Nat) (q+1) (by show b.b6-(q+1)<b.b6-q;omega) (by show q+1<=b.b6;omega) ⟨rfl,rfl,rfl,rfl,eD S,trivial⟩ ⟨rfl,rfl,trivial⟩)
  |(refine uv ⟨nU,by first|exact(O av).1|exact(V av).1|exact(aa av).1|exact(ag av).1|exact(a6 av).1|exact(bU av).1|exact(dh av).1⟩ ?_)
  |(exact lV U (beq_iff_eq.2 (by first|exact(O av).2|exact(V av).2|exact(aa av).2|exact(ag av).2|exact(a6 av).2|exact(bU av).2|exact(dh av).2)))
  |(exact lV U (decide_eq_true h.2))
  |refine eg ?_
  |(refine eh ?_ ?_<;>(try with_reducible intro ab)<;>(try(exfalso;omega)))
  |with_reducible intro r)<;>(try conv=>whnf))):P:=h
theorem asV {P:Prop} (h:P:=by
 repeat'((first
  |(refine uv (hk av) ?_)
  |(refine uv (iR (by first|exact .inl av|exact .inr av)) ?_)
  |(refine uv (pa (by first|exact .inl av|exact .inr av)) ?_)
  |(refine uv ⟨(FD av).1,(FD av).2.1⟩ ?_)
  |(refine uv (by have:=FD av;omega) ?_)
  |(refine ab0 (ak2 av) ?_)
  |(have ad:=FD av;obtain⟨nN,n1,nT,oY⟩:=aj.at_ (fn:=i.a) ad.1 ad.2.1;refine rG nN n1 nT ad.1 ad.2.1 ?_)
  |(refine tB av 0 rfl rfl aD W ?_)
  |(refine FC av 0 rfl rfl aD W ?_)
  |(exact cA U)
  |(exact lV U (beq_iff_eq.2 av))
  |refine eg ?_
  |(refine eh ?_ ?_<;>(try with_reducible intro ab)<;>(try(exfalso;first|omega|(have:=FD av;omega))))
  |with_reducible intro r)<;>(try conv=>whnf))):P:=h
section
theorem uv{n m:Int}(h:0<=n/\n<m)(U:K (.bool true) (Y H w0 X M)):a4 H w0 X M 82 #[J n,J m] K Z:=by
 refine a7 atU ?_
 intro az aF
 conv=>whnf
 exact PK
theorem acm{c:cr}{i:fe}(h:w3 c i):(1<=i.a/\i.a<=7)/\0<=i.b/\(i.a=1->i.b<c.maps/\i.c=1)/\(i.a=2->i.b<c.maps/\i.c=2)/\(i.a=3->i.b<c.maps/\i.c=1)/\(i.a=4->i.b<c.dj/\i.c=1)/\(i.a=5->i.b<c.dj/\i.c=0)/\(i.a=6->i.b<c.cF/\i.c=1)/\(i.a=7->i.b<c.cF/\i.c=0):=by
 obtain⟨O,V,aa,ag,a6⟩:=h
 refine⟨⟨O,V⟩,aa,?_,?_,?_,?_,?_,?_,?_⟩<;>(intro e;rw[e] at ag a6;exact⟨ag,a6⟩)
theorem ab0{c:cr}{i:fe}(h:w3 c i)(U:K (.bool true) (Y H w0 X M)):a4 H w0 X M 160 #[.agg c.l.toArray,.agg (iO i).toArray] K Z:=by
 obtain⟨aT,nU,O,V,aa,ag,a6,bU,dh⟩:=acm h
 refine a7 ats ?_
 intro az aF
 conv=>whnf
 exact PK
theorem alz{c:cr}(aj:hP H c){b:nj}{i:fe}(h:oB c b i)(U:K (.bool true) (Y H w0 X M)):a4 H w0 X M 118 #[.agg c.l.toArray,.agg b.l.toArray,.agg (iO i).toArray] K Z:=by
 have xq:=aj.aX
 have hk:=fun ak=>(NU (c:=c) (b:=b) (i:=i) ak).1 h
 have iR:=fun ak=>(Ue (c:=c) (b:=b) (i:=i) ak).1 h
 have pa:=fun ak=>(Uf (c:=c) (b:=b) (i:=i) ak).1 h
 have ak2:=fun ak=>(Uc (c:=c) (b:=b) (i:=i) ak).1 h
 have FD:=fun ak=>(Ud (c:=c) (b:=b) (i:=i) ak).1 h
 refine a7 atk ?_
 intro az aF
 conv=>whnf
 exact asV
theorem ap6{c:cr}(aj:hP H c)(j:Nat)(a9:j<c.dC.length)(gY:GH c c.dC[j])(U:K (.bool true) (Y H w0 X M)):a4 H w0 X M 83 #[.agg c.l.toArray,J (j:Int)] K Z:=by
 have xq:=aj.aX
 have zg:=fun(w0:World) (M:aw) (X:Nat->Prop) (K:Value->an->Prop) (Z:bF)=>agy (w0:=w0) (X:=X) (M:=M) (K:=K) (Z:=Z) aj j a9 gY
 obtain⟨qB,hU,H2⟩:=aj.ins j a9
 obtain⟨nN,n1,nT,oY⟩:=aj.body j a9
 generalize c.dC[j]=b at*
 rw[C9] at qB
 have lK:=gY.b6
 have dX:=gY.args
 refine a7 atV ?_
 intro az aF
 conv=>whnf
 repeat'((first
  |refine rG nN n1 nT S S ?_
  |refine iZ b.l oY aD W W ?_
  |refine zg _ _ _ _ _ (fun A bI=>?_)
  |refine ea ?_
  |(refine gs ?_ ?_<;>(try with_reducible intro ab)<;>(try(exfalso;omega)))
  |with_reducible intro r)<;>(try conv=>whnf))
 refine c9.on (X:=Nat) (fun q=> [(2,.p 2 0),(5,.p 5 0),(46,.v (.slice b.eU b.b6 b.ci)),(47,.v (J (b.b6:Int))),(48,.v (J (q:Int)))]) (fun _=> [(2,25,c.l),(5,63,b.l)]) (fun _=>Y H az aF M) (fun q=>q<=b.b6) (fun q=>b.b6-q) 0 (cY _) ⟨rfl,rfl,rfl,rfl,rfl,trivial⟩ ⟨rfl,rfl,trivial⟩ ?_
 intro q rQ MM
 conv=>whnf
 refine ba.dec (fun cc=>?_) (fun cc=>?_)
 rotate_left
 ·conv=>whnf
  exact cA U
 have ze:q<b.ins.length:=by omega
 have af4:=gY.may _ (fM ze)
 have AM:∀{K:Value->Prop},(∀cu fX,(∀p v,(iO b.ins[q])[p]?=some v->H.cell? ⟨cu,fX+q*4+p,none⟩=some v)->K (.pointer (some ⟨cu,fX+q*4,none⟩)))->gn b.eU b.b6 (q:Int) 4 K:=fun h=>je iO (fun _=>rfl) qB hU q rfl ze bC h
 generalize b.ins[q]=i at*
 conv=>whnf
 exact PK
theorem aoX{c:cr}{cs:List Int}(aj:hP H c)(jV:fG H c.fY c.bB c.dD cs)(h:l6 c cs)(U:K (.bool true) (Y H w0 X M)):a4 H w0 X M 36 #[.agg c.l.toArray] K Z:=by
 have xq:=aj.aX
 have O:=h.aX
 have V:=h.main
 have aa:=h.bB
 have Ib:=jV.len
 have awe:=h.T8
 have awh:=h.maps
 have gg:=h.dj
 have HN:=h.cF
 obtain⟨nN,n1,nT,oY⟩:=aj.at_ (fn:=c.main) V.1 V.2
 refine a7 atF ?_
 intro az aF
 conv=>whnf
 repeat'((first
  |refine uv V ?_
  |refine rG nN n1 nT S S ?_
  |refine tB oY 0 rfl rfl aD W ?_
  |refine ea ?_
  |(refine gs ?_ ?_<;>(try with_reducible intro ab)<;>(try(exfalso;omega)))
  |with_reducible intro r)<;>(try conv=>whnf))
 refine c9.on (X:=Nat) (fun q=> [(1,.p 1 0),(42,.v (.slice c.fY c.bB c.dD)),(43,.v (J (c.bB:Int))),(44,.v (J (q:Int)))]) (fun _=> [(1,25,c.l)]) (fun _=>Y H az aF M) (fun q=>q<=c.bB) (fun q=>c.bB-q) 0 (cY _) ⟨rfl,rfl,rfl,rfl,trivial⟩ ⟨rfl,trivial⟩ ?_
 intro q rQ MM
 conv=>whnf
 refine ba.dec (fun cc=>?_) (fun cc=>?_)
 ·have ze:q<cs.length:=by omega
  have sw:cs.getD q 0=cs[q]:=yR ze
  have aW:=h.cs _ (fM ze)
  conv=>whnf
  repeat'((first
   |(refine tv jV q rfl S (fun cu fX b0 im=>?_);rw[sw] at im)
   |(refine mo av aD W ?_)
   |refine uv aW ?_
   |exact cC (X:=Nat) (q+1) (by show c.bB-(q+1)<c.bB-q;omega) (by show q+1<=c.bB;omega) ⟨rfl,rfl,rfl,eD S,trivial⟩ ⟨rfl,trivial⟩
   |refine ea ?_
   |(refine gs ?_ ?_<;>(try with_reducible intro ab)<;>(try(exfalso;omega)))
   |with_reducible intro r)<;>(try conv=>whnf))
 conv=>whnf
 refine hb gK W ?_
 conv=>whnf
 refine⟨by rfl,fun lV=>?_⟩
 conv=>whnf
 iterate 4
  refine c9.vd ?_
  conv=>whnf
  repeat'((first
   |refine iP (A:=some _) rfl 0 rfl (show 0<3 by decide) ?_
   |refine iP (A:=some _) rfl 1 rfl (show 1<3 by decide) ?_
   |refine iP (A:=some _) rfl 2 rfl (show 2<3 by decide) ?_
   |refine jx (A:=some _) (xs:=[c.maps,c.dj,c.cF]) 0 rfl (.head _) rfl (show 0<3 by decide) ?_
   |refine jx (A:=some _) (xs:=[c.maps,c.dj,c.cF]) 1 rfl (.head _) rfl (show 1<3 by decide) ?_
   |refine jx (A:=some _) (xs:=[c.maps,c.dj,c.cF]) 2 rfl (.head _) rfl (show 2<3 by decide) ?_
   |refine uv (n:=c.maps) S ?_
   |refine uv (n:=c.dj) S ?_
   |refine uv (n:=c.cF) S ?_
   |refine ea ?_
   |(refine gs ?_ ?_<;>(try with_reducible intro ab)<;>(try(exfalso;omega)))
   |with_reducible intro r)<;>(try conv=>whnf))
 refine c9.on (X:=Nat×aw) (fun x=> [(1,.p 1 0),(69,.v (.slice c.bS c.aX c.bb)),(70,.v (J (c.aX:Int))),(71,.v (J (x.1:Int)))]) (fun _=> [(1,25,c.l)]) (fun x=>Y H az aF (x.2++M)) (fun x=>x.1<=c.aX) (fun x=>c.aX-x.1) (0,[_]) (cY _) ⟨rfl,rfl,rfl,rfl,trivial⟩ ⟨rfl,trivial⟩ ?_
 intro⟨k,lZ⟩ Bq ou
 dsimp only at ou|-
 conv=>whnf
 refine ba.dec (fun cc=>?_) (fun cc=>?_)
 rotate_left
 ·conv=>whnf
  exact cd.drop (K:=K) _ (od lZ _) U
 have sA:k<c.dC.length:=by omega
 have sq:=h.body _ (fM sA)
 conv=>whnf
 repeat'((first
  |refine ap6 aj k sA sq ?_
  |exact cC (X:=Nat×aw) (k+1,lZ) (by show c.aX-(k+1)<c.aX-k;omega) (by show k+1<=c.aX;omega) ⟨rfl,rfl,rfl,eD S,trivial⟩ ⟨rfl,trivial⟩
  |refine ea ?_
  |(refine gs ?_ ?_<;>(try with_reducible intro ab)<;>(try(exfalso;omega)))
  |with_reducible intro r)<;>(try conv=>whnf))
end
theorem zP {P:Prop} (h:P:=by
 repeat'((first
  |(rw[Io])
  |(rw[agD];refine abe a8 S (fun br bz dS ep=>?_);rw[afS] at dS|-)
  |(refine jL mE (fy.own (l:=pF.flatMap c4.l) mE (List.Mem.head _) G0 _) .here S ?_;intro da c7 qz xb;rw[KI,<-E7])
  |(rw[sF])
  |(rw[AV];refine apC a8 (fun br bz dS ep=>?_))
  |(refine jL mE (fy.own (l:=(rT a (j:Nat) (a.maps+(j:Nat)+1)).flatMap c4.l) mE (List.Mem.head _) G0 _) .here S ?_;intro da c7 qz xb;rw[KI,<-E7])
  |(exact cC (X:=Nat×List c4×Option Addr×Nat) (j+1,dd++rT a (j:Nat) (a.maps+(j:Nat)+1),da,c7) (by show a.cF.toNat-(j+1)<a.cF.toNat-j;omega) ⟨by show j+1<=a.cF.toNat;omega,by show dd++_=_;rw[gr,ob,RB],by show(dd++rT a (j:Nat) (a.maps+(j:Nat)+1)).length<=64+8*(j+1);rw[E7];omega⟩ ⟨rfl,rfl,rfl,eD S,trivial⟩ ⟨rfl,trivial⟩)
  |(rw[au];refine aqg a8 (fun br bz dS ep=>?_))
  |(refine jL mE (fy.own (l:=(xY a (i:Nat) ((i:Nat)+1)).flatMap c4.l) mE (List.Mem.head _) G0 _) .here S ?_;intro bf bA ka iz;rw[KI,<-HK])
  |(exact cC (X:=Nat×List c4×Option Addr×Nat) (i+1,l++xY a (i:Nat) ((i:Nat)+1),bf,bA) (by show a.maps.toNat-(i+1)<a.maps.toNat-i;omega) ⟨by show i+1<=a.maps.toNat;omega,by show l++_=_;rw[V];exact RB,by show(l++xY a (i:Nat) ((i:Nat)+1)).length<=8*(i+1);rw[HK];omega⟩ ⟨rfl,rfl,rfl,eD S,trivial⟩ ⟨rfl,trivial⟩)
  |(refine uW (r:=⟨if i=0 then 0 else(f:Int),false,0⟩) ?_;rw[afr])
  |(refine Mr a8 (fun v ah=>?_);subst ah)
  |(refine WW a8 (fun v ah=>?_);subst ah)
  |(refine uW (r:=⟨n,false,0⟩) ?_)
  |(refine FI a8 (fun v ah=>?_);subst ah)
  |(refine hb mE W ?_)
  |(refine jL mE (fy.own (l:=(ic a.era 1).l) mE (List.Mem.head _) yv 1) .here (show(dd++pF).length+1<=1000000000 by rw[E7];omega) ?_;intro eJ fa Sd L4;rw[Cd,<-R7])
  |(subst ow;exact cA (U eJ fa (by rw[R7,E7];omega) S L4))
  |(refine jL mE (fy.own (l:=(ic a.free (jB ⟨if(f:Int)<=a.nodes then(f:Int) else 0,false,0⟩)).l) mE (List.Mem.head _) yv 1) .here (show l.length+1<=1000000000 by omega) ?_;intro br bz dS ep;rw[Cd,<-hlen (ic a.free (jB ⟨if(f:Int)<=a.nodes then(f:Int) else 0,false,0⟩))])
  |(subst ow;exact cA (U br bz (by rw[hlen];exact dS) ep))
  |(refine jL mE (fy.own (l:=(ic (eL a ((f+i:Nat):Int) 7) 0).l) mE (List.Mem.head _) yv 1) .here (show l.length+1<=1000000000 by omega) ?_;intro br bz dS ep;rw[Cd,<-hlen])
  |(refine jL mE (fy.own (l:=(ic (eL a ((f+i:Nat):Int) 7) (IntKind.i64.wrap (((f+i:Nat):Int)+1))).l) mE (List.Mem.head _) yv 1) .here (show l.length+1<=1000000000 by omega) ?_;intro br bz dS ep;rw[Cd,<-hlen,au])
  |(exact cC (X:=Nat×List c4×Option Addr×Nat) (i+1,l++[ic (eL a ((f+i:Nat):Int) 7) 0],br,bz) (by show a.nodes.toNat+1-f-(i+1)<a.nodes.toNat+1-f-i;omega) ⟨by show i+1<=a.nodes.toNat+1-f;omega,by show l++_=_;rw[V,<-OS,if_pos av]⟩ ⟨rfl,rfl,rfl,rfl,eD S,trivial⟩ ⟨rfl,trivial⟩)
  |(exact cC (X:=Nat×List c4×Option Addr×Nat) (i+1,l++[ic (eL a ((f+i:Nat):Int) 7) (((f+i:Nat):Int)+1)],br,bz) (by show a.nodes.toNat+1-f-(i+1)<a.nodes.toNat+1-f-i;omega) ⟨by show i+1<=a.nodes.toNat+1-f;omega,by show l++_=_;rw[V,<-OS,if_neg av]⟩ ⟨rfl,rfl,rfl,rfl,eD S,trivial⟩ ⟨rfl,trivial⟩)
  |(refine jL mE (fy.own (l:=(ic (rv a c) (jB ⟨n,false,0⟩)).l++(ic (qg a c) (jB ⟨n,false,0⟩)).l) mE (List.Mem.head _) (fun u aS=>(iw.1 aS).elim (yv u) (yv u)) 2) .here (show l.length+2<=1000000000 by omega) ?_;intro br bz dS ep;rw[HK,<-tp])
  |(subst ow;exact cA (U br bz S ep))
  |(refine jL mE (fy.own (l:=(ic (eL a n (i:Nat)) 0).l) mE (List.Mem.head _) yv 1) .here (show l.length+1<=1000000000 by omega) ?_;intro br bz dS ep;rw[Cd,<-hlen])
  |(exact cC (X:=Nat×List c4×Option Addr×Nat) (i+1,l++[ic (eL a n (i:Nat)) 0],br,bz) (by show 6-(i+1)<6-i;omega) ⟨by show i+1<=6;omega,by show l++_=_;rw[V];exact OS⟩ ⟨rfl,rfl,rfl,rfl,eD S,trivial⟩ ⟨rfl,trivial⟩)
  |(exact cd.imp (K:=K) _ (aJ.nil M none 136 4) y6)
  |refine eg ?_
  |(refine eh ?_ ?_<;>(try with_reducible intro ab)<;>(try(exfalso;omega)))
  |with_reducible intro r)<;>(try conv=>whnf))):P:=h
def ic(cell v:Int):c4:=⟨2,cell,0,v⟩
def xY(a:c8)(m n:Int):List c4:=[ic (eL a n 0) 0,ic (eL a n 1) 0,ic (eL a n 2) 0,ic (eL a n 6) 1,ic (oA a m 0) 1,ic (oA a m 1) 0,ic (Cj a m 0) (jB ⟨n,false,0⟩)]
def rT(a:c8)(c n:Int):List c4:=if rv a c<0\/eL a n 0<0 then [] else((List.range 6).map fun i=>ic (eL a n (i:Nat)) 0)++[ic (rv a c) (jB ⟨n,false,0⟩),ic (qg a c) (jB ⟨n,false,0⟩)]
def wW(a:c8)(f:Nat):List c4:=((List.range (a.nodes.toNat+1-f)).map fun i=>ic (eL a (f+i:Nat) 7) (if((f+i:Nat):Int)=a.nodes then 0 else(f+i:Nat)+1))++[ic a.free (jB ⟨if(f:Int)<=a.nodes then f else 0,false,0⟩)]
def xD(a:c8):List c4:=((List.range a.maps.toNat).flatMap fun m=>xY a (m:Nat) ((m:Nat)+1))++((List.range a.cF.toNat).flatMap fun c=>rT a (c:Nat) (a.maps+(c:Nat)+1))++wW a (a.maps.toNat+a.cF.toNat+1)++[ic a.era 1]
def ur(A:Option Addr)(c:Nat)(l:List c4):Value×aY:=(.slice A l.length c,.row 136 4 (l.flatMap c4.l))
theorem G0{l:List c4}:∀u∈l.flatMap c4.l,u.oneCell'=true:=fun u aS=>by
 obtain⟨a,_,a8⟩:=List.mem_flatMap.1 aS
 simp only[c4.l,mz,sa,or_false] at a8
 rcases a8 with rfl|rfl|rfl|rfl<;>rfl
theorem yv{a:c4}:∀u∈a.l,u.oneCell'=true:=fun u aS=>G0 (l:=[a]) u (by simpa using aS)
theorem KI{l m:List c4}:l.flatMap c4.l++m.flatMap c4.l=(l++m).flatMap c4.l:=List.flatMap_append.symm
theorem Cd{l:List c4}{a:c4}:l.flatMap c4.l++a.l=(l++[a]).flatMap c4.l:=by simp
section
theorem TS{ha:Nat}{A:Option Addr}{c:Nat}{l:List c4}{cell v:Int}(ai:l.length<=1000)(U:∀aR aN,(l++[ic cell v]).length<=aN->(0<aN->∃b,aR=some ⟨b,0,none⟩)->K (.tuple #[]) (Y H w0 X ((ae ha,.cs 170 [.slice aR (l++[ic cell v]).length aN])::ur aR aN (l++[ic cell v])::M))):
  a4 H w0 X ((ae ha,.cs 170 [.slice A l.length c])::ur A c l::M) 161 #[J cell,J v,ae ha] K Z:=by
 have hlen:(l++[ic cell v]).length=l.length+1:=gC
 refine a7 att ?_
 intro az aF
 conv=>whnf
 repeat'((first
  |refine hb mE W ?_
  |(refine jL mE (fy.own (l:=(ic cell v).l) mE (List.Mem.head _) yv 1) (.there .here) (show l.length+1<=1000000000 by omega) ?_;intro br bz dS ep;rw[Cd,<-hlen])
  |exact cA (U _ _ S ep)
  |refine ea ?_
  |(refine gs ?_ ?_<;>(try with_reducible intro ab))
  |with_reducible intro r)<;>(try conv=>whnf))
theorem aqg{a:c8}(a8:ig a){m n:Int}(U:∀A c,(xY a m n).length<=c->(0<c->∃b,A=some ⟨b,0,none⟩)->K (.slice A (xY a m n).length c) (Y H w0 X (ur A c (xY a m n)::M))):
  a4 H w0 X M 120 #[.agg a.l.toArray,J m,J n] K Z:=by
 refine ay.imp (aJ.nil M none 136 4) ?_
 refine a7 atm ?_
 intro az aF
 conv=>whnf
 repeat'((first
  |refine kZ W ?_
  |(refine FI a8 (fun v ah=>?_);subst ah)
  |(refine Dk a8 (fun v ah=>?_);subst ah)
  |(refine QX a8 (fun v ah=>?_);subst ah)
  |refine uW (r:=⟨n,false,0⟩) ?_
  |refine TS (l:=[]) (cY _) (fun br bz dS ep=>?_)
  |refine TS (by simp) (fun br bz dS ep=>?_)
  |exact cd.drop (K:=K) _ (.cons _ (List.Sublist.refl _)) (U br bz dS ep)
  |refine ea ?_
  |(refine gs ?_ ?_<;>(try with_reducible intro ab))
  |with_reducible intro r)<;>(try conv=>whnf))
theorem OS{ck:Type}{k:Nat}{f:Nat->ck}:((List.range k).map f)++[f k]=(List.range (k+1)).map f:=by rw[List.range_succ,zZ];rfl
theorem apC{a:c8}(a8:ig a){c n:Int}(U:∀A k,(rT a c n).length<=k->(0<k->∃b,A=some ⟨b,0,none⟩)->K (.slice A (rT a c n).length k) (Y H w0 X (ur A k (rT a c n)::M))):
  a4 H w0 X M 121 #[.agg a.l.toArray,J c,J n] K Z:=by
 by_cases ts:rv a c<0\/eL a n 0<0
 ·have y6:=U none 0 (by rw[rT,if_pos ts];exact Nat.le_refl _) (fun h=>absurd h bC)
  rw[rT,if_pos ts] at y6
  refine a7 XL ?_
  intro az aF
  conv=>whnf
  exact zP
 obtain⟨out,ow⟩:∃out,out=rT a c n:=⟨_,rfl⟩
 rw[<-ow] at U
 rw[rT,if_neg ts] at ow
 refine ay.imp (aJ.nil M none 136 4) ?_
 refine a7 XL ?_
 intro az aF
 conv=>whnf
 repeat'((first
  |(refine Mr a8 (fun v ah=>?_);subst ah)
  |(refine FI a8 (fun v ah=>?_);subst ah)
  |refine ea ?_
  |(refine gs ?_ ?_<;>(try with_reducible intro ab)<;>(try(exfalso;omega)))
  |with_reducible intro r)<;>(try conv=>whnf))
 refine c9.on (X:=Nat×List c4×Option Addr×Nat) (fun x=> [(1,.v (J c)),(2,.v (J n)),(3,.p 3 0),(7,.v (.slice x.2.2.1 x.2.1.length x.2.2.2)),(20,.v (J (x.1:Int)))]) (fun _=> [(3,40,a.l)]) (fun x=>Y H az aF (ur x.2.2.1 x.2.2.2 x.2.1::M)) (fun x=>x.1<=6/\x.2.1=(List.range x.1).map (fun i=>ic (eL a n (i:Nat)) 0)) (fun x=>6-x.1) (0,[],none,0) ⟨by decide,rfl⟩ ⟨rfl,rfl,rfl,rfl,rfl,trivial⟩ ⟨rfl,trivial⟩ ?_
 intro⟨i,l,A,k⟩ r ⟨O,V⟩
 dsimp only at O V|-
 have qC:l.length=i:=by rw[V,kz,B3]
 have hlen:∀x:c4,(l++[x]).length=l.length+1:=fun x=>gC
 conv=>whnf
 refine ba.dec (fun cc=>?_) (fun cc=>?_)
 ·conv=>whnf
  exact zP
 have afC:i=6:=by omega
 rw[afC] at V
 rw[<-V] at ow
 have tp:(l++[ic (rv a c) (jB ⟨n,false,0⟩),ic (qg a c) (jB ⟨n,false,0⟩)]).length=l.length+2:=gC
 have HK:l.flatMap c4.l++((ic (rv a c) (jB ⟨n,false,0⟩)).l++(ic (qg a c) (jB ⟨n,false,0⟩)).l)=(l++[ic (rv a c) (jB ⟨n,false,0⟩),ic (qg a c) (jB ⟨n,false,0⟩)]).flatMap c4.l:=by simp
 conv=>whnf
 exact zP
theorem abe{a:c8}(a8:ig a){f:Nat}(aK:1<=f/\f<=1000)(U:∀A k,(wW a f).length<=k->(0<k->∃b,A=some ⟨b,0,none⟩)->K (.slice A (wW a f).length k) (Y H w0 X (ur A k (wW a f)::M))):
  a4 H w0 X M 122 #[.agg a.l.toArray,J (f:Int)] K Z:=by
 have aB:=a8.nodes
 obtain⟨out,ow⟩:∃out,out=wW a f:=⟨_,rfl⟩
 rw[<-ow] at U
 rw[wW] at ow
 refine ay.imp (aJ.nil M none 136 4) ?_
 refine a7 atn ?_
 intro az aF
 conv=>whnf
 repeat'((first
  |(refine IZ ?_;rw[if_neg S])
  |refine ea ?_
  |with_reducible intro r)<;>(try conv=>whnf))
 refine c9.on (X:=Nat×List c4×Option Addr×Nat) (fun x=> [(1,.v (J (f:Int))),(2,.p 2 0),(5,.v (J (if x.1=0 then 0 else(f:Int)))),(6,.v (.slice x.2.2.1 x.2.1.length x.2.2.2)),(7,.v (J ((f+x.1:Nat):Int)))]) (fun _=> [(2,40,a.l)]) (fun x=>Y H az aF (ur x.2.2.1 x.2.2.2 x.2.1::M)) (fun x=>x.1<=a.nodes.toNat+1-f/\x.2.1=(List.range x.1).map (fun i=>ic (eL a (f+i:Nat) 7) (if((f+i:Nat):Int)=a.nodes then 0 else(f+i:Nat)+1))) (fun x=>a.nodes.toNat+1-f-x.1) (0,[],none,0) ⟨cY _,rfl⟩ ⟨rfl,rfl,rfl,rfl,rfl,trivial⟩ ⟨rfl,trivial⟩ ?_
 intro⟨i,l,A,k⟩ r ⟨O,V⟩
 dsimp only at O V|-
 have qC:l.length=i:=by rw[V,kz,B3]
 have hlen:∀x:c4,(l++[x]).length=l.length+1:=fun x=>gC
 have au:IntKind.i64.wrap (((f+i:Nat):Int)+1)=((f+i:Nat):Int)+1:=cK S
 conv=>whnf
 refine ba.dec (fun cc=>?_) (fun cc=>?_)
 ·have y9:((f+i:Nat):Int)<=a.nodes:=cc
  conv=>whnf
  exact zP
 have afl:a.nodes.toNat+1-f=i:=by
  have:¬((f+i:Nat):Int)<=a.nodes:=cc
  omega
 rw[afl,<-V] at ow
 have afr:(if i=0 then(0:Int) else(f:Int))=if(f:Int)<=a.nodes then(f:Int) else 0:=by
  split
  ·rw[if_neg S]
  ·rw[if_pos S]
 conv=>whnf
 exact zP
theorem RB{ck:Type}{k:Nat}{f:Nat->List ck}:((List.range k).flatMap f)++f k=(List.range (k+1)).flatMap f:=by rw[List.range_succ,zX];simp
theorem aqf(a:c8)(m n:Int):(xY a m n).length=7:=rfl
theorem apB(a:c8)(c n:Int):(rT a c n).length<=8:=by unfold rT;split<;>simp
theorem abd(a:c8)(f:Nat):(wW a f).length=a.nodes.toNat+1-f+1:=by simp[wW]
theorem al4{a:c8}(a8:ig a)(U:∀A k,(xD a).length<=10000->(xD a).length<=k->(0<k->∃b,A=some ⟨b,0,none⟩)->K (.slice A (xD a).length k) (Y H w0 X (ur A k (xD a)::M))):
  a4 H w0 X M 86 #[.agg a.l.toArray] K Z:=by
 have aB:=a8.nodes
 have ad:=a8.maps
 have aj:=a8.cF
 obtain⟨out,ow⟩:∃out,out=xD a:=⟨_,rfl⟩
 rw[<-ow] at U
 rw[xD] at ow
 refine ay.imp (aJ.nil M none 136 4) ?_
 refine a7 atW ?_
 intro az aF
 conv=>whnf
 refine c9.on (X:=Nat×List c4×Option Addr×Nat) (fun x=> [(1,.p 1 0),(3,.v (.slice x.2.2.1 x.2.1.length x.2.2.2)),(8,.v (J a.maps)),(9,.v (J (x.1:Int)))]) (fun _=> [(1,40,a.l)]) (fun x=>Y H az aF (ur x.2.2.1 x.2.2.2 x.2.1::M)) (fun x=>x.1<=a.maps.toNat/\x.2.1=(List.range x.1).flatMap (fun m=>xY a (m:Nat) ((m:Nat)+1))/\x.2.1.length<=8*x.1) (fun x=>a.maps.toNat-x.1) (0,[],none,0) ⟨cY _,rfl,Nat.le_refl _⟩ ⟨rfl,rfl,rfl,rfl,trivial⟩ ⟨rfl,trivial⟩ ?_
 intro⟨i,l,A,k⟩ r ⟨O,V,aa⟩
 dsimp only at O V aa|-
 have au:IntKind.i64.wrap ((i:Int)+1)=(i:Int)+1:=cK S
 have HK:∀dd:List c4,(l++dd).length=l.length+dd.length:=fun dd=>gC
 conv=>whnf
 refine ba.dec (fun cc=>?_) (fun cc=>?_)
 ·have y9:(i:Int)<a.maps:=cc
  have dh:=aqf a (i:Nat) ((i:Nat)+1)
  conv=>whnf
  exact zP
 have afD:i=a.maps.toNat:=by have:¬(i:Int)<a.maps:=cc;omega
 rw[afD] at V
 rw[<-V] at ow
 conv=>whnf
 refine c9.on (X:=Nat×List c4×Option Addr×Nat) (fun x=> [(1,.p 1 0),(3,.v (.slice x.2.2.1 x.2.1.length x.2.2.2)),(22,.v (J a.cF)),(23,.v (J (x.1:Int)))]) (fun _=> [(1,40,a.l)]) (fun x=>Y H az aF (ur x.2.2.1 x.2.2.2 x.2.1::M)) (fun x=>x.1<=a.cF.toNat/\x.2.1=l++(List.range x.1).flatMap (fun c=>rT a (c:Nat) (a.maps+(c:Nat)+1))/\x.2.1.length<=64+8*x.1) (fun x=>a.cF.toNat-x.1) (0,l,A,k) ⟨cY _,(List.append_nil l).symm,by show l.length<=64;omega⟩ ⟨rfl,rfl,rfl,rfl,trivial⟩ ⟨rfl,trivial⟩ ?_
 intro⟨j,dd,bf,hV⟩ lU ⟨gX,gr,kT⟩
 dsimp only at gX gr kT|-
 have sF:IntKind.i64.wrap (a.maps+(j:Int))=a.maps+(j:Int):=cK S
 have AV:IntKind.i64.wrap (a.maps+(j:Int)+1)=a.maps+(j:Int)+1:=cK S
 have Io:IntKind.i64.wrap (a.maps+a.cF)=a.maps+a.cF:=cK S
 have agD:IntKind.i64.wrap (a.maps+a.cF+1)=((a.maps.toNat+a.cF.toNat+1:Nat):Int):=(cK S).trans S
 have E7:∀dN:List c4,(dd++dN).length=dd.length+dN.length:=fun dN=>gC
 conv=>whnf
 refine ba.dec (fun cc=>?_) (fun cc=>?_)
 ·have y9:(j:Int)<a.cF:=cc
  have cT:=apB a (j:Nat) (a.maps+(j:Nat)+1)
  conv=>whnf
  exact zP
 have afI:j=a.cF.toNat:=by have:¬(j:Int)<a.cF:=cc;omega
 rw[afI] at gr
 rw[<-gr] at ow
 have kV:=abd a (a.maps.toNat+a.cF.toNat+1)
 generalize afS:wW a (a.maps.toNat+a.cF.toNat+1)=pF at*
 have R7:(dd++pF++[ic a.era 1]).length=(dd++pF).length+1:=gC
 conv=>whnf
 exact zP
end
theorem PL {P:Prop} (h:P:=by
 repeat'((first
  |(refine tv jV q rfl S (fun cu fX fE im=>?_))
  |(refine mo av aD W ?_)
  |(refine Q8 a8 (fun v ah=>?_);subst ah)
  |(refine Dy (m:=A2 a cs q) afP S ?_;rw[<-ago])
  |(exact cC (X:=Nat) (q+1) (by show c.bB-(q+1)<c.bB-q;omega) (by show q+1<=c.bB;omega) ⟨rfl,rfl,rfl,rfl,rfl,eD S,trivial⟩ ⟨rfl,rfl,trivial⟩)
  |(refine KK a8 (fun v ah=>?_);subst ah)
  |(refine UZ a8 (fun v ah=>?_);subst ah)
  |(refine Dy (m:=uR a w) Ff S ?_)
  |(refine Dy (m:=mq (uR a w) (vy a (w:Nat)) 1) (xO.trans Ff) S ?_;rw[<-MT])
  |(exact cC (X:=Nat) (w+1) (by show a.bt.toNat-(w+1)<a.bt.toNat-w;omega) (by show w+1<=a.bt.toNat;omega) ⟨rfl,rfl,rfl,rfl,eD S,trivial⟩ ⟨rfl,rfl,trivial⟩)
  |(refine iP oX i rfl hi ?_)
  |(subst oX;refine zl (dZ[i]).l (List.Mem.head _) aD W W (uF c4.l 4 (fun _=>rfl) dZ i hi) ?_)
  |(refine ar0 (a:=dZ[i]) aa S ?_)
  |(exact cC (X:=Nat×List Int) (i+1,(g2 m dZ[i]).1) (by show dZ.length-(i+1)<dZ.length-i;omega) ⟨by show i+1<=dZ.length;omega,ags.symm,JS.trans aa⟩ ⟨rfl,rfl,rfl,rfl,rfl,eD S,trivial⟩ ⟨rfl,rfl,trivial⟩)
  |refine eg ?_
  |(refine eh ?_ ?_<;>(try with_reducible intro ab)<;>(try(exfalso;omega)))
  |with_reducible intro r)<;>(try conv=>whnf))):P:=h
def Fz(a:c8):List Int:=mq ((xD a).foldl (fun m x=>(g2 m x).1) (List.replicate a.size.toNat 0)) a.count 1
def uR(a:c8)(n:Nat):List Int:=(List.range n).foldl (fun m w=>mq (mq m (vy a (w:Nat)) 1) (Dw a (w:Nat)) (w:Nat)) (Fz a)
def IL(a:c8):List Int:=mq (mq (uR a a.bt.toNat) (hY a 1 0) 2) (hY a 1 1) 1
def A2(a:c8)(cs:List Int)(n:Nat):List Int:=(List.range n).foldl (fun m i=>mq m (Cl a (i:Nat)) (cs.getD i 0)) (IL a)
def sJ(a:c8)(cs:List Int):List Int:=A2 a cs cs.length
theorem RC{gH:Type}{f:gH->Nat->gH}{b:gH}{n:Nat}:(List.range (n+1)).foldl f b=f ((List.range n).foldl f b) n:=by rw[List.range_succ,List.foldl_append];rfl
theorem Hv{gH:Type}{f:List Int->gH->List Int}(aK:∀m x,(f m x).length=m.length):∀(l:List gH) (m:List Int),(l.foldl f m).length=m.length
 |[],_=>rfl
 |x::l,m=>by rw[List.foldl_cons,Hv aK l,aK]
theorem akr(a:c8):(Fz a).length=a.size.toNat:=by unfold Fz;rw[xO,Hv (fun m x=>JS),List.length_replicate]
theorem TP(a:c8)(n:Nat):(uR a n).length=a.size.toNat:=by unfold uR;rw[Hv (fun m x=>by rw[xO,xO]),akr]
theorem aks(a:c8):(IL a).length=a.size.toNat:=by unfold IL;rw[xO,xO,TP]
theorem TQ(a:c8)(cs:List Int)(n:Nat):(A2 a cs n).length=a.size.toNat:=by unfold A2;rw[Hv (fun m x=>xO),aks]
section
def sK(b n:Nat)(m:List Int):Value×aY:=(.slice (some ⟨b,0,none⟩) n n,.row 3 1 (is m))
theorem Dy{b n:Nat}{m:List Int}{at_ v:Int}(ai:m.length=n)(aB:n<=1000000)(U:K (.tuple #[]) (Y H w0 X (sK b n (mq m at_ v)::M))):a4 H w0 X (sK b n m::M) 87 #[.slice (some ⟨b,0,none⟩) n n,J at_,J v] K Z:=
 Vp (fun _=>⟨b,rfl⟩) ai.symm (Nat.le_refl _) aB (by rw[mq,ai] at U;exact U)
theorem ar0{b n:Nat}{m:List Int}{a:c4}{x:Value×aY}(ai:m.length=n)(aB:n<=1000000)(U:K (.tuple #[.agg (hs (g2 m a).2.1).toArray,J (g2 m a).2.2]) (Y H w0 X (x::sK b n (g2 m a).1::M))):a4 H w0 X (x::sK b n m::M) 64 #[.slice (some ⟨b,0,none⟩) n n,.agg a.l.toArray] K Z:=
 ay.post (ay.imp (aJ.perm (.swap _ _ _)) (W9 (fun _=>⟨b,rfl⟩) ai.symm (Nat.le_refl _) aB ⟨_,_,rfl,aJ.perm (.swap _ _ _),U⟩))
theorem alp{n:Int}(m:Nat)(aB:n=(m:Int))(ad:m<=1000000){K:Value->an->Prop}(h:∀b,K (.slice (some ⟨b,0,none⟩) m m) (Y H w0 X (sK b m (List.replicate m 0)::M))):bk Tryz.prog (Y H w0 X M) (Instr.makeSlice 23 (J n) (J n)) K:=Ui m aB ad h
theorem aky{c:cr}{cs:List Int}{a:c8}(a8:ig a)(jV:fG H c.fY c.bB c.dD cs)(U:∀b,K (.slice (some ⟨b,0,none⟩) a.size.toNat a.size.toNat) (Y H w0 X (sK b a.size.toNat (sJ a cs)::M))):
  a4 H w0 X M 39 #[.agg c.l.toArray,.agg a.l.toArray] K Z:=by
 have rF:=a8.at_ a.size (by simp)
 have lL:=a8.bt
 have Ib:=jV.len
 have gx:=jV.dB
 generalize eC:a.size.toNat=N at*
 refine a7 as9 ?_
 intro az aF
 conv=>whnf
 repeat'((first
  |(refine alp N S S (fun b=>?_))
  |refine al4 a8 (fun A k afb E4 b0=>?_)
  |refine ea ?_
  |(refine gs ?_ ?_<;>(try with_reducible intro ab)<;>(try(exfalso;omega)))
  |with_reducible intro r)<;>(try conv=>whnf))
 have AG:Fz a=mq ((xD a).foldl (fun m x=>(g2 m x).1) (List.replicate N 0)) a.count 1:=by unfold Fz;rw[eC]
 generalize xD a=dZ at*
 refine c9.on (X:=Nat×List Int) (fun x=> [(2,.p 2 0),(3,.p 3 0),(5,.v (.slice (some ⟨b,0,none⟩) N N)),(15,.v (.slice A dZ.length k)),(16,.v (J (dZ.length:Int))),(17,.v (J (x.1:Int)))]) (fun _=> [(2,25,c.l),(3,40,a.l)]) (fun x=>Y H az aF (ur A k dZ::sK b N x.2::M)) (fun x=>x.1<=dZ.length/\x.2=(dZ.take x.1).foldl (fun m x=>(g2 m x).1) (List.replicate N 0)/\x.2.length=N) (fun x=>dZ.length-x.1) (0,List.replicate N 0) ⟨cY _,rfl,List.length_replicate⟩ ⟨rfl,rfl,rfl,rfl,rfl,rfl,trivial⟩ ⟨rfl,rfl,trivial⟩ ?_
 intro⟨i,m⟩ r ⟨O,V,aa⟩
 dsimp only at O V aa|-
 conv=>whnf
 refine ba.dec (fun cc=>?_) (fun cc=>?_)
 ·have hi:i<dZ.length:=by omega
  obtain⟨EF,oX⟩:=b0 S
  have ags:(dZ.take (i+1)).foldl (fun m x=>(g2 m x).1) (List.replicate N 0)=(g2 m dZ[i]).1:=by rw[ue hi,List.foldl_append,<-V];rfl
  conv=>whnf
  exact PL
 rw[rb S] at V
 rw[<-V] at AG
 conv=>whnf
 repeat'((first
  |refine ay.imp (aJ.sub (.cons _ (List.Sublist.refl _))) (Dy aa S ?_)
  |refine ea ?_
  |with_reducible intro r)<;>(try conv=>whnf))
 rw[<-AG]
 refine c9.on (X:=Nat) (fun x=> [(2,.p 2 0),(3,.p 3 0),(5,.v (.slice (some ⟨b,0,none⟩) N N)),(31,.v (J a.bt)),(32,.v (J (x:Int)))]) (fun _=> [(2,25,c.l),(3,40,a.l)]) (fun x=>Y H az aF (sK b N (uR a x)::M)) (fun x=>x<=a.bt.toNat) (fun x=>a.bt.toNat-x) 0 (cY _) ⟨rfl,rfl,rfl,rfl,rfl,trivial⟩ ⟨rfl,rfl,trivial⟩ ?_
 intro w rQ sF
 have Ff:=(TP a w).trans eC
 have MT:uR a (w+1)=mq (mq (uR a w) (vy a (w:Nat)) 1) (Dw a (w:Nat)) (w:Nat):=RC
 conv=>whnf
 refine ba.dec (fun cc=>?_) (fun cc=>?_)
 ·have y9:(w:Int)<a.bt:=cc
  conv=>whnf
  exact PL
 have agE:w=a.bt.toNat:=by have:¬(w:Int)<a.bt:=cc;omega
 subst agE
 conv=>whnf
 repeat'((first
  |(refine JP a8 (fun v ah=>?_);subst ah)
  |refine Dy (m:=uR a a.bt.toNat) Ff S ?_
  |(refine Dy (m:=mq (uR a a.bt.toNat) (hY a 1 0) 2) (xO.trans Ff) S ?_;rw[show mq (mq (uR a a.bt.toNat) (hY a 1 0) 2) (hY a 1 1) 1=IL a from rfl])
  |refine ea ?_
  |with_reducible intro r)<;>(try conv=>whnf))
 refine c9.on (X:=Nat) (fun x=> [(2,.p 2 0),(3,.p 3 0),(5,.v (.slice (some ⟨b,0,none⟩) N N)),(56,.v (.slice c.fY c.bB c.dD)),(57,.v (J (c.bB:Int))),(58,.v (J (x:Int)))]) (fun _=> [(2,25,c.l),(3,40,a.l)]) (fun x=>Y H az aF (sK b N (A2 a cs x)::M)) (fun x=>x<=c.bB) (fun x=>c.bB-x) 0 (cY _) ⟨rfl,rfl,rfl,rfl,rfl,rfl,trivial⟩ ⟨rfl,rfl,trivial⟩ ?_
 intro q Bq MM
 have afP:=(TQ a cs q).trans eC
 have ago:A2 a cs (q+1)=mq (A2 a cs q) (Cl a (q:Nat)) (cs.getD q 0):=RC
 conv=>whnf
 refine ba.dec (fun cc=>?_) (fun cc=>?_)
 ·conv=>whnf
  exact PL
 have C2:q=cs.length:=by omega
 subst C2
 conv=>whnf
 exact cA (U b)
end
end Go.Proofs.YtcflcebplhdcpaaGreat
