/- Lemmas, part 24; each states its own conditions. -/
import Derived.Test.YtcflcebplhdcpaaGreatL14
import Derived.Test.YtcflcebplhdcpaaGreatL21
namespace Go.Proofs.YtcflcebplhdcpaaGreat
open Go.RowKit
set_option linter.unusedSimpArgs false
set_option linter.unusedVariables false
set_option maxRecDepth 100000
set_option maxHeartbeats 16000000
variable{H w0:World}{X:Nat->Prop}{M:aw}{K:Value->an->Prop}{Z:bF}
theorem asP {P:Prop} (h:P:=by
 repeat'((first
  |(refine cd.drop (K:=K) M cn (key _ (by first|(simp;omega)|simp)))
  |(refine gd sI ?_;intro be bM)
  |refine eg ?_
  |(refine eh ?_ ?_<;>(try with_reducible intro ab)<;>(try(exfalso;omega)))
  |with_reducible intro r)<;>(try conv=>whnf))):P:=h
structure KE where
 aO:List Int
 loc:List Int
 kids:List jq
 many:Int
def Bu(loc:List Int)(k:jq)(v:Int):List Int:=if 0<=k.dst then loc.set k.dst.toNat v else loc
def tT:List Int->List jq->List Int->List Int
 |loc,k::cL,v::vs=>tT (Bu loc k v) cL vs
 |loc,_,_=>loc
def mM(f:a3)(k b:Int)(vs:List Int):Option KE:=
 if k=1\/k=3 then(if vs.length=1/\kL vs=true/\f.aO.length<100 then some ⟨f.aO++vs,f.loc,f.kids,f.many⟩ else none) else
 if k=2 then(if vs.length=0 then some ⟨f.aO,f.loc,f.kids,f.many⟩ else none) else
 if k=4 then(if vs.length=1/\1<=vs.getD 0 0/\lH b f.aM=true then some ⟨f.aO,f.loc,f.kids++[⟨vs.getD 0 0,b⟩],IntKind.i64.wrap (f.many+1)⟩ else none) else
 if k=5 then(if vs.length=f.kids.length/\kL vs=true/\f.kids.all (fun k=>lH k.dst f.aM)=true then some ⟨f.aO,tT f.loc f.kids vs,[],f.many⟩ else none) else none
abbrev Ke:List Value:=[J 0,.slice none 0 0,J 0,J 0,.slice none 0 0,.slice none 0 0,.slice none 0 0,J 0,J 0,.bool false]
section
variable{f:a3}{k b:Int}{vs loc:List Int}
theorem arS{i:Nat}(h:k=4)(O:vs.length=1)(aa:lH b f.aM=true)(V:vs.getD 0 0>=1)(ag:i=vs.length):mM f k b vs=some ⟨f.aO,f.loc,f.kids++(vs.take i).map fun v=>⟨v,b⟩,IntKind.i64.wrap (f.many+1)⟩:=by
 subst ag
 unfold mM
 rw[if_neg S,if_neg S,if_pos h,if_pos ⟨O,V,aa⟩,Ek]
 match vs,O with
 |[v],_=>rfl
theorem arT(h:k=4)(O:vs.length≠1\/¬1<=vs.getD 0 0\/lH b f.aM=false):mM f k b vs=none:=by
 unfold mM
 rw[if_neg S,if_neg S,if_pos h,if_neg]
 rintro⟨V,aa,ag⟩
 rcases O with O|O|O
 ·omega
 ·omega
 ·rw[O] at ag;cases ag
theorem arU(h:k=5)(O:(vs.length=f.kids.length/\kL vs=true/\f.kids.all (fun k=>lH k.dst f.aM)=true)/\loc=tT f.loc f.kids vs):mM f k b vs=some ⟨f.aO,loc,[],f.many⟩:=by
 unfold mM
 rw[if_neg S,if_neg S,if_neg S,if_pos h,if_pos O.1,O.2]
theorem arV(h:k=5)(O:¬(vs.length=f.kids.length/\kL vs=true/\f.kids.all (fun k=>lH k.dst f.aM)=true)):mM f k b vs=none:=by
 unfold mM
 rw[if_neg S,if_neg S,if_neg S,if_pos h,if_neg O]
end
def qW(g:a3)(M:aw):aw:=(.slice g.bq g.a5 g.bZ,.row 252 2 (ks g.kids))::(.slice g.b4 g.ns g.cs,.row 3 1 (is g.aO))::(.slice g.bK g.aM g.bD,.row 3 1 (is g.loc))::(.slice g.bW g.np g.bI,.row 3 1 (is g.path))::M
theorem TE:∀(xs fT:List jq),ks (xs++fT)=ks xs++ks fT
 |[],fT=>rfl
 |k::xs,fT=>by simp only[zW,ks,TE xs fT]
theorem Wo:∀(cL:List jq) (vs loc:List Int) (i:Nat) (h:i<cL.length) (V:i<vs.length),tT loc (cL.take (i+1)) (vs.take (i+1))=Bu (tT loc (cL.take i) (vs.take i)) cL[i] vs[i]
 |k::cL,v::vs,loc,0,h,V=>by simp[tT]
 |k::cL,v::vs,loc,i+1,h,V=>by
  simp only[List.take_succ_cons,tT,GR]
  exact Wo cL vs _ i (by simpa using h) (by simpa using V)
theorem Wq(loc:List Int)(k:jq)(v:Int):(Bu loc k v).length=loc.length:=by
 unfold Bu;split<;>simp
theorem Wn:∀(cL:List jq) (vs loc:List Int),(tT loc cL vs).length=loc.length
 |k::cL,v::vs,loc=>by rw[tT,Wn cL vs,Wq]
 |[],vs,_=>by cases vs<;>rfl
 |_::_,[],_=>rfl
theorem QM{ck:Type}(p:ck->Bool):∀(l:List ck) (i:Nat) (h:i<l.length),(l.take (i+1)).all p=((l.take i).all p&&p l[i])
 |a::l,0,h=>by simp
 |a::l,i+1,h=>by simp only[List.take_succ_cons,List.all_cons,GR,QM p l i (by simpa using h),Bool.and_assoc]
theorem aa3{ck:Type}(p:ck->Bool)(l:List ck)(i:Nat)(h:i<l.length)(bh:p l[i]=false):l.all p=false:=by
 cases e:l.all p with
 |false=>rfl
 |true=>have:=yg.1 e l[i] (fM h);rw[bh] at this;cases this
theorem aki{cL:List jq}{vs:List Int}{b:Int}{i:Nat}(h:i<vs.length):ks (cL++(vs.take i).map fun v=>⟨v,b⟩)++[J (vs.getD i 0),J b]=ks (cL++(vs.take (i+1)).map fun v=>⟨v,b⟩):=by
 rw[List.take_add_one,List.getElem?_eq_getElem h,Option.toList_some,zZ,<-ob,TE _ (List.map _ [_])]
 simp[ks,List.getD,h]
def jH(f:a3)(vs:List Int)(i:Nat)(tQ:Bool)(loc:List Int):Prop:=i<=f.a5/\loc.length=f.aM/\(tQ=true->(vs.length=f.kids.length/\kL vs=true)/\(f.kids.take i).all (fun k=>lH k.dst f.aM)=true/\loc=tT f.loc (f.kids.take i) (vs.take i))/\(tQ=false->¬(vs.length=f.kids.length/\kL vs=true/\f.kids.all (fun k=>lH k.dst f.aM)=true))
section
variable{f:a3}{vs loc:List Int}{i:Nat}{tQ:Bool}
theorem jH.t0(O:vs.length=f.kids.length)(V:kL vs=true)(aa:f.aM=f.loc.length):jH f vs 0 true f.loc:=⟨cY _,aa.symm,fun _=>⟨⟨O,V⟩,rfl,by cases vs<;>cases f.kids<;>rfl⟩,fun h=>absurd h bC⟩
theorem jH.f0(O:¬(vs.length=f.kids.length/\kL vs=true))(aa:f.aM=f.loc.length):jH f vs 0 false f.loc:=⟨cY _,aa.symm,fun h=>absurd h bC,fun _ h=>O ⟨h.1,h.2.1⟩⟩
theorem jH.adS(h:jH f vs i false loc)(hi:i<f.a5):jH f vs (i+1) false loc:=⟨hi,h.2.1,fun h=>absurd h bC,h.2.2.2⟩
theorem jH.ary(h:jH f vs i true loc)(hi:i<f.a5)(a9:i<f.kids.length)(aL:lH f.kids[i].dst f.aM=false):jH f vs (i+1) false loc:=⟨hi,h.2.1,fun h=>absurd h bC,fun _ eb=>by
 have:=aa3 (fun k:jq=>lH k.dst f.aM) f.kids i a9 aL
 rw[eb.2.2] at this
 cases this⟩
theorem jH.Xd(h:jH f vs i true loc)(hi:i<f.a5)(a9:i<f.kids.length)(aL:lH f.kids[i].dst f.aM=true):jH f vs (i+1) true (Bu loc f.kids[i] (vs.getD i 0)):=by
 obtain⟨O,V,aa,_⟩:=h
 obtain⟨ag,a6,bU⟩:=aa rfl
 have ah:i<vs.length:=by omega
 refine⟨hi,by rw[Wq];exact V,fun _=>⟨ag,by rw[QM _ _ _ a9,a6,aL];rfl,?_⟩,fun h=>absurd h bC⟩
 rw[Wo _ _ _ _ a9 ah,<-bU]
 congr 1
 simp[List.getD,ah]
theorem jH.fl(h:jH f vs i true loc)(hi:i<f.a5)(a9:i<f.kids.length)(aL:lH f.kids[i].dst f.aM=true)(aT:0<=f.kids[i].dst):jH f vs (i+1) true (loc.set f.kids[i].dst.toNat (vs.getD i 0)):=by
 have:=h.Xd hi a9 aL
 rwa [Bu,if_pos aT] at this
theorem jH.arQ(h:jH f vs i true loc)(hi:i<f.a5)(a9:i<f.kids.length)(aL:lH f.kids[i].dst f.aM=true)(aT:¬0<=f.kids[i].dst):jH f vs (i+1) true loc:=by
 have:=h.Xd hi a9 aL
 rwa [Bu,if_neg aT] at this
theorem jH.yL(h:jH f vs i true loc)(hi:¬i<f.a5)(ai:f.a5=f.kids.length):(vs.length=f.kids.length/\kL vs=true/\f.kids.all (fun k=>lH k.dst f.aM)=true)/\loc=tT f.loc f.kids vs:=by
 obtain⟨O,V,aa,_⟩:=h
 obtain⟨ag,a6,bU⟩:=aa rfl
 rw[rb S] at a6 bU
 rw[rb S] at bU
 exact⟨⟨ag.1,ag.2,a6⟩,bU⟩
end
section
theorem acs{f:a3}(aK:i1 H f)(U:∀bW bI bK bD b4 cs bq bZ,GI f bW bI bK bD b4 cs bq bZ->K (.agg #[J f.task,.slice bW f.np bI,J f.fn,J f.aA,.slice bK f.aM bD,.slice b4 f.ns cs,.slice bq f.a5 bZ,J f.many,J f.aH,.bool f.fail]) (Y H w0 X (zy f bW bI bK bD b4 cs bq bZ M))):ay Tryz.prog (Y H w0 X M) 125 #[.agg f.l.toArray] K Z:=
 Ra aK U
theorem asB{A:Option Addr}{n c:Nat}{xs:List Int}(h:fG H A n c xs)(O:kL xs=true->K (.bool true) (Y H w0 X M))(V:kL xs=false->K (.bool false) (Y H w0 X M)):ay Tryz.prog (Y H w0 X M) 85 #[.slice A n c] K Z:=by
 refine JV h ?_
 cases e:kL xs with
 |false=>exact V e
 |true=>exact O e
theorem adf{d l:Int}(h:d= -1\/0<=d/\d<l):lH d l=true:=by simp only[lH,r4,e3,decide_eq_true_eq];exact h
theorem ade{d l:Int}(h:¬(d= -1\/0<=d/\d<l)):lH d l=false:=by
 cases e:lH d l with
 |false=>rfl
 |true=>simp only[lH,r4,e3,decide_eq_true_eq] at e;exact absurd e h
theorem Lh{d l:Int}(O:lH d l=true->(d= -1\/0<=d/\d<l)->K (.bool true) (Y H w0 X M))(V:lH d l=false->¬(d= -1\/0<=d/\d<l)->K (.bool false) (Y H w0 X M)):ay Tryz.prog (Y H w0 X M) 168 #[J d,J l] K Z:=by
 have key:∀b:Bool,(b=true↔(d= -1\/0<=d/\d<l))->K (.bool b) (Y H w0 X M):=fun b ab=>by
  cases b with
  |false=>exact V (ade fun h=>by have:=ab.2 h;cases this) (fun h=>by have:=ab.2 h;cases this)
  |true=>exact O (adf (ab.1 rfl)) (ab.1 rfl)
 refine a7 Nt ?_
 intro az aF
 conv=>whnf
 exact asP
end
section
theorem Ja {P:Prop} (h:P:=by
 refine c9.on (X:=Nat×Option Addr×Nat) (fun x=> [(3,.p 3 0),(4,.p 4 0),(6,.p 6 0),(7,.v (J 0)),(8,.p 8 0),(9,.v (.bool sg)),(63,.v (.slice hZ cJ h4)),(64,.v (J (cJ:Int))),(65,.v (J (x.1:Int)))]) (fun x=> [(3,108,f.l),(4,74,[J k,J a,J b,J gG,J hl,J j1,J p3,.slice gA eM gJ]),(6,108,Ke),(8,108,[J f.task,.slice bW f.np bI,J f.fn,J f.aA,.slice bK f.aM bD,.slice b4 f.ns cs,.slice x.2.1 (f.a5+x.1) x.2.2,J f.many,J f.aH,.bool f.fail])]) (fun x=>Y H az aF (zy {f with a5:=f.a5+x.1,kids:=f.kids++(vs.take x.1).map fun v=>⟨v,b⟩} bW bI bK bD b4 cs x.2.1 x.2.2 M)) (fun x=>x.1<=cJ/\f.a5+x.1<=x.2.2/\(0<x.2.2->∃b,x.2.1=some ⟨b,0,none⟩)) (fun x=>cJ-x.1) (0,bq,bZ) (hC:=by simp[zy]) ⟨cY _,oZ.yZ,oZ.E4⟩ ⟨rfl,rfl,rfl,rfl,rfl,rfl,rfl,rfl,rfl,trivial⟩ ⟨rfl,rfl,rfl,rfl,trivial⟩ ?_;rintro⟨i,GG,EK⟩ fA ⟨hi,jd,fE⟩;replace hi:i<=cJ:=hi;replace jd:f.a5+i<=EK:=jd;replace fE:0<EK->∃b,GG=some ⟨b,0,none⟩:=fE;conv=>whnf
 repeat'((first
  |(show gn _ _ _ _ _;first|(refine tv ah i rfl S (fun cu fX b0 gw=>?_)))
  |(show bk _ _ _ _;first|(refine mo av aD W ?_)|(refine hb As W ?_;(conv=>whnf);refine⟨by rfl,fun a0=>?_⟩)|(refine jL As (fy.own As b7 (by intro u aS;simp only[mz,sa,or_false] at aS;rcases aS with rfl|rfl<;>rfl) 1) mw S ?_;intro lY mb Sc R2))
  |refine aaU ?_
  |(refine oQ ?_ ?_<;>(try with_reducible intro ab)<;>(try(exfalso;omega))))<;>(try conv=>whnf))
 ·refine cC (X:=Nat×Option Addr×Nat) (i+1,_,_) (by show cJ-(i+1)<cJ-i;omega) ⟨by show i+1<=cJ;omega,by assumption,by assumption⟩ ⟨rfl,rfl,rfl,rfl,rfl,rfl,rfl,rfl,eD S,trivial⟩ ⟨rfl,rfl,rfl,rfl,trivial⟩ (hC:=by simp only[zy];rw[<-aki S];rfl)
 ·first
  |(refine cd.imp (K:=K) (qW ({f with bW:=bW,bI:=bI,bK:=bK,bD:=bD,b4:=b4,cs:=cs,bq:=GG,a5:=f.a5+i,bZ:=EK,kids:=f.kids++(vs.take i).map fun v=>⟨v,b⟩,many:=IntKind.i64.wrap (f.many+1)}:a3) M) (aJ.sub cn) (V ({f with bW:=bW,bI:=bI,bK:=bK,bD:=bD,b4:=b4,cs:=cs,bq:=GG,a5:=f.a5+i,bZ:=EK,kids:=f.kids++(vs.take i).map fun v=>⟨v,b⟩,many:=IntKind.i64.wrap (f.many+1)}:a3) (arS S S av S S) rfl rfl rfl rfl rfl rfl))
  |(refine cd.drop (K:=K) M cn (O (arT S (by first|(exact .inl S)|(exact .inr (.inl S))|(exact .inr (.inr av))))))
):P:=h
theorem Oo {P:Prop} (h:P:=by
 conv=>whnf
 repeat'((first
  |(show gn _ _ _ _ _;first|(refine tv ah i rfl S (fun cu fX b0 gw=>?_))|(refine Iv aK.kids i rfl S (fun cu fX b0 gw=>?_))|(refine uQ oZ.L7 oZ.gw S S (fun cu dQ=>?_)))
  |(show bk _ _ _ _;first|(refine mo av aD W ?_)|(refine iZ [J f.kids[i].task,J f.kids[i].dst] av aD W W ?_))
  |(show ay _ _ _ _ _ _;first|(refine Lh (fun aL ga=>?_) (fun aL ga=>?_)))
  |(show eB _ _ _ _;first|(refine sU f.kids[i].dst.toNat dQ mw rfl (by show f.kids[i].dst.toNat<loc.length;omega) ?_))
  |refine aaU ?_
  |(refine oQ ?_ ?_<;>(try with_reducible intro ab)<;>(try(exfalso;omega))))<;>(try conv=>whnf))
 ·refine cC (X:=Nat×Bool×List Int) (i+1,false,loc) (by show f.a5-(i+1)<f.a5-i;omega) (cM.adS S) ⟨rfl,rfl,rfl,rfl,rfl,rfl,rfl,rfl,eD S,trivial⟩ ⟨rfl,rfl,rfl,trivial⟩
 ·refine cd.drop (K:=K) M cn (O (arV S (cM.2.2.2 rfl)))
):P:=h
theorem arW {f:a3} {k a b gG hl j1 p3:Int} {gA:Option Addr} {eM gJ:Nat} {hZ:Option Addr} {cJ h4:Nat} {vs:List Int} (aK:i1 H f) (ah:fG H hZ cJ h4 vs)
  (O:mM f k b vs=none->K (.tuple #[.agg f.l.toArray,J 1]) (Y H w0 X M))
  (V:∀g:a3,mM f k b vs=some ⟨g.aO,g.loc,g.kids,g.many⟩->g.task=f.task->g.path=f.path->g.fn=f.fn->g.aA=f.aA->g.aH=f.aH->g.fail=f.fail->K (.tuple #[.agg g.l.toArray,J 0]) (Y H w0 X (qW g M))):
  ay Tryz.prog (Y H w0 X M) 287 #[.agg f.l.toArray,.agg #[J k,J a,J b,J gG,J hl,J j1,J p3,.slice gA eM gJ],.slice hZ cJ h4] K Z:=by
 have awv:=ah.len
 have ox:=ah.dB
 have sA:=aK.kids.len
 have sB:=aK.kids.dB
 have rD:=aK.aO.len
 have Ik:=aK.aO.dB
 refine a7 Tv ?_
 intro az aF
 conv=>whnf
 refine acs aK fun bW bI bK bD b4 cs bq bZ oZ=>?_
 conv=>whnf
 repeat'(first
  |(show ay _ _ _ _ _ _;first|(refine asB ah (fun uN=>?_) (fun uN=>?_)<;>conv=>whnf)|(refine Lh (fun aL ga=>?_) (fun aL ga=>?_)<;>conv=>whnf))
  |(show bk _ _ _ _;first|(refine Cg vs (fy.fk gK ah.rd (by simp;omega) (IB _)) rfl mw S ?_;intro aR aN jd fE;conv=>whnf)|(refine mo av aD W ?_;conv=>whnf)|(refine fv b7 aD W W ?_;conv=>whnf)|(refine ke b7 aD W ?_;conv=>whnf))
  |(show gn _ _ _ _ _;first|(refine tv ah 0 rfl S (fun cu fX b0 gw=>?_);conv=>whnf))
  |(show eS _ _;first|(refine eS.go ?_;conv=>whnf))
  |(show _/\_;first|(refine And.intro ?_ ?_<;>conv=>whnf))
  |(show eB _ _ _ _;first|(refine tV aD mw ?_;conv=>whnf))
  |(refine cd.drop (K:=K) M cn (O (by first|(exfalso;omega)|skip;unfold mM;repeat(first|rfl|refine(if_pos (by first|omega|(intro h;simp_all;done)|(refine⟨?_,?_,?_⟩<;>first|assumption|omega)|(intro h;simp_all;omega)|(simp_all;omega))).trans ?_|refine(if_neg (by first|omega|(intro h;simp_all;done)|(refine⟨?_,?_,?_⟩<;>first|assumption|omega)|(intro h;simp_all;omega)|(simp_all;omega))).trans ?_))))
  |(refine cd.imp (K:=K) (qW ({f with bW:=bW,bI:=bI,bK:=bK,bD:=bD,b4:=aR,ns:=f.ns+cJ,cs:=aN,aO:=f.aO++vs,bq:=bq,bZ:=bZ}:a3) M) (aJ.sub cn) (V ({f with bW:=bW,bI:=bI,bK:=bK,bD:=bD,b4:=aR,ns:=f.ns+cJ,cs:=aN,aO:=f.aO++vs,bq:=bq,bZ:=bZ}:a3) (by first|(exfalso;omega)|skip;unfold mM;repeat(first|rfl|refine(if_pos (by first|omega|(intro h;simp_all;done)|(refine⟨?_,?_,?_⟩<;>first|assumption|omega)|(intro h;simp_all;omega)|(simp_all;omega))).trans ?_|refine(if_neg (by first|omega|(intro h;simp_all;done)|(refine⟨?_,?_,?_⟩<;>first|assumption|omega)|(intro h;simp_all;omega)|(simp_all;omega))).trans ?_)) rfl rfl rfl rfl rfl rfl))
  |(refine cd.imp (K:=K) (qW ({f with bW:=bW,bI:=bI,bK:=bK,bD:=bD,b4:=b4,cs:=cs,bq:=bq,bZ:=bZ}:a3) M) (aJ.sub cn) (V ({f with bW:=bW,bI:=bI,bK:=bK,bD:=bD,b4:=b4,cs:=cs,bq:=bq,bZ:=bZ}:a3) (by first|(exfalso;omega)|skip;unfold mM;repeat(first|rfl|refine(if_pos (by first|omega|(intro h;simp_all;done)|(refine⟨?_,?_,?_⟩<;>first|assumption|omega)|(intro h;simp_all;omega)|(simp_all;omega))).trans ?_|refine(if_neg (by first|omega|(intro h;simp_all;done)|(refine⟨?_,?_,?_⟩<;>first|assumption|omega)|(intro h;simp_all;omega)|(simp_all;omega))).trans ?_)) rfl rfl rfl rfl rfl rfl))
  |(refine hy.go ?_;conv=>whnf)
  |(refine pE.go ?_;conv=>whnf)
  |(refine ba.dec (fun ab=>?_) (fun ab=>?_)<;>first|(exfalso;omega)|(conv=>whnf))
  |(refine ba.v7 (fun ab=>?_) (fun ab=>?_)<;>first|(exfalso;omega)|(conv=>whnf))
  |(refine ba.sk (fun ab=>?_) (fun ab=>?_)<;>first|(exfalso;omega)|(conv=>whnf))
  |(refine ba.sM (fun ab=>?_) (fun ab=>?_)<;>first|(exfalso;omega)|(conv=>whnf))
  |(intro r jN;conv=>whnf))
 ·let sg:Bool:=true
  exact Ja
 ·let sg:Bool:=false
  exact Ja
 ·let sg:Bool:=false
  exact Ja
 ·let sg:Bool:=false
  exact Ja
 ·refine c9.on (X:=Nat×Bool×List Int) (fun x=> [(3,.p 3 0),(6,.p 6 0),(7,.v (J 0)),(8,.p 8 0),(9,.v (.bool x.2.1)),(2,.v (.slice hZ cJ h4)),(97,.v (.slice f.bq f.a5 f.bZ)),(98,.v (J (f.a5:Int))),(99,.v (J (x.1:Int)))]) (fun x=> [(3,108,f.l),(6,108,Ke),(8,108,[J f.task,.slice bW f.np bI,J f.fn,J f.aA,.slice bK f.aM bD,.slice b4 f.ns cs,.slice none 0 0,J f.many,J f.aH,.bool f.fail])]) (fun x=>Y H az aF (zy {f with loc:=x.2.2} bW bI bK bD b4 cs bq bZ M)) (fun x=>jH f vs x.1 x.2.1 x.2.2) (fun x=>f.a5-x.1) (0,true,f.loc) (jH.t0 S av aK.loc.len) ⟨rfl,rfl,rfl,rfl,rfl,rfl,rfl,rfl,rfl,trivial⟩ ⟨rfl,rfl,rfl,trivial⟩ ?_;rintro⟨i,tQ,loc⟩ fA cM;replace cM:jH f vs i tQ loc:=cM;have hi:=cM.1;have qC:=cM.2.1
  cases tQ
  ·exact Oo
  ·have afQ:=(cM.2.2.1 rfl).1.1
   conv=>whnf
   repeat'(first
    |(show gn _ _ _ _ _;first|(refine tv ah i rfl S (fun cu fX b0 gw=>?_);conv=>whnf)|(refine Iv aK.kids i rfl S (fun cu fX b0 gw=>?_);conv=>whnf)|(refine uQ oZ.L7 oZ.gw S S (fun cu dQ=>?_);conv=>whnf))
    |(show bk _ _ _ _;first|(refine mo av aD W ?_;conv=>whnf)|(refine iZ [J f.kids[i].task,J f.kids[i].dst] av aD W W ?_;conv=>whnf)|(refine fv b7 aD W W ?_;conv=>whnf)|(refine ke b7 aD W ?_;conv=>whnf))
    |(show ay _ _ _ _ _ _;first|(refine Lh (fun aL ga=>?_) (fun aL ga=>?_)<;>conv=>whnf))
    |(show eB _ _ _ _;first|(refine sU f.kids[i].dst.toNat dQ mw rfl (by show f.kids[i].dst.toNat<loc.length;omega) ?_;conv=>whnf)|(refine tV aD mw ?_;conv=>whnf))
    |(show eS _ _;first|(refine eS.go ?_;conv=>whnf))
    |(show _/\_;first|(refine And.intro ?_ ?_<;>conv=>whnf))
    |(refine ba.dec (fun ab=>?_) (fun ab=>?_)<;>first|(exfalso;omega)|(conv=>whnf))
    |(refine ba.v7 (fun ab=>?_) (fun ab=>?_)<;>first|(exfalso;omega)|(conv=>whnf)))
   ·refine cC (X:=Nat×Bool×List Int) (i+1,true,loc.set f.kids[i].dst.toNat (vs.getD i 0)) (by show f.a5-(i+1)<f.a5-i;omega) (cM.fl S S av S) ⟨rfl,rfl,rfl,rfl,rfl,rfl,rfl,rfl,eD S,trivial⟩ ⟨rfl,rfl,rfl,trivial⟩
   ·refine cC (X:=Nat×Bool×List Int) (i+1,true,loc) (by show f.a5-(i+1)<f.a5-i;omega) (cM.arQ S S av S) ⟨rfl,rfl,rfl,rfl,rfl,rfl,rfl,rfl,eD S,trivial⟩ ⟨rfl,rfl,rfl,trivial⟩
   ·refine cC (X:=Nat×Bool×List Int) (i+1,false,loc) (by show f.a5-(i+1)<f.a5-i;omega) (cM.ary S S av) ⟨rfl,rfl,rfl,rfl,rfl,rfl,rfl,rfl,eD S,trivial⟩ ⟨rfl,rfl,rfl,trivial⟩
   ·refine cd.imp (K:=K) (qW ({f with bW:=bW,bI:=bI,bK:=bK,bD:=bD,loc:=loc,b4:=b4,cs:=cs,bq:=none,a5:=0,bZ:=0,kids:=[]}:a3) M) ((aJ.sub cn).trans (aJ.nil _ none _ 2)) (V ({f with bW:=bW,bI:=bI,bK:=bK,bD:=bD,loc:=loc,b4:=b4,cs:=cs,bq:=none,a5:=0,bZ:=0,kids:=[]}:a3) (arU S (cM.yL S sA)) rfl rfl rfl rfl rfl rfl)
 ·refine c9.on (X:=Nat×Bool×List Int) (fun x=> [(3,.p 3 0),(6,.p 6 0),(7,.v (J 0)),(8,.p 8 0),(9,.v (.bool x.2.1)),(2,.v (.slice hZ cJ h4)),(97,.v (.slice f.bq f.a5 f.bZ)),(98,.v (J (f.a5:Int))),(99,.v (J (x.1:Int)))]) (fun x=> [(3,108,f.l),(6,108,Ke),(8,108,[J f.task,.slice bW f.np bI,J f.fn,J f.aA,.slice bK f.aM bD,.slice b4 f.ns cs,.slice none 0 0,J f.many,J f.aH,.bool f.fail])]) (fun x=>Y H az aF (zy {f with loc:=x.2.2} bW bI bK bD b4 cs bq bZ M)) (fun x=>jH f vs x.1 x.2.1 x.2.2) (fun x=>f.a5-x.1) (0,false,f.loc) (jH.f0 (by rintro⟨aa,ag⟩;first|omega|(rw[ag] at uN;cases uN)) aK.loc.len) ⟨rfl,rfl,rfl,rfl,rfl,rfl,rfl,rfl,rfl,trivial⟩ ⟨rfl,rfl,rfl,trivial⟩ ?_;rintro⟨i,tQ,loc⟩ fA cM;replace cM:jH f vs i tQ loc:=cM;have hi:=cM.1;have qC:=cM.2.1
  cases tQ
  ·exact Oo
  ·have bU:=(cM.2.2.1 rfl).1.2
   rw[bU] at uN;cases uN
 ·refine c9.on (X:=Nat×Bool×List Int) (fun x=> [(3,.p 3 0),(6,.p 6 0),(7,.v (J 0)),(8,.p 8 0),(9,.v (.bool x.2.1)),(2,.v (.slice hZ cJ h4)),(97,.v (.slice f.bq f.a5 f.bZ)),(98,.v (J (f.a5:Int))),(99,.v (J (x.1:Int)))]) (fun x=> [(3,108,f.l),(6,108,Ke),(8,108,[J f.task,.slice bW f.np bI,J f.fn,J f.aA,.slice bK f.aM bD,.slice b4 f.ns cs,.slice none 0 0,J f.many,J f.aH,.bool f.fail])]) (fun x=>Y H az aF (zy {f with loc:=x.2.2} bW bI bK bD b4 cs bq bZ M)) (fun x=>jH f vs x.1 x.2.1 x.2.2) (fun x=>f.a5-x.1) (0,false,f.loc) (jH.f0 (by rintro⟨aa,ag⟩;first|omega|(rw[ag] at uN;cases uN)) aK.loc.len) ⟨rfl,rfl,rfl,rfl,rfl,rfl,rfl,rfl,rfl,trivial⟩ ⟨rfl,rfl,rfl,trivial⟩ ?_;rintro⟨i,tQ,loc⟩ fA cM;replace cM:jH f vs i tQ loc:=cM;have hi:=cM.1;have qC:=cM.2.1
  cases tQ
  ·exact Oo
  ·have afQ:=(cM.2.2.1 rfl).1.1
   exfalso;omega
end
end Go.Proofs.YtcflcebplhdcpaaGreat
