/- Lemmas, part 44; each states its own conditions. -/
import Derived.Test.YtcflcebplhdcpaaGreatL43
namespace Go.Proofs.YtcflcebplhdcpaaGreat
open Go.RowKit
set_option linter.unusedSimpArgs false
set_option linter.unusedVariables false
set_option maxRecDepth 100000
set_option maxHeartbeats 16000000
variable{H w0:World}{X:Nat->Prop}{M:aw}{K:Value->an->Prop}{Z:bF}
theorem PU {P:Prop} (h:P:=by
 repeat'((first
  |(show ay _ _ _ _ _ _;first|(refine KK h.la (fun v ah=>?_);subst ah)|(refine ao5 (x:=x) (al:=x.al.set w false) (at_:=vy x.m.la w) (L:=L) (b5:=b5) (pm:=pm) h ?_))
  |(show gn _ _ _ _ _;first|(refine iP E3 w rfl (show w<x.m.ev by omega) ?_)|(refine iP lj w rfl (show w<x.m.b6 by omega) ?_))
  |(show bk _ _ _ _;first|(refine jx (xs:=x.cf) w lj (dr _ (dr _ (List.Mem.head _))) (h1 w) (show w<x.cf.length by omega) ?_)|(refine jL vH (fy.own (l:=vI ⟨w,x.cf.getD w 0,⟨0,0,0,0⟩,(0,false)⟩) vH (List.Mem.head _) Ro 1) (.there (.there (.there (.there (.there .here))))) (show x.m.ne+1<=1000000000 by omega) ?_;intro da c7 qz xb;rw[Jo])|(refine hb vH W ?_))
  |(show eB _ _ _ _;first|(refine aqs w E3 (.there (.there (.there (.there (.there (.there .here)))))) (h1 w) (show w<x.al.length by omega) ?_))
  |(show _/\_;first|(refine⟨by rfl,fun a0=>?_⟩))
  |(show ih _ _ _ _;first|(refine A6 (xs:=x.cf) w lj (dr _ (dr _ (List.Mem.head _))) (h1 w) (show w<x.cf.length by omega) ?_))
  |(exact cA (U de L (O.mono S S eC e6) (V.trans (amV av bd)) aa ag fun E a2=>a2))
  |(exact cA (U de cp O (V.trans (amW ab bd)) aa ag a6))
  |(exact cA (U (x.die w da c7) (h.die jW qz) rfl rfl rfl))
  |refine eg ?_
  |(refine eh ?_ ?_)
  |with_reducible intro r)<;>(try conv=>whnf))):P:=h
def mq(xs:List Int)(at_ v:Int):List Int:=if 0<=at_/\at_<xs.length then xs.set at_.toNat v else xs
theorem xO{xs:List Int}{at_ v:Int}:(mq xs at_ v).length=xs.length:=by
 unfold mq
 split
 ·exact nJ ..
 ·rfl
def Li(la:c8)(w:Nat)(x:hG):hG:={x with al:=x.al.set w false,mem:=mq x.mem (vy la w) 0,ao:=x.ao++[⟨w,x.cf.getD w 0,⟨0,0,0,0⟩,(0,false)⟩]}
def m6(c:cr)(la:c8)(n:Nat)(kind a:Int)(x:hG):hG:=
 if kind=1/\wR x.cP x.al x.cf n a then nd c la a.toNat x else if kind=3/\Ba x.cP x.al x.cf n a then Li la a.toNat x else x
def gi.die(x:gi)(w:Nat)(hO:Option Addr)(ce:Nat):gi:=⟨{x.m with hO:=hO,ne:=x.m.ne+1,ce:=ce},x.ct,x.cf,x.al.set w false,mq x.mem (vy x.m.la w) 0,x.ao++[⟨w,x.cf.getD w 0,⟨0,0,0,0⟩,(0,false)⟩],x.bp,x.fs⟩
section
variable{H:World}{L:aw}{n N G w:Nat}{x:gi}
theorem iV.die(h:iV H L n N G x)(jW:x.ao.length+1<=9000){hO:Option Addr}{ce:Nat}(aj:x.m.ne+1<=ce):iV H L n N G (x.die w hO ce):=by
 have af:(x.ao++[(⟨w,x.cf.getD w 0,⟨0,0,0,0⟩,(0,false)⟩:k7)]).length=x.ao.length+1:=by simp
 exact{la:=h.la,i7:=h.i7,code:=h.code,lc:=h.lc,bt:=h.bt,bN:=h.bN,k4:=h.k4,al:=⟨h.al.1,h.al.2.1,h.al.2.2.1,(nJ ..).trans h.al.2.2.2⟩,ct:=fun k y bV=>(h.ct k y bV).up (fun E a2=>a2) (Nat.le_refl _) (Nat.le_refl _) (by show x.ao.length<=(x.ao++[_]).length;omega),rd:=h.rd,fs:=h.fs,bp:=h.bp,a1:=⟨h.a1.1,h.a1.2.1.trans xO.symm,h.a1.2.2.1,h.a1.2.2.2⟩,ao:=⟨by show x.m.ne+1=(x.ao++[_]).length;have:=h.ao.1;omega,aj,by show(x.ao++[_]).length<=9000;omega⟩,N:=h.N,G:=h.G}
end
theorem dc.UX{H E:World}{M:aw}(h:dc H M E){A:Option Addr}{n c:Nat}{t:TypeId}{xs:List Bool}(ad:(Value.slice A n c,aY.row t 1 (xs.map Value.bool))∈M)(ar:n<=1000000):yo E A n c xs:=by
 obtain⟨O,V,aa,ag⟩:=h.row _ _ _ _ _ _ ad
 exact⟨O,by simpa using V.symm,aa,ar⟩
section
variable{H w0:World}{X:Nat->Prop}{M L b5:aw}{K:Value->an->Prop}{Z:bF}{n N G pm w:Nat}{x:gi}
theorem aqs{A:Option Addr}{b m cap:Nat}{xs:List Bool}{off:Nat}{v:Bool}(j:Nat){i:Nat}(ab:A=some ⟨b,0,none⟩)(aS:h8 M i (Value.slice A m cap) (.row 4 1 (xs.map Value.bool)))(aU:off=j)(a9:j<xs.length){K:an->Prop}(h:qc M i (Value.slice A m cap,.row 4 1 ((xs.set j v).map Value.bool)) fun aE=>K (Y H w0 X aE)):eB Tryz.prog (Y H w0 X M) (Instr.storeAt 4 (.pointer (some ⟨b,off,none⟩)) (.bool v)) K:=by
 subst ab aU
 exact Gf aD ((xs.set off v).map Value.bool) aS W (by simp[Value.cells];omega) (by simp[Value.cells]) W (by
  rw[show(Value.bool v).cells.toList=[Value.bool v] from rfl,xM,xN,List.map_set]) h
theorem A6{A:Option Addr}{b m cap:Nat}{xs:List Int}{off:Nat}(j:Nat)(ab:A=some ⟨b,0,none⟩)(ad:(Value.slice A m cap,aY.row 3 1 (is xs))∈M)(aU:off=j)(a9:j<xs.length){K:Value->Prop}(h:K (J (xs.getD j 0))):ud H w0 X M (Instr.loadAt 3 (.pointer (some ⟨b,off,none⟩))) K:=by
 subst ab aU
 exact TX ad aD W (Fq off a9) h
theorem ao5(h:iV H L n N G x){at_:Int}{al:List Bool}(U:K (.tuple #[]) (Y H w0 X (g9 {x with al:=al,mem:=mq x.mem at_ 0} pm L b5))):a4 H w0 X (g9 {x with al:=al} pm L b5) 87 #[.slice x.m.gT x.m.dO x.m.gP,J at_,J 0] K Z:=
 ay.post (ay.imp (aJ.perm (vo (l₁:=ag x.m (x.ct.map eP.s) x.cf x.bp pm))) (Vp h.a1.1 h.a1.2.1 h.a1.2.2.1 h.a1.2.2.2 ⟨_,_,rfl,aJ.perm (vo (l₁:=ag x.m (x.ct.map eP.s) x.cf x.bp pm)).symm,by
  have e:(if 0<=at_/\at_<x.m.dO then x.mem.set at_.toNat 0 else x.mem)=mq x.mem at_ 0:=by unfold mq;rw[<-h.a1.2.1]
  rw[e]
  exact U⟩))
theorem ac7(h:iV H L n N G x)(au:w<n)(jW:x.ao.length+1<=9000)(U:∀de,iV H L n N G de->de.c=Li x.m.la w x.c->de.m.c=x.m.c->de.m.la=x.m.la->K (.tuple #[]) (Y H w0 X (g9 de pm L b5))):
  a4 H w0 X (g9 x pm L b5) 62 #[ae pm,J (w:Int)] K Z:=by
 refine a7 asI ?_
 intro az aF
 obtain⟨⟨df,E3⟩,Ia,kU,so⟩:=h.al
 obtain⟨⟨sh,lj⟩,lK,HO,hU⟩:=h.bN
 have kq:=h.a1
 have H8:=h.ao
 conv=>whnf
 exact PU
theorem amW{c:cr}{la:c8}{kind:Int}{v:Nat}{y:hG}(ab:kind=1)(bd:wR y.cP y.al y.cf n (v:Int)):nd c la v y=m6 c la n kind v y:=by
 unfold m6
 rw[if_pos ⟨ab,bd⟩,r8]
theorem amV{c:cr}{la:c8}{kind:Int}{v:Nat}{y:hG}(ab:kind=3)(bd:Ba y.cP y.al y.cf n (v:Int)):Li la v y=m6 c la n kind v y:=by
 unfold m6
 rw[if_neg (fun h=>by omega),if_pos ⟨ab,bd⟩,r8]
theorem Ov{c:cr}{la:c8}{kind a:Int}{y:hG}(O:¬(kind=1/\wR y.cP y.al y.cf n a))(V:¬(kind=3/\Ba y.cP y.al y.cf n a)):y=m6 c la n kind a y:=by
 unfold m6
 rw[if_neg O,if_neg V]
theorem amX{kind a b:Int}(h:iV H L n N G x)(jW:x.ao.length+1<=9000)(eC:N+3<=80000)(e6:G+7<=180000)(U:∀de cp,iV H cp n (N+3) (G+7) de->de.c=m6 x.m.c x.m.la n kind a x.c->de.m.c=x.m.c->de.m.la=x.m.la->(∀E,dc H cp E->dc H L E)->K (.tuple #[]) (Y H w0 X (g9 de pm cp b5))):
  a4 H w0 X (g9 x pm L b5) 18 #[ae pm,.agg #[J kind,J a,J b]] K Z:=by
 refine a7 asG ?_
 intro az aF
 obtain⟨⟨df,E3⟩,Ia,kU,so⟩:=h.al
 obtain⟨⟨sh,lj⟩,lK,HO,hU⟩:=h.bN
 have kq:=h.a1
 have H8:=h.ao
 have uJ:=h.bt.2.1
 have If:∀E,dc H (g9 x pm L b5) E->yo E x.m.ed x.m.ev x.m.bp x.al/\fG E x.m.eU x.m.b6 x.m.ci x.cf:=fun E a2=>⟨a2.UX (t:=4) b7 (by have:=h.la.bt;have:=h.i7;omega),a2.kg (t:=3) b7 (by have:=h.la.bt;have:=h.i7;omega)⟩
 have xh:wR x.m.cP x.al x.cf n a->∃w:Nat,a=(w:Int)/\w<n:=fun bd=>⟨a.toNat,by have:=bd.2.1;omega,by have:=bd.2.1;have:=bd.2.2.1;omega⟩
 conv=>whnf
 repeat'((first
  |(show eS _ _;first|(refine eS.go ?_))
  |(show ay _ _ _ _ _ _;first|(refine ay.anchor [] _ Vu.dg rfl (fun E w fV a2=>QH (m:=x.m) (If E a2).1 (If E a2).2 (fun bd=>hR.go (aE:=[]) ?_) (fun bd=>hR.go (aE:=[]) ?_)))|(refine ay.anchor [] _ Vv.dg rfl (fun E w fV a2=>alr (m:=x.m) (If E a2).1 (If E a2).2 (fun bd=>hR.go (aE:=[]) ?_) (fun bd=>hR.go (aE:=[]) ?_))))
  |(show bk _ _ _ _;first|(refine uS ?_)|(refine IM ?_))
  |(show _/\_;first|(refine⟨by rfl,fun a0=>?_⟩)|(refine And.intro ?_ ?_))
  |(show ih _ _ _ _;first|(refine IS ?_)|(refine NM ?_)|(refine A6 (xs:=x.cf) w lj (dr _ (dr _ (List.Mem.head _))) (h1 w) (show w<x.cf.length by omega) ?_))
  |(show gN _ _ _;first|(refine gN.mk (ie.refl _) ?_))
  |(refine hy.go ?_)
  |(refine pE.go ?_)
  |(refine ba.sk (fun ab=>?_) (fun ab=>?_)<;>try(exfalso;omega))
  |(intro r jN))<;>(try conv=>whnf))
 ·rw[uJ] at bd
  obtain⟨v,rfl,ah⟩:=xh bd
  refine V0 h ah jW eC e6 (fun de cp O V aa ag a6=>?_)
  conv=>whnf
  exact PU
 ·rw[uJ] at bd
  exact cA (U x L (h.mono S S eC e6) (Ov (fun h=>bd h.2) (fun h=>by omega)) rfl rfl fun E a2=>a2)
 ·rw[uJ] at bd
  obtain⟨v,rfl,ah⟩:=xh bd.1
  refine ac7 h ah jW (fun de O V aa ag=>?_)
  conv=>whnf
  exact PU
 ·rw[uJ] at bd
  exact cA (U x L (h.mono S S eC e6) (Ov (fun h=>by omega) (fun h=>bd h.2)) rfl rfl fun E a2=>a2)
 ·exact cA (U x L (h.mono S S eC e6) (Ov (fun h=>by omega) (fun h=>by omega)) rfl rfl fun E a2=>a2)
end
structure yp(w:World)(A:Option Addr)(n c sz:Nat)(l:List Value):Prop where
 rd:dU w w.heap.size A l
 len:l.length=n*sz
 cap:n<=c
 dB:n<=1000000
 one:∀u∈l,u.oneCell'=true
theorem yp.nil{w:World}{n c sz:Nat}{l:List Value}(h:yp w none n c (sz+1) l):n=0/\l=[]:=by
 have e:l=[]:=by
  rcases h.rd with e|⟨b,off,e,_⟩
  ·exact e
  ·cases e
 have:=h.len
 rw[e,pz,Nat.mul_succ] at this
 exact⟨by omega,e⟩
section
theorem aln {P:Program} {t e:TypeId} {sz:Nat} {dG:List Value} (a2:iF P t e sz dG) {iY hV:IntKind} {c:Int} (n:Nat) (aj:c=(n:Int)) (U:n<=1000000000) {K:Value->an->Prop}
  (h:∀b,K (.slice (some ⟨b,0,none⟩) 0 n) (Y H w0 X ((.slice (some ⟨b,0,none⟩) 0 n,.row e sz [])::M))):bk P (Y H w0 X M) (Instr.makeSlice t (.int iY 0) (.int hV c)) K:=by
 subst aj
 obtain⟨i,z,hi,b3,nw,xj,uP⟩:=a2.parts
 constructor
 intro w au
 have ab:(i.bytes:Int)*(n:Int)<=281474976710656:=by
  have O:(i.bytes:Int)<=4096:=by omega
  have V:(i.bytes:Int)*(n:Int)<=4096*(n:Int):=Kq O S
  omega
 have fI:=run_make (P:=P) w t e i z a2.eN hi b3 iY hV 0 n (my _) S ab S
 have Ml:madeCells z.cells ((n:Int).toNat*i.size)=(List.replicate n dG).flatten.toArray:=by
  have ai:=a2.len
  have bh:=a2.pos
  have key:∀n:Nat,(List.range (n*sz)).map (fun x=>dG[x%sz]!)=(List.replicate n dG).flatten:=by
   intro n
   apply List.ext_getElem?
   intro j
   induction n generalizing j with
   |zero=>simp
   |succ n cy=>
    rw[Ei,List.flatten_cons,List.getElem?_append,ai]
    by_cases a9:j<sz
    ·rw[if_pos a9,oc,Eg (by rw[kA];omega)]
     simp only[sb,Em a9]
     rw[List.getElem?_eq_getElem S,getElem!_pos _ _ S]
    ·rw[if_neg a9,<-cy]
     by_cases o5:j<(n+1)*sz
     ·rw[oc,oc,Eg o5,Eg (by rw[kA] at o5;omega)]
      simp only[sb]
      congr 2
      rw[Nat.mod_eq_sub_mod S]
     ·rw[List.getElem?_eq_none (by simpa using o5),List.getElem?_eq_none (by rw[kA] at o5;simp;omega)]
  apply oH
  rw[<-key]
  simp[madeCells,uP,nw,ai]
 rw[Ml] at fI
 obtain⟨aa,ag⟩:=N1 au e sz n (List.replicate n dG).flatten (by simp[a2.len]) (by simp only[maxLen];omega)
 have hi:=aJ.shrink (M:=(Value.slice (some ⟨w.heap.size,0,none⟩) n n,aY.row e sz (List.replicate n dG).flatten)::M) h8.here 0 (cY _)
 simp only[DF,ym,List.take_zero] at hi
 refine⟨_,_,_,fI,⟨aa.size,aa.block,fun k U=>?_⟩,hi.on _ _ _ _ ag,h _⟩
 rcases U with U|U|U
 ·exact aa.new k (.inl U)
 ·exact aa.new k (.inr (.inl U))
 ·exact aa.new k (.inr (.inr (hi.keys k U)))
theorem acw{A:Option Addr}{n c:Nat}{l:List Value}(h:yp H A n c 19 l)(U:∀aR aN,n<=aN->(0<aN->∃b,aR=some ⟨b,0,none⟩)->K (.slice aR n aN) (Y H w0 X ((.slice aR n aN,.row 78 19 l)::M))):a4 H w0 X M 52 #[.slice A n c] K Z:=by
 refine a7 ajX ?_
 intro az aF
 conv=>whnf
 refine F7 At.eN ?_
 cases A with
 |none=>
  conv=>whnf
  obtain⟨rfl,rfl⟩:=h.nil
  exact cd.imp (K:=K) _ (aJ.nil M none 78 19) (U none 0 (Nat.le_refl _) (fun h=>absurd h S))
 |some a=>
  conv=>whnf
  refine hb At W ?_
  conv=>whnf
  refine⟨by rfl,fun a0=>?_⟩
  conv=>whnf
  refine EB At (fy.fk At h.rd h.len h.one) (by have:=h.dB;omega) ?_
  intro aR aN jd fE
  conv=>whnf
  exact cd.drop (K:=K) _ (s5 _ (yf _ (List.Sublist.refl _))) (U aR aN jd fE)
theorem acu{A:Option Addr}{n c:Nat}{l:List Value}(h:yp H A n c 1 l)(U:∀aR aN,n<=aN->(0<aN->∃b,aR=some ⟨b,0,none⟩)->K (.slice aR n aN) (Y H w0 X ((.slice aR n aN,.row 4 1 l)::M))):a4 H w0 X M 55 #[.slice A n c] K Z:=by
 refine a7 aj0 ?_
 intro az aF
 conv=>whnf
 refine F7 Au.eN ?_
 cases A with
 |none=>
  conv=>whnf
  obtain⟨rfl,rfl⟩:=h.nil
  exact cd.imp (K:=K) _ (aJ.nil M none 4 1) (U none 0 (Nat.le_refl _) (fun h=>absurd h S))
 |some a=>
  conv=>whnf
  refine hb Au W ?_
  conv=>whnf
  refine⟨by rfl,fun a0=>?_⟩
  conv=>whnf
  refine EB Au (fy.fk Au h.rd h.len h.one) (by have:=h.dB;omega) ?_
  intro aR aN jd fE
  conv=>whnf
  exact cd.drop (K:=K) _ (s5 _ (yf _ (List.Sublist.refl _))) (U aR aN jd fE)
theorem acq{A:Option Addr}{n c:Nat}(h:n<=c)(U:K (.slice A n n) (Y H w0 X M)):a4 H w0 X M 53 #[.slice A n c] K Z:=by
 refine a7 ajY ?_
 intro az aF
 conv=>whnf
 refine FO Cq W W W W h ?_
 conv=>whnf
 exact cA U
theorem acp{A:Option Addr}{n c:Nat}(h:n<=c)(U:K (.slice A n n) (Y H w0 X M)):a4 H w0 X M 54 #[.slice A n c] K Z:=by
 refine a7 ajZ ?_
 intro az aF
 conv=>whnf
 refine FO gK W W W W h ?_
 conv=>whnf
 exact cA U
theorem Q9{A:Option Addr}{n c:Nat}(h:n<=c)(U:K (.slice A n n) (Y H w0 X M)):a4 H w0 X M 56 #[.slice A n c] K Z:=by
 refine a7 aj1 ?_
 intro az aF
 conv=>whnf
 refine FO Ho W W W W h ?_
 conv=>whnf
 exact cA U
theorem aco{A:Option Addr}{n c:Nat}(h:n<=c)(U:K (.slice A n n) (Y H w0 X M)):a4 H w0 X M 58 #[.slice A n c] K Z:=by
 refine a7 aj2 ?_
 intro az aF
 conv=>whnf
 refine FO vH W W W W h ?_
 conv=>whnf
 exact cA U
end
def uz(s:cm):cm:={s with bD:=s.aM,cs:=s.ns}
def qt(cE:List cm)(i:Nat):List cm:=(cE.take i).map uz++cE.drop i
theorem Q5{cE:List cm}{i:Nat}:(qt cE i).length=cE.length:=by
 simp only[qt,gC,kz,r9,yh]
 omega
theorem Q4{cE:List cm}{i:Nat}(h:i<cE.length):(qt cE i)[i]'(by rw[Q5];exact h)=cE[i]:=by
 simp only[qt]
 rw[List.getElem_append_right (by simp only[kz,r9];omega)]
 simp[z4 (Nat.le_of_lt h)]
theorem ace{cE:List cm}{i:Nat}(h:i<cE.length):(qt cE i).set i (uz cE[i])=qt cE (i+1):=by
 simp only[qt]
 rw[List.set_append_right _ _ (by simp only[kz,r9];omega)]
 rw[List.take_add_one,List.getElem?_eq_getElem h,Option.toList_some,zZ,ob]
 congr 1
 rw[show i-(List.map uz (cE.take i)).length=0 by simp only[kz,r9];omega]
 rw[Ee h]
 rfl
theorem acd{cE:List cm}{n:Nat}(h:n=cE.length):qt cE n=cE.map uz:=by
 subst h
 simp[qt]
theorem ad4{ck:Type}(fZ:ck->List Value)(k:Nat)(U:∀a,(fZ a).length=k)(l:List ck)(i j:Nat)(h:i<l.length)(a9:j<k):(l.flatMap fZ)[i*k+j]?=(fZ l[i])[j]?:=by
 have e:=uF fZ k U l i h
 rw[<-e,py,if_pos a9,qo]
theorem RA{ck:Type}(fZ:ck->List Value)(k:Nat)(U:∀a,(fZ a).length=k):∀(l:List ck) (i j:Nat) (v:Value) (s:ck) (h:i<l.length),j<k->fZ s=(fZ l[i]).set j v->(l.flatMap fZ).set (i*k+j) v=(l.set i s).flatMap fZ
 |[],i,j,v,s,h,_,_=>absurd h (En _)
 |a::l,0,j,v,s,h,a9,af=>by
  simp only[qn,Ej,ym,vq]
  rw[List.set_append_left _ _ (by rw[U];exact a9),af]
  rfl
 |a::l,i+1,j,v,s,h,a9,af=>by
  simp only[qn,List.set_cons_succ]
  rw[List.set_append_right _ _ (by rw[U,z5];omega),U]
  rw[show(i+1)*k+j-k=i*k+j by rw[z5];omega]
  rw[RA fZ k U l i j v s (by simpa using h) a9 (by simpa using af)]
section
theorem TY{A:Option Addr}{b m cap i:Nat}(j:Nat){cE:List cm}{off:Nat}{v:Value}(b0:A=some ⟨b,0,none⟩)(ad:(Value.slice A m cap,aY.row 78 19 (cE.flatMap cm.l))∈M)(hi:i<cE.length)(aU:off=i*19+j)(a9:j<19){t:TypeId}{c2:c5}(bs:e7 Tryz.prog t c2)(dX:c2.d.agg=false)(ah:(cm.l cE[i])[j]?=some v){K:Value->Prop}(h:K v):ud H w0 X M (Instr.loadAt t (.pointer (some ⟨b,off,none⟩))) K:=by
 subst b0 aU
 exact TX ad bs dX (by rw[ad4 cm.l 19 (fun _=>rfl) cE i j hi a9];exact ah) h
theorem WE{A:Option Addr}{b m cap i q:Nat}(j:Nat){cE:List cm}{off:Nat}{br:Option Addr}{dI bz:Nat}(s:cm)(b0:A=some ⟨b,0,none⟩)(aS:h8 M q (Value.slice A m cap) (.row 78 19 (cE.flatMap cm.l)))(hi:i<cE.length)(aU:off=i*19+j)(a9:j<19){t:TypeId}{c2:c5}(bs:e7 Tryz.prog t c2)(b3:c2.size=1)(af:cm.l s=(cm.l cE[i]).set j (.slice br dI bz)){K:an->Prop}(h:qc M q (Value.slice A m cap,.row 78 19 ((cE.set i s).flatMap cm.l)) fun aE=>K (Y H w0 X aE)):eB Tryz.prog (Y H w0 X M) (Instr.storeAt t (.pointer (some ⟨b,off,none⟩)) (.slice br dI bz)) K:=by
 subst b0 aU
 have e:(Value.slice br dI bz).cells.toList=[Value.slice br dI bz]:=rfl
 refine Gf bs ((cE.set i s).flatMap cm.l) aS (by rw[e,b3];rfl) ?_ (by rw[e];exact Nat.zero_lt_one) W ?_ h
 ·rw[e,tj cm.l 19 (fun _=>rfl)]
  show i*19+j+1<=cE.length*19
  have:(i+1)*19<=cE.length*19:=pC _ hi
  omega
 ·rw[e,xM,xN]
  exact RA cm.l 19 (fun _=>rfl) cE i j _ s hi a9 af
end
theorem XF {P:Prop} (h:P:=by
 repeat'((first
  |(show gn _ _ _ _ _;first|(refine iP iz i rfl pT ?_))
  |(show ih _ _ _ _;first|(refine TY 15 iz (List.Mem.head _) (show i<(qt cE i).length by omega) rfl bC aD W (v:= .slice cE[i].bK cE[i].aM cE[i].bD) (by rw[Q4 hU];rfl) ?_)|(refine TY 16 iz (List.Mem.head _) (show i<((qt cE i).set i ({cE[i] with bD:=cE[i].aM}:cm)).length by rw[nJ];omega) rfl bC aD W (v:= .slice cE[i].b4 cE[i].ns cE[i].cs) (by rw[List.getElem_set_self];rfl) ?_))
  |(show eB _ _ _ _;first|(refine WE 15 ({cE[i] with bD:=cE[i].aM}:cm) iz h8.here (show i<(qt cE i).length by omega) rfl bC aD W (by rw[Q4 hU];rfl) ?_)|(refine WE 16 (uz cE[i]) iz h8.here (show i<((qt cE i).set i ({cE[i] with bD:=cE[i].aM}:cm)).length by rw[nJ];omega) rfl bC aD W (by rw[List.getElem_set_self];rfl) ?_;rw[B5,ace hU]))
  |(show _/\_;first|(refine⟨by rfl,fun a0=>?_⟩))
  |(show gN _ _ _;first|(refine gN.mk (ie.imp (aJ.sub (yk _ _))) ?_))
  |(show bk _ _ _ _;first|(refine h2 _ rfl ?_;intro pm)|(refine hT aD _ rfl ?_;intro dv)|(refine aln vH 1 (by rw[af];rfl) bC (fun auR=>?_))|(refine QR vH (by rw[af];exact fy.zero vH m.hO m.ce) h8.here bC ?_;intro gS gW a6 Ax))
  |(show ay _ _ _ _ _ _;first|(refine acq SW.1 ?_)|(refine acp SW.2 ?_)|(refine yG hi (fun da c7 aa kT=>?_))|(refine acu a8 (fun eJ fa ag lI=>?_))|(refine Q9 aj ?_))
  |(show ff _ _ _ _ _;first|(refine kZ W ?_))
  |(exact cd.imp (K:=K) ((ae pm,aY.cs 85 (hz.l ({m with gT:=br,gP:=bz,gm:=bf,hj:=bA,eU:=da,ci:=c7,ed:=eJ,bp:=fa,hO:=gS,ne:=0,ce:=gW,dD:=m.bB}:hz)))::(Value.slice bf m.ec bA,aY.row 78 19 ((cE.map uz).flatMap cm.l))::(Value.slice da m.b6 c7,aY.row 3 1 (is cf))::(Value.slice br m.dO bz,aY.row 3 1 (is mem))::(Value.slice gS 0 gW,aY.row 138 8 [])::(Value.slice eJ m.ev fa,aY.row 4 1 (al.map Value.bool))::(ae dv,aY.cs 80 [ae pm])::M) aJ.auto (U pm dv br bz bf bA da c7 eJ fa gS gW ⟨O,gX⟩ ⟨V,gr⟩ ⟨aa,kT⟩ ⟨ag,lI⟩))
  |(exact cC (X:=Nat) (i+1) (show m.ec-(i+1)<m.ec-i by omega) (show i+1<=m.ec by omega) ⟨rfl,rfl,rfl,eD (by have:=ar.dB;omega),trivial⟩ ⟨rfl,trivial⟩)
  |refine eg ?_
  |(refine eh ?_ ?_)
  |with_reducible intro r)<;>(try conv=>whnf))):P:=h
section
abbrev Oh(dv:Nat):Value:= .func (.func 57) #[] #[ae dv]
theorem amD {m:hz} {mem cf:List Int} {al:List Bool} {cE:List cm} (ad:fG H m.gT m.dO m.gP mem) (ar:yp H m.gm m.ec m.hj 19 (cE.flatMap cm.l)) (C6:m.ec=cE.length) (b3:∀s∈cE,s.aM<=s.bD/\s.ns<=s.cs) (hi:fG H m.eU m.b6 m.ci cf) (a8:yp H m.ed m.ev m.bp 1 (al.map Value.bool)) (af:m.ne=0) (aj:m.bB<=m.dD)
  (U:∀pm dv br bz bf bA da c7 eJ fa gS gW,(m.dO<=bz/\(0<bz->∃b,br=some ⟨b,0,none⟩))->(m.ec<=bA/\(0<bA->∃b,bf=some ⟨b,0,none⟩))->(m.b6<=c7/\(0<c7->∃b,da=some ⟨b,0,none⟩))->(m.ev<=fa/\(0<fa->∃b,eJ=some ⟨b,0,none⟩))->K (.tuple #[ae pm,Oh dv]) (Y H w0 X ((ae pm,aY.cs 85 (hz.l ({m with gT:=br,gP:=bz,gm:=bf,hj:=bA,eU:=da,ci:=c7,ed:=eJ,bp:=fa,hO:=gS,ne:=0,ce:=gW,dD:=m.bB}:hz)))::(Value.slice bf m.ec bA,aY.row 78 19 ((cE.map uz).flatMap cm.l))::(Value.slice da m.b6 c7,aY.row 3 1 (is cf))::(Value.slice br m.dO bz,aY.row 3 1 (is mem))::(Value.slice gS 0 gW,aY.row 138 8 [])::(Value.slice eJ m.ev fa,aY.row 4 1 (al.map Value.bool))::(ae dv,aY.cs 80 [ae pm])::M))):
  a4 H w0 X M 15 #[.agg m.l.toArray] K Z:=by
 refine a7 XK ?_
 intro az aF
 conv=>whnf
 repeat'((first
  |(show eS _ _;first|(refine eS.go ?_))
  |(show _/\_;first|(refine⟨by rfl,fun a0=>?_⟩)|(refine And.intro ?_ ?_))
  |(show ih _ _ _ _;first|(refine IS ?_)|(refine NM ?_))
  |(show gN _ _ _;first|(refine gN.mk (ie.refl _) ?_)|(refine gN.mk (ie.imp (aJ.sub (yk _ _))) ?_))
  |(show bk _ _ _ _;first|(refine uS ?_)|(refine IM ?_)|((refine h2 _ rfl ?_;intro pm))|((refine hT aD _ rfl ?_;intro dv)))
  |(show eB _ _ _ _;first|(refine st ?_))
  |(show ay _ _ _ _ _ _;first|(refine yG ad (fun br bz O gX=>?_))|(refine acw ar (fun bf bA V gr=>?_)))
  |(refine hy.go ?_)
  |(refine pE.go ?_)
  |(intro r jN))<;>(try conv=>whnf))
 refine c9.on (X:=Nat) (fun i=> [(1,.p 1 0),(4,.v (ae dv)),(30,.v (J (m.ec:Int))),(31,.v (J (i:Int)))]) (fun _=> [(1,49,m.l)]) (fun i=>Y H az aF ((Value.slice bf m.ec bA,aY.row 78 19 ((qt cE i).flatMap cm.l))::(Value.slice br m.dO bz,aY.row 3 1 (is mem))::(ae dv,aY.cs 80 [ae pm])::(ae pm,aY.cs 85 (hz.l ({m with gT:=br,gP:=bz,gm:=bf,hj:=bA}:hz)))::M)) (fun i=>i<=m.ec) (fun i=>m.ec-i) 0 (cY _) ⟨rfl,rfl,rfl,rfl,trivial⟩ ⟨rfl,trivial⟩ ?_
 intro i iC o4
 conv=>whnf
 refine ba.dec (fun cc=>?_) (fun cc=>?_)
 ·have pT:i<m.ec:=by omega
  obtain⟨jt,iz⟩:=gr S
  have hU:i<cE.length:=by omega
  have gw:(qt cE i).length=cE.length:=Q5
  have SW:=b3 _ (fM hU)
  conv=>whnf
  exact XF
 ·rw[acd (show i=cE.length by omega)]
  conv=>whnf
  exact XF
end
structure e5 where
 kind:Int
 a:Int
 b:Int
def iv(p:e5):List Value:=[J p.kind,J p.a,J p.b]
def i9(n:Int)(p:e5):Bool:=decide (0<=p.a/\p.a<n)&&(decide (p.kind=2)&&decide (0<=p.b/\p.b<=1048576)||(decide (p.kind=1)||decide (p.kind=3))&&decide (p.b=0))
structure oe where
 gz:List (Int×Int)
 dead:List Int
 at_:Nat
 out:List e5
def g7(m:List (Int×Int))(a:Int):Option Int:=match m with
 |[]=>none
 |e::m=>if a=e.1 then some e.2 else g7 m a
def ve(m:List (Int×Int))(a v:Int):List (Int×Int):=match m with
 |[]=> [(a,v)]
 |e::m=>if a=e.1 then(a,v)::m else e::ve m a v
def k2(n:Int)(s:oe)(p:e5):oe:=
 if p.kind=1 then
  {s with at_:=s.at_+1,out:=if p.a∉s.dead/\¬((g7 s.gz p.a).isSome/\(s.at_:Int)<=(g7 s.gz p.a).getD 0) then s.out++[p] else s.out}
 else if p.kind=2 then
  {s with at_:=s.at_+1,gz:=if(g7 s.gz p.a).isNone\/(g7 s.gz p.a).getD 0<(s.at_:Int)+p.b then ve s.gz p.a ((s.at_:Int)+p.b) else s.gz}
 else if p.a∉s.dead/\1<n-s.dead.length then{s with at_:=s.at_+1,dead:=s.dead++[p.a],out:=s.out++[p]}
 else{s with at_:=s.at_+1}
def FT:oe:=⟨[],[],0,[]⟩
def qR(n:Int)(l:List e5):oe:=(l.filter (i9 n)).foldl (k2 n) FT
def qe(all:List e5)(k:Nat)(a:Int):Bool:=(List.range k).any fun i=>match all[i]? with
 |some q=>decide (q.kind=2/\q.a=a/\(k:Int)-i<=q.b)
 |none=>false
def lh(out:List e5)(a:Int):Bool:=out.any fun q=>decide (q.kind=3/\q.a=a)
def nQ(out:List e5):Nat:=(out.filter fun q=>decide (q.kind=3)).length
def qG(n:Int)(all:List e5)(k:Nat)(p:e5)(out:List e5):Bool:=!(lh out p.a||decide (p.kind=2))&&(decide (p.kind=1)&&!qe all k p.a||decide (p.kind=3)&&decide ((nQ out:Int)+1<n))
def cL(n:Int)(all:List e5):Nat->List e5
 |0=> []
 |k+1=>match all[k]? with
  |some p=>if qG n all k p (cL n all k)=true then cL n all k++[p] else cL n all k
  |none=>cL n all k
def qQ(n:Int)(l:List e5):List e5:=cL n (l.filter (i9 n)) (l.filter (i9 n)).length
section
variable{n:Int}{all:List e5}
theorem NL{m:List (Int×Int)}{a v b:Int}:g7 (ve m a v) b=if b=a then some v else g7 m b:=by
 induction m with
 |nil=>simp only[ve,g7]
 |cons e m cy=>
  simp only[ve]
  split
  ·rename_i h
   simp only[g7]
   split
   ·rfl
   ·rename_i V;rw[if_neg (by rw[<-h];exact V)]
  ·rename_i h
   simp only[g7,cy]
   split
   ·rename_i V;rw[if_neg (by rw[V];exact fun e=>h e.symm)]
   ·rfl
theorem axD{k:Nat}{a:Int}:qe all (k+1) a=true↔(∃i q,i<k+1/\all[i]?=some q/\q.kind=2/\q.a=a/\(k:Int)+1-i<=q.b):=by
 simp only[qe,B0,List.mem_range]
 constructor
 ·rintro⟨i,hi,h⟩
  split at h
  ·rename_i q bd
   have:=of_decide_eq_true h
   exact⟨i,q,hi,bd,this.1,this.2.1,by have:=this.2.2;omega⟩
  ·cases h
 ·rintro⟨i,q,hi,bd,O,V,aa⟩
  refine⟨i,hi,?_⟩
  rw[bd]
  exact decide_eq_true ⟨O,V,by omega⟩
theorem JG{k:Nat}{a:Int}:qe all k a=true↔(∃i q,i<k/\all[i]?=some q/\q.kind=2/\q.a=a/\(k:Int)-i<=q.b):=by
 simp only[qe,B0,List.mem_range]
 constructor
 ·rintro⟨i,hi,h⟩
  split at h
  ·rename_i q bd
   have:=of_decide_eq_true h
   exact⟨i,q,hi,bd,this.1,this.2.1,this.2.2⟩
  ·cases h
 ·rintro⟨i,q,hi,bd,O,V,aa⟩
  refine⟨i,hi,?_⟩
  rw[bd]
  exact decide_eq_true ⟨O,V,aa⟩
theorem acV{out:List e5}{a:Int}:lh out a=true↔∃q∈out,q.kind=3/\q.a=a:=by
 simp only[lh,B0,decide_eq_true_eq]
structure Kx(n:Int)(all:List e5)(k:Nat)(s:oe):Prop where
 at_:s.at_=k
 out:s.out=cL n all k
 dead:∀a,a∈s.dead↔lh s.out a=true
 len:s.dead.length=nQ s.out
 up:∀a e,g7 s.gz a=some e->∃i q,i<k/\all[i]?=some q/\q.kind=2/\q.a=a/\(i:Int)+q.b=e
 lo:∀i q,i<k->all[i]?=some q->q.kind=2->∃e,g7 s.gz q.a=some e/\(i:Int)+q.b<=e
theorem Lf{out:List e5}{p:e5}{a:Int}:lh (out++[p]) a=(lh out a||decide (p.kind=3/\p.a=a)):=by simp[lh]
theorem Lo{out:List e5}{p:e5}:nQ (out++[p])=nQ out+if p.kind=3 then 1 else 0:=by
 simp only[nQ,List.filter_append,gC,List.filter_cons,List.filter_nil]
 by_cases h:p.kind=3<;>simp[h]
theorem am7{k:Nat}{s:oe}{p:e5}(h:Kx n all k s)(bh:all[k]?=some p)(aP:i9 n p=true):Kx n all (k+1) (k2 n s p):=by
 have H3:p.kind=1\/p.kind=2\/p.kind=3:=by
  simp only[i9,e3,r4,decide_eq_true_eq] at aP
  omega
 have sB:cL n all (k+1)=if qG n all k p (cL n all k)=true then cL n all k++[p] else cL n all k:=by rw[cL,bh]
 have gg:qe all k p.a=true↔((g7 s.gz p.a).isSome/\(s.at_:Int)<=(g7 s.gz p.a).getD 0):=by
  rw[JG,h.at_]
  constructor
  ·rintro⟨i,q,hi,bd,O,V,aa⟩
   obtain⟨e,af,m3⟩:=h.lo i q hi bd O
   rw[V] at af
   rw[af]
   exact⟨rfl,by show(k:Int)<=e;omega⟩
  ·rintro⟨O,V⟩
   cases e:g7 s.gz p.a with
   |none=>rw[e] at O;cases O
   |some v=>
    rw[e] at V
    obtain⟨i,q,hi,bd,aa,ag,a6⟩:=h.up _ _ e
    have V:(k:Int)<=v:=V
    exact⟨i,q,hi,bd,aa,ag,by omega⟩
 have q3:∀a e,g7 s.gz a=some e->∃i q,i<k+1/\all[i]?=some q/\q.kind=2/\q.a=a/\(i:Int)+q.b=e:=fun a e af=>by
  obtain⟨i,q,hi,O⟩:=h.up a e af
  exact⟨i,q,by omega,O⟩
 have NO:p.kind≠2->∀i q,i<k+1->all[i]?=some q->q.kind=2->∃e,g7 s.gz q.a=some e/\(i:Int)+q.b<=e:=fun sE i q hi bd V=>by
  rcases pB i k with aa|aa
  ·exact h.lo i q aa bd V
  ·have:i=k:=by omega
   subst this
   rw[bh] at bd
   injection bd with bd
   subst bd
   exact absurd V sE
 have Mn:p.a∉s.dead↔lh (cL n all k) p.a=false:=by
  rw[h.dead,h.out];simp
 rcases H3 with U|U|U
 ·have e:k2 n s p={s with at_:=s.at_+1,out:=if p.a∉s.dead/\¬((g7 s.gz p.a).isSome/\(s.at_:Int)<=(g7 s.gz p.a).getD 0) then s.out++[p] else s.out}:=by unfold k2;rw[if_pos U]
  have aU:(if p.a∉s.dead/\¬((g7 s.gz p.a).isSome/\(s.at_:Int)<=(g7 s.gz p.a).getD 0) then s.out++[p] else s.out)=cL n all (k+1):=by
   rw[sB,h.out]
   have:qG n all k p (cL n all k)=true↔(lh (cL n all k) p.a=false/\¬qe all k p.a=true):=by
    simp[qG,U]
   have hi:=(and_congr Mn (not_congr gg.symm)).trans this.symm
   by_cases aj:qG n all k p (cL n all k)=true
   ·rw[if_pos (hi.2 aj),if_pos aj]
   ·rw[if_neg (fun h=>aj (hi.1 h)),if_neg aj]
  rw[e]
  refine⟨by show s.at_+1=k+1;rw[h.at_],aU,fun a=>?_,?_,q3,NO S⟩
  ·show a∈s.dead↔lh (if _ then _ else _) a=true
   rw[h.dead]
   split
   ·rw[Lf];simp[U]
   ·rfl
  ·show s.dead.length=nQ (if _ then _ else _)
   rw[h.len]
   split
   ·rw[Lo,if_neg S];rfl
   ·rfl
 ·have e:k2 n s p={s with at_:=s.at_+1,gz:=if(g7 s.gz p.a).isNone\/(g7 s.gz p.a).getD 0<(s.at_:Int)+p.b then ve s.gz p.a ((s.at_:Int)+p.b) else s.gz}:=by unfold k2;rw[if_neg S,if_pos U]
  have aU:s.out=cL n all (k+1):=by
   rw[sB,h.out]
   have:qG n all k p (cL n all k)=false:=by simp[qG,U]
   rw[this];rfl
  rw[e]
  refine⟨by show s.at_+1=k+1;rw[h.at_],aU,h.dead,h.len,fun a v ah=>?_,fun i q hi bd V=>?_⟩
  ·have ah:g7 (if _ then _ else _) a=some v:=ah
   split at ah
   ·rw[NL] at ah
    split at ah
    ·rename_i aa
     injection ah with ah
     exact⟨k,p,by omega,bh,U,aa.symm,by rw[<-ah,h.at_]⟩
    ·exact q3 a v ah
   ·exact q3 a v ah
  ·show∃e,g7 (if(g7 s.gz p.a).isNone\/(g7 s.gz p.a).getD 0<(s.at_:Int)+p.b then ve s.gz p.a ((s.at_:Int)+p.b) else s.gz) q.a=some e/\(i:Int)+q.b<=e
   rcases pB i k with aa|aa
   ·obtain⟨v,ah,m3⟩:=h.lo i q aa bd V
    split
    ·rename_i ag
     rw[NL]
     split
     ·rename_i a6
      rw[a6] at ah
      rw[ah] at ag
      rcases ag with ag|ag
      ·cases ag
      ·have ag:v<(s.at_:Int)+p.b:=ag
       exact⟨_,rfl,by omega⟩
     ·exact⟨v,ah,m3⟩
    ·exact⟨v,ah,m3⟩
   ·have:i=k:=by omega
    subst this
    rw[bh] at bd
    injection bd with bd
    subst bd
    split
    ·rw[NL,if_pos rfl]
     exact⟨_,rfl,by rw[h.at_];omega⟩
    ·rename_i ag
     cases e2:g7 s.gz p.a with
     |none=>rw[e2] at ag;exact absurd (.inl rfl) ag
     |some v=>
      rw[e2] at ag
      have ag:¬(_\/v<(s.at_:Int)+p.b):=ag
      have a6:¬v<(s.at_:Int)+p.b:=fun h=>ag (.inr h)
      rw[h.at_] at a6
      exact⟨v,rfl,by omega⟩
 ·have bX:qG n all k p (cL n all k)=true↔(p.a∉s.dead/\1<n-s.dead.length):=by
   rw[Mn,h.len,h.out]
   simp only[qG,U,e3,r4,Bool.not_eq_true',Bool.or_eq_false_iff,decide_eq_true_eq,decide_eq_false_iff_not]
   constructor
   ·rintro⟨⟨O,_⟩,V⟩
    refine⟨O,?_⟩
    rcases V with⟨V,_⟩|⟨_,V⟩<;>omega
   ·rintro⟨O,V⟩
    exact⟨⟨O,by omega⟩,.inr ⟨trivial,by omega⟩⟩
  by_cases aj:p.a∉s.dead/\1<n-s.dead.length
  ·have e:k2 n s p={s with at_:=s.at_+1,dead:=s.dead++[p.a],out:=s.out++[p]}:=by unfold k2;rw[if_neg S,if_neg S,if_pos aj]
   rw[e]
   refine⟨by show s.at_+1=k+1;rw[h.at_],by show s.out++[p]=_;rw[sB,if_pos (bX.2 aj),h.out],fun a=>?_,?_,q3,NO S⟩
   ·show a∈s.dead++[p.a]↔lh (s.out++[p]) a=true
    rw[Lf,iw,h.dead]
    simp[U]
    constructor
    ·rintro(h|h)
     ·exact .inl h
     ·exact .inr h.symm
    ·rintro(h|h)
     ·exact .inl h
     ·exact .inr h.symm
   ·show(s.dead++[p.a]).length=nQ (s.out++[p])
    rw[Lo,if_pos U,gC,h.len];rfl
  ·have e:k2 n s p={s with at_:=s.at_+1}:=by unfold k2;rw[if_neg S,if_neg S,if_neg aj]
   rw[e]
   exact⟨by show s.at_+1=k+1;rw[h.at_],by show s.out=_;rw[sB,if_neg (fun h=>aj (bX.1 h)),h.out],h.dead,h.len,q3,NO S⟩
theorem U7(aP:∀p∈all,i9 n p=true):∀k,k<=all.length->Kx n all k ((all.take k).foldl (k2 n) FT)
 |0,_=>⟨rfl,rfl,fun a=>by simp[FT,lh],rfl,fun a e h=>by simp[FT,g7] at h,fun i q hi=>by omega⟩
 |k+1,U=>by
  have ai:k<all.length:=by omega
  rw[ue ai,List.foldl_append]
  exact am7 (U7 aP k S) (List.getElem?_eq_getElem ai) (aP _ (fM ai))
theorem Oz(l:List e5):(qR n l).out=qQ n l:=by
 have h:=U7 (n:=n) (all:=l.filter (i9 n)) (fun p bh=>(List.mem_filter.1 bh).2) _ (Nat.le_refl _)
 rw[Ek] at h
 exact h.out
def KD(n:Int):List e5->Prop:=fun out=> ∀i p,out[i]?=some p->i9 n p=true/\p.kind≠2/\lh (out.take i) p.a=false/\(p.kind=3->(nQ (out.take i):Int)+1<n)
theorem TN(aP:∀p∈all,i9 n p=true):∀k,KD n (cL n all k)
 |0=>fun i p h=>by simp[cL] at h
 |k+1=>by
  have cy:=TN aP k
  unfold cL
  split
  ·rename_i p bh
   split
   ·rename_i bX
    intro i q bd
    rcases pB i (cL n all k).length with h|h
    ·rw[GP h] at bd
     rw[List.take_append_of_le_length S]
     exact cy i q bd
    ·rw[GQ h] at bd
     have aT:i-(cL n all k).length=0:=by
      rcases Nat.eq_zero_or_pos (i-(cL n all k).length) with O|O
      ·exact O
      ·rw[List.getElem?_eq_none (by simp;omega)] at bd;cases bd
     rw[aT] at bd
     injection bd with bd
     subst bd
     have hi:i=(cL n all k).length:=by omega
     rw[hi,List.take_left']
     ·have sE:=aP _ (List.mem_of_getElem? bh)
      simp only[qG,e3,r4,Bool.not_eq_true',Bool.or_eq_false_iff,decide_eq_true_eq,decide_eq_false_iff_not] at bX
      refine⟨sE,bX.1.2,bX.1.1,fun aa=>?_⟩
      rcases bX.2 with⟨ag,_⟩|⟨_,ag⟩
      ·omega
      ·exact ag
     ·rfl
   ·exact cy
  ·exact cy
theorem WJ{out:List e5}(h:KD n out):∀k,k<=out.length->cL n out k=out.take k
 |0,_=>rfl
 |k+1,U=>by
  have ai:k<out.length:=by omega
  have bh:=h k out[k] (List.getElem?_eq_getElem ai)
  have af9:∀a,qe out k a=false:=fun a=>by
   rcases D4 (qe out k a) with e|e
   ·obtain⟨i,q,_,bd,V,_⟩:=JG.1 e
    exact absurd V (h i q bd).2.1
   ·exact e
  have cy:=WJ h k S
  unfold cL
  rw[List.getElem?_eq_getElem ai,cy]
  dsimp only
  have H3:out[k].kind=1\/out[k].kind=3:=by
   have O:=bh.1
   have V:=bh.2.1
   simp only[i9,e3,r4,decide_eq_true_eq] at O
   omega
  have bX:qG n out k out[k] (out.take k)=true:=by
   simp only[qG,af9,bh.2.2.1,e3,r4,Bool.not_eq_true',Bool.or_eq_false_iff,decide_eq_true_eq,decide_eq_false_iff_not]
   refine⟨⟨trivial,bh.2.1⟩,?_⟩
   rcases H3 with O|O
   ·exact .inl ⟨O,trivial⟩
   ·exact .inr ⟨O,bh.2.2.2 O⟩
  rw[if_pos bX,ue ai]
theorem U8(l:List e5):(qR n (qQ n l)).out=(qR n l).out:=by
 have ar:KD n (qQ n l):=TN (fun p bh=>(List.mem_filter.1 bh).2) _
 have aK:(qQ n l).filter (i9 n)=qQ n l:=List.filter_eq_self.2 fun p bh=>by
  obtain⟨i,hi⟩:=List.mem_iff_getElem?.1 bh
  exact(ar i p hi).1
 rw[Oz,Oz]
 show cL n ((qQ n l).filter (i9 n)) ((qQ n l).filter (i9 n)).length=_
 rw[aK,WJ ar _ (Nat.le_refl _),Ek]
theorem am2(l:List e5):(qQ n l).length<=l.length:=by
 have:∀all k,(cL n all k).length<=k:=by
  intro all k
  induction k with
  |zero=>exact Nat.le_refl _
  |succ k cy=>
   unfold cL
   split
   ·split
    ·simp;exact cy
    ·omega
   ·omega
 exact jr (this _ _) (List.length_filter_le _ _)
end
def Calm(la:c8)(k:Nat)(log:List oP)(gone:List cz)(op:dp):Prop:=log=[]\/∃a,eH (g6 la k log) gone op= .ask a
def BS(la:c8)(x:hG):Prop:=∀(k:Nat) (y:eP),x.ct[k]?=some y->Calm la k y.log y.gone y.s.op
section
variable{c:cr}{la:c8}{k w:Nat}
theorem apQ{x:lA}(h:x.cP=true\/x.log=[]):(ja c la k w 2 x).cP=true\/∃a,eH (g6 la k (ja c la k w 2 x).log) (ja c la k w 2 x).gone (ja c la k w 2 x).s.op= .ask a:=by
 rcases D4 x.cP with eI|eI
 ·rw[F8 eI];exact .inl eI
 ·rcases h with h|h
  ·rw[eI] at h;cases h
  ·rcases OD (k:=g6 la k x.log) (gs:=x.gone) (op:=x.s.op) h with⟨a,a8⟩|⟨o,aU,O⟩
   ·rw[O7 a8];exact .inr ⟨a,a8⟩
   ·rw[Ju eI aU,F8 (Gn O)];exact .inl (Gn O)
theorem apP(x:lA):(ja c la k w 3 x).cP=true\/∃a,eH (g6 la k (ja c la k w 3 x).log) (ja c la k w 3 x).gone (ja c la k w 3 x).s.op= .ask a:=by
 rcases D4 x.cP with eI|eI
 ·rw[F8 eI];exact .inl eI
 ·cases e:eH (g6 la k x.log) x.gone x.s.op with
  |ask a=>rw[O7 e];exact .inr ⟨a,e⟩
  |done o gs=>rw[Ju eI e];exact apQ Xf
theorem apR{x:lA}(eI:x.cP=false)(ai:x.log=[]){o:cI}{gs:List cz}(e:eH (g6 la k x.log) x.gone x.s.op= .done o gs):(ja c la k w 3 x).cP=true:=by
 rcases OD (k:=g6 la k x.log) (gs:=x.gone) (op:=x.s.op) ai with⟨a,a8⟩|⟨o,aU,O⟩
 ·rw[e] at a8;cases a8
 ·rw[Ju eI aU,F8 (Gn O)];exact Gn O
theorem WO{x:hG}(eI:x.cP=false)(aj:BS la x)(U:(x.cf.getD w 0).toNat<x.ct.length):(nd c la w x).cP=true\/((nd c la w x).ao.length=x.ao.length+1/\BS la (nd c la w x)):=by
 unfold nd
 rw[List.getElem?_eq_getElem U]
 dsimp only
 generalize bV:x.ct[(x.cf.getD w 0).toNat]=y
 have afg:=aj _ y (by rw[List.getElem?_eq_getElem U,bV])
 generalize(x.cf.getD w 0).toNat=k at*
 generalize b3:vv w (ND y x.fs (x.cf.getD w 0) x.bp x.cP x.value x.err)=z
 have uP:z.cP=false/\Calm la k z.log z.gone z.s.op:=by
  rw[<-b3]
  unfold vv
  split
  ·exact⟨eI,.inl rfl⟩
  ·exact⟨eI,afg⟩
 have agr:∀(r:lA) mem ao,(∃a,eH (g6 la k r.log) r.gone r.s.op= .ask a)->BS la ⟨x.ct.set k r.F6,x.cf.set w r.bN,x.al,mem,ao,r.bp,r.fs,r.cP,r.value,r.err⟩:=by
  intro r mem ao aP j GC a9
  have a9:(x.ct.set k r.F6)[j]?=some GC:=a9
  by_cases e:j=k
  ·subst e
   rw[q9 U] at a9
   injection a9 with a9
   subst a9
   exact .inr aP
  ·rw[zY (Ne.symm e)] at a9
   exact aj j GC a9
 unfold rW
 cases e:eH (g6 la k z.log) z.gone z.s.op with
 |ask a=>
  by_cases bs:(g2 x.mem a).2.2=0
  ·simp only[if_pos bs]
   rcases apP (c:=c) (la:=la) (k:=k) (w:=w) {z with s:={z.s with aM:=z.s.aM+1,ns:=z.s.ns+1},log:=z.log++[(g2 x.mem a).2.1],steps:=z.steps++[(x.ao.length:Int)]} with h|h
   ·exact .inl h
   ·exact .inr ⟨by simp,agr _ _ _ h⟩
  ·simp only[if_neg bs]
   exact .inl trivial
 |done o gs=>
  dsimp only
  refine .inl ?_
  rcases uP.2 with h|⟨a,a8⟩
  ·exact apR uP.1 h e
  ·rw[e] at a8;cases a8
theorem amT{n:Nat}{kind a:Int}{x:hG}(eI:x.cP=false)(aj:BS la x)(U:∀w,w<n->(x.cf.getD w 0).toNat<x.ct.length)(aB:x.al.length=n):(m6 c la n kind a x).cP=true\/BS la (m6 c la n kind a x):=by
 unfold m6
 split
 ·rename_i h
  have O:=h.2.2.1
  have V:=h.2.2.2.1
  exact(WO eI aj (U _ S)).imp id fun h=>h.2
 split
 ·exact .inr aj
 ·exact .inr aj
end
def Ex(al:List Bool):Prop:=∃w,al.getD w false=true
theorem OW{al:List Bool}{l:Int}(ai:0<=l/\l<al.length):∀(f i:Nat),(∃j,i<=j/\j<i+f/\al.getD ((l+(j:Int)).tmod al.length).toNat false=true)->0<=qa al l f i/\qa al l f i<al.length/\al.getD (qa al l f i).toNat false=true
 |0,i,⟨j,O,V,_⟩=>by omega
 |f+1,i,⟨j,O,V,aa⟩=>by
  unfold qa
  split
  ·rename_i h
   exact⟨zV _ S,BZ _ S,h⟩
  ·rename_i h
   refine OW ai f (i+1) ⟨j,?_,by omega,aa⟩
   rcases pB i j with ag|ag
   ·exact ag
   ·have:i=j:=by omega
    subst this
    exact absurd aa h
theorem N5{al:List Bool}{last:Int}(h:Ex al):0<=j0 al last/\j0 al last<al.length/\al.getD (j0 al last).toNat false=true:=by
 obtain⟨w,au⟩:=h
 have ai:w<al.length:=by
  rcases pB w al.length with h|h
  ·exact h
  ·simp[List.getD,List.getElem?_eq_none h] at au
 unfold j0
 have key:∀l:Int,0<=l->l<al.length->∃j:Nat,1<=j/\j<1+al.length/\al.getD ((l+(j:Int)).tmod al.length).toNat false=true:=by
  intro l aT O
  rcases Int.lt_or_le l (w:Int) with h|h
  ·refine⟨((w:Int)-l).toNat,by omega,by omega,?_⟩
   rw[show l+(((w:Int)-l).toNat:Int)=(w:Int) by omega,Int.tmod_eq_of_lt S S]
   exact au
  ·refine⟨((w:Int)+al.length-l).toNat,by omega,by omega,?_⟩
   rw[show l+(((w:Int)+al.length-l).toNat:Int)=(w:Int)+al.length by omega,Int.tmod_eq_emod_of_nonneg S,Int.add_emod_right,Int.emod_eq_of_lt S S]
   exact au
 split
 ·exact OW ⟨by omega,by omega⟩ _ _ (key _ S S)
 ·exact OW ⟨by omega,by omega⟩ _ _ (key _ S S)
theorem ap2{al:List Bool}{w:Nat}(au:al.getD w false=true)(h:j0 al w≠w):Ex (al.set w false):=by
 have O:=N5 (al:=al) (last:=w) ⟨w,au⟩
 refine⟨(j0 al w).toNat,?_⟩
 have:w≠(j0 al w).toNat:=fun e=>h S
 simp only[List.getD,zY this]
 exact O.2.2
theorem WM{c:cr}{la:c8}{w:Nat}{x:hG}:(nd c la w x).al=x.al:=by
 unfold nd
 split
 ·rfl
 split
 ·rfl
 ·rfl
theorem ap3{c:cr}{la:c8}{n:Nat}{kind a:Int}{x:hG}(h:Ex x.al):Ex (m6 c la n kind a x).al:=by
 unfold m6
 split
 ·rw[WM];exact h
 split
 ·rename_i O V
  refine ap2 V.2.1.2.2.2.1 ?_
  have:=V.2.2
  have aa:=V.2.1.2.1
  rw[show((a.toNat:Nat):Int)=a by omega]
  exact this
 ·exact h
inductive oN(c:cr)(la:c8)(n:Nat)(most:Int)(lT:List (Int×Int)):Nat->Int->hG->hG->Prop where
 |fK {at_ last x}:x.cP=true->oN c la n most lT at_ last x x
 |aH {at_ last} {x:hG}:x.cP=false->most<=x.ao.length->oN c la n most lT at_ last x {x with cP:=true,err:=11,value:=0}
 |pick {at_ last} {x y:hG} {p:Int×Int}:x.cP=false->x.ao.length<most->lT[at_]?=some p->oN c la n most lT (at_+1) last (m6 c la n p.1 p.2 x) y->oN c la n most lT at_ last x y
 |zK {at_ last} {x y:hG}:x.cP=false->x.ao.length<most->lT[at_]?=none->oN c la n most lT (at_+1) (j0 x.al last) (nd c la (j0 x.al last).toNat x) y->oN c la n most lT at_ last x y
theorem oN.EN{c:cr}{la:c8}{n:Nat}{most:Int}{lT:List (Int×Int)}{at_:Nat}{last:Int}{x y z:hG}(h:oN c la n most lT at_ last x y)(ak:oN c la n most lT at_ last x z):y=z:=by
 induction h with
 |fK O=>cases ak with
  |fK=>rfl
  |aH V=>rw[O] at V;cases V
  |pick V=>rw[O] at V;cases V
  |zK V=>rw[O] at V;cases V
 |aH O V=>cases ak with
  |fK aa=>rw[O] at aa;cases aa
  |aH=>rfl
  |pick _ aa=>omega
  |zK _ aa=>omega
 |pick O V aa _ cy=>cases ak with
  |fK ag=>rw[O] at ag;cases ag
  |aH _ ag=>omega
  |pick _ _ ag a6=>rw[aa] at ag;injection ag with ag;subst ag;exact cy a6
  |zK _ _ ag=>rw[aa] at ag;cases ag
 |zK O V aa _ cy=>cases ak with
  |fK ag=>rw[O] at ag;cases ag
  |aH _ ag=>omega
  |pick _ _ ag=>rw[aa] at ag;cases ag
  |zK _ _ _ a6=>exact cy a6
theorem asT {P:Prop} (h:P:=by
 repeat'((first
  |(refine fv O aD W rfl ?_)
  |(refine ke V aD W ?_)
  |(refine gE O aD W rfl ?_)
  |(refine p0 V aD W ?_)
  |(refine aco af ?_)
  |(refine Q9 aj ?_)
  |(exact cA U)
  |refine eg ?_
  |(refine eh ?_ ?_)
  |with_reducible intro r)<;>(try conv=>whnf))):P:=h
section
def hz.dL(m:hz):hz:={m with ce:=m.ne,dD:=m.bB}
theorem arR{m:hz}{pm dv:Nat}(af:m.ne<=m.ce)(aj:m.bB<=m.dD)(O:(ae dv,aY.cs 80 [ae pm])∈M)(V:(ae pm,aY.cs 85 m.l)∈M)(U:K (.agg m.dL.l.toArray) (Y H w0 X M)):
  a4 H w0 X M 57 #[ae dv] K Z:=by
 refine a7 ata ?_
 intro az aF
 conv=>whnf
 exact asT
end
end Go.Proofs.YtcflcebplhdcpaaGreat
