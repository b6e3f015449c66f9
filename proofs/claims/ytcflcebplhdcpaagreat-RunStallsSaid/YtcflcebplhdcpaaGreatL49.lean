/- Lemmas, part 49; each states its own conditions. -/
import Derived.Test.YtcflcebplhdcpaaGreatL48
namespace Go.Proofs.YtcflcebplhdcpaaGreat
open Go.RowKit
set_option linter.unusedSimpArgs false
set_option linter.unusedVariables false
set_option maxRecDepth 100000
set_option maxHeartbeats 16000000
variable{H w0:World}{X:Nat->Prop}{M:aw}{K:Value->an->Prop}{Z:bF}
theorem asW {P:Prop} (h:P:=by
 repeat'((first
  |(exact lV U (beq_iff_eq.2 h.2.2.2))
  |refine eg ?_
  |(refine eh ?_ ?_<;>(try with_reducible intro ab)<;>(try(exfalso;omega)))
  |with_reducible intro r)<;>(try conv=>whnf))):P:=h
def O4:cm:=⟨0,0,0,0,0,0,0,0,0,0,none,0,0,0,0,0,0,none,0,0,none,0,0,none,0,0,0⟩
def xR(w:Int):cm:={O4 with o0:=9,o1:=w}
def j3:cm:={O4 with task:=1}
def m0(c:cr)(br:Option Addr)(bz:Nat)(bf:Option Addr)(cN bA:Nat):a3:=⟨1,br,0,bz,[],c.main,0,bf,cN,bA,mu c c.main [],none,0,0,[],none,0,0,[],0,0,false⟩
def j8(c:cr):a3:=(m0 c none 0 none (mu c c.main []).length 0).bE
def q1(n:Nat):List eP:=(List.range (n-1)).map fun w=>⟨xR ((w+1:Nat):Int),[],[],[],[]⟩
def tU(c:cr)(la:c8)(cs:List Int)(n:Nat):hG:=match na c j3 [j8 c] 1 (j8 c) 0 with
 | .fK e v=>⟨⟨j3,[],[],[],[]⟩::q1 n,(List.range n).map fun w=>((w:Nat):Int),List.replicate n true,sJ la cs,[],[],[j8 c],true,0,e⟩
 | .go s got fs _=>⟨⟨s,got,[],[],[]⟩::q1 n,(List.range n).map fun w=>((w:Nat):Int),List.replicate n true,sJ la cs,[],[],fs,false,0,0⟩
theorem ael{q:l5}:vt 0 0 (kD j3 q (kC j3 q 1)) []/\(kD j3 q (kC j3 q 1)).at_=0:=by
 refine⟨⟨?_,⟨my _,by show(0:Int)<=_;omega⟩,cY _,?_⟩,rfl⟩
 all_goals
  unfold kC
  repeat' split
 all_goals
  simp only[kD,j3,O4]
  omega
theorem vt.alq{n:Int}{s:cm}{got:List Int}(h:vt 0 0 s [])(aZ:got.length<=101):vt n 0 s got:=⟨h.dE,h.at_,by omega,fun aT O=>by have:=h.wS aT O;omega⟩
theorem aoB{n:Nat}(aB:1<=n){s:cm}:((List.range n).map fun w=>xR ((w:Nat):Int)).set 0 s=s::(List.range (n-1)).map fun w=>xR ((w+1:Nat):Int):=by
 obtain⟨m,rfl⟩:∃m,n=m+1:=⟨n-1,by omega⟩
 rw[List.range_succ_eq_map,vn,Ej,wO]
 rfl
theorem aqW{n:Nat}:(q1 n).map eP.s=(List.range (n-1)).map fun w=>xR ((w+1:Nat):Int):=by simp only[q1,wO];rfl
theorem aqV{n:Nat}:(q1 n).map eP.bE=q1 n:=by simp only[q1,wO];rfl
section
theorem apz{a:c8}(a8:ig a){w:Int}(U:K (.agg #[J 9,J w,J 0,J 0]) (Y H w0 X M)):a4 H w0 X M 40 #[.agg a.l.toArray,J w,J w,J 0] K Z:=
 Wk a8.bt (fun o0 o1 aQ bl h=>by
  have e:qY a.bt w w 0=⟨9,w,0,0⟩:=if_pos rfl
  rw[e] at h
  injection h with O V aa ag
  subst O V aa ag
  exact U)
theorem ad1{c:cr}{bb:h9}(h:bb.cells=(c.bB:Int)/\bb.maps=c.maps/\bb.dj=c.dj/\bb.cF=c.cF)(U:K (.bool true) (Y H w0 X M)):a4 H w0 X M 37 #[.agg c.l.toArray,.agg bb.l.toArray] K Z:=by
 refine a7 as8 ?_
 intro az aF
 conv=>whnf
 exact asW
theorem Jn{c:cr}{cs:List Int}(h:l6 c cs)(fn:Int):(b8 c fn).locals<=1000:=by
 unfold b8
 rcases pB fn.toNat c.dC.length with ai|ai
 ·rw[show c.dC.getD fn.toNat ⟨0,0,none,0,0,[]⟩=c.dC[fn.toNat] by simp[List.getD,ai]]
  have:=(h.body _ (fM ai)).args
  omega
 ·rw[show c.dC.getD fn.toNat ⟨0,0,none,0,0,[]⟩=⟨0,0,none,0,0,[]⟩ by simp[List.getD,List.getElem?_eq_none ai]]
  decide
theorem ao0{c:cr}{cs:List Int}(h:l6 c cs)(aj:hP H c):wu c c.main 1 []:=by
 have ad:=h.main
 have ab:b8 c c.main∈c.dC:=by
  have ai:c.main.toNat<c.dC.length:=by have:=aj.aX;omega
  unfold b8
  rw[show c.dC.getD c.main.toNat ⟨0,0,none,0,0,[]⟩=c.dC[c.main.toNat] by simp[List.getD,ai]]
  exact fM ai
 have a8:=(h.body _ ab).args
 have aT:=h.T8
 exact⟨ad,my _,rfl,aT,by omega⟩
theorem ak9{c:cr}{cs:List Int}(aj:hP H c)(h:l6 c cs)(U:∀br bz bf cN bA,cN=(mu c c.main []).length->K (.tuple #[.agg (m0 c br bz bf cN bA).l.toArray,J 0]) (Y H w0 X ((.slice br 0 bz,.row 3 1 (is []))::(.slice bf cN bA,.row 3 1 (is (mu c c.main [])))::M))):
  a4 H w0 X M 38 #[.agg c.l.toArray,J c.main,.slice none 0 0,J 1,.slice none 0 0] K Z:=
 WI aj (Jn h _) (zr H) (zr H) (fun aB=>absurd (ao0 h aj) aB) (fun _ br bz bf cN bA _ _ nv=>U br bz bf cN bA (by
  rw[nv]
  simp[mu]))
end
def aqr(la:c8)(c:cr)(og N:Nat)(w:Nat)(gm:Option Addr)(hj:Nat)(eU:Option Addr)(ci:Nat)(ed:Option Addr)(bp:Nat):hz:=⟨la,c,some ⟨og,0,none⟩,N,N,gm,w,hj,eU,w,ci,none,0,0,ed,w,bp,none,0,0,none,0,0,false,0,0⟩
def tS(n:Nat):List cm:=(List.range n).map fun w=>xR ((w:Nat):Int)
def sT(n:Nat):List Int:=(List.range n).map fun w=>((w:Nat):Int)
def Wh(A:Option Addr)(c n:Nat)(l:List cm):Value×aY:=(.slice A n c,.row 78 19 (l.flatMap cm.l))
def Jw(A:Option Addr)(c n:Nat)(l:List Int):Value×aY:=(.slice A n c,.row 3 1 (is l))
def G3(A:Option Addr)(c n:Nat)(l:List Bool):Value×aY:=(.slice A n c,.row 4 1 (l.map Value.bool))
theorem apL{w:Nat}:(tS w).flatMap cm.l++(xR (w:Nat)).l=(tS (w+1)).flatMap cm.l:=by
 unfold tS
 rw[List.range_succ,zZ,zX]
 simp
theorem apX{w:Nat}:is (sT w)++[J (w:Nat)]=is (sT (w+1)):=by
 unfold sT
 rw[List.range_succ,zZ,Nk]
 rfl
theorem aa0{w:Nat}:(List.replicate w true).map Value.bool++[Value.bool true]=(List.replicate (w+1) true).map Value.bool:=by
 rw[List.replicate_succ',zZ]
 rfl
theorem apv{s:cm}:∀u∈s.l,u.oneCell'=true:=fun u ar=>by
 simp only[cm.l,mz,sa,or_false] at ar
 rcases ar with rfl|rfl|rfl|rfl|rfl|rfl|rfl|rfl|rfl|rfl|rfl|rfl|rfl|rfl|rfl|rfl|rfl|rfl|rfl<;>rfl
structure Ec(L:aw)(s:cm)(got:List Int)(g:a3):Prop where
 rd:∀iD E,dc iD L E->i1 E g/\fG E s.gA s.eM s.gJ got
 fs:ky 0 [g]
 ct:vt 0 0 s []
 got:got.length<=101
 wX:s.aM=0/\s.bD=0/\s.ns=0/\s.cs=0/\s.ho=none/\s.ew=0/\s.h3=0
def FE(la:c8)(c:cr)(og N:Nat)(w:Nat)(gm:Option Addr)(hj:Nat)(eU:Option Addr)(ci:Nat)(ed:Option Addr)(bp dK:Nat)(cP:Bool)(e:Int):hz:=⟨la,c,some ⟨og,0,none⟩,N,N,gm,w,hj,eU,w,ci,some ⟨dK,0,none⟩,1,1,ed,w,bp,none,0,0,none,0,0,cP,0,e⟩
def J4(m:hz)(n:Nat)(s:cm)(got:List Int)(g:a3)(mem:List Int):gi:=⟨m,⟨s,got,[],[],[]⟩::q1 n,sT n,List.replicate n true,mem,[],[],[g]⟩
theorem WV{n k:Nat}{y:eP}(h:(q1 n)[k]?=some y):∃w:Nat,y=⟨xR (w:Int),[],[],[],[]⟩:=by
 unfold q1 at h
 rw[oc] at h
 cases e:(List.range (n-1))[k]? with
 |none=>rw[e] at h;cases h
 |some z=>
  rw[e] at h
  injection h with h
  exact⟨z+1,h.symm⟩
theorem apw{n:Int}{w:Int}:vt n 0 (xR w) []:=⟨⟨my _,by show(0:Int)<=5;decide⟩,⟨my _,by show(0:Int)<=_;omega⟩,cY _,fun _ h=>absurd (show(9:Int)=16 from h) bC⟩
section
theorem aea{iD E:World}{M:aw}(a2:dc iD M E){b:Nat}{g:a3}(ad:(Value.slice (some ⟨b,0,none⟩) 1 1,aY.row 108 10 g.l)∈M)(aZ:i1 E g):gM E (some ⟨b,0,none⟩) 1 1 [g]:=
 ⟨by simpa using(a2.row _ _ _ _ _ _ ad).1,rfl,Nat.le_refl _,by decide,fun f aK=>by rw[nK] at aK;subst aK;exact aZ⟩
theorem aqn{c:cr}{cs:List Int}{la:c8}{n og N hj ci bp dK:Nat}{gm eU ed:Option Addr}{s:cm}{got:List Int}{g:a3}{L:aw}{cP:Bool}{e:Int}(aj:hP H c)(c3:l6 c cs)(kV:ig la)(aB:la.bt=(n:Int))(V:n<=hj/\(0<hj->∃b,gm=some ⟨b,0,none⟩))(aa:n<=ci/\(0<ci->∃b,eU=some ⟨b,0,none⟩))(ag:n<=bp/\(0<bp->∃b,ed=some ⟨b,0,none⟩))(ad:(sJ la cs).length=N)(eC:N<=1000000)(gY:Ec L s got g)(ab:(Value.slice (some ⟨dK,0,none⟩) 1 1,aY.row 108 10 g.l)∈L):
  wQ H L n 0 0 (J4 (FE la c og N n gm hj eU ci ed bp dK cP e) n s got g (sJ la cs)):=by
 have lL:=kV.bt
 have vU:1<=n:=by omega
 obtain⟨s9,ri,sd,Af,uo,uq,yu⟩:=gY.wX
 refine⟨⟨kV,aB,aj,Jn c3,⟨V.2 S,rfl,V.1,?_⟩,⟨aa.2 S,rfl,aa.1,?_⟩,fun w au=>?_,⟨ag.2 S,rfl,ag.1,List.length_replicate⟩,fun k y bV=>?_,fun E a2=>aea a2 ab (gY.rd _ _ a2).1,gY.fs,⟨rfl,Nat.le_refl _,Nat.le_refl _⟩,⟨fun _=>⟨og,rfl⟩,ad.symm,Nat.le_refl _,eC⟩,⟨rfl,Nat.le_refl _,cY _⟩,cY _,cY _⟩,⟨rfl,rfl⟩,⟨rfl,rfl,rfl⟩,fun y bV=>?_,⟨0,?_⟩⟩
 ·show(_::q1 n).length=n
  simp only[q1,oM,kz,B3]
  omega
 ·show(sT n).length=n
  simp only[sT,kz,B3]
 ·have:(sT n).getD w 0=(w:Int):=by simp[sT,List.getD,au]
  show 0<=(sT n).getD w 0/\(sT n).getD w 0<n
  omega
 ·cases k with
  |zero=>
   injection bV with bV
   subst bV
   refine⟨⟨s9,by show s.aM<=s.bD;omega,cY _⟩,⟨sd,by show s.ns<=s.cs;omega,cY _⟩,⟨uq,by show s.ew<=s.h3;omega,fun _=>uq,Nat.le_refl _⟩,fun E a2=>⟨?_,(gY.rd _ _ a2).2⟩,gY.ct.alq gY.got⟩
   show dU E E.heap.size s.ho []
   rw[uo]
   exact .inl rfl
  |succ k=>
   obtain⟨w,rfl⟩:=WV (show(q1 n)[k]?=some y from bV)
   exact⟨⟨rfl,Nat.le_refl _,Nat.le_refl _⟩,⟨rfl,Nat.le_refl _,Nat.le_refl _⟩,⟨rfl,Nat.le_refl _,fun _=>rfl,Nat.le_refl _⟩,fun E a2=>⟨.inl rfl,zr E⟩,apw⟩
 ·rcases mz.1 bV with rfl|bV
  ·exact⟨rfl,rfl,s9,sd⟩
  ·obtain⟨k,U⟩:=List.getElem?_of_mem bV
   obtain⟨w,rfl⟩:=WV U
   exact⟨rfl,rfl,rfl,rfl⟩
 ·show(List.replicate n true).getD 0 false=true
  obtain⟨m,rfl⟩:∃m,n=m+1:=⟨n-1,by omega⟩
  rfl
theorem atd{c:cr}{cs:List Int}{la:c8}{n og N hj ci bp dK:Nat}{gm eU ed:Option Addr}{s:cm}{got:List Int}{g:a3}{cP:Bool}{e:Int}(h:na c j3 [j8 c] 1 (j8 c) 0= .fK e 0/\cP=true/\s=j3/\got=[]/\g.bE=j8 c\/na c j3 [j8 c] 1 (j8 c) 0= .go s.bE got [g.bE] 0/\cP=false/\e=0):
  (J4 (FE la c og N n gm hj eU ci ed bp dK cP e) n s got g (sJ la cs)).c=tU c la cs n:=by
 show hG.mk (eP.bE ⟨s,got,[],[],[]⟩::(q1 n).map eP.bE) _ _ _ _ _ [g.bE] _ _ _=_
 rw[aqV]
 unfold tU
 rcases h with⟨h,rfl,rfl,rfl,aZ⟩|⟨h,rfl,rfl⟩
 ·rw[h,aZ];rfl
 ·rw[h];rfl
theorem aej {c:cr} {cs:List Int} {br:Option Addr} {bz:Nat} {bf:Option Addr} {cN bA:Nat} (aj:hP H c) (c3:l6 c cs) (nv:cN=(mu c c.main []).length) (bh:(Value.slice br 0 bz,aY.row 3 1 (is []))∈M) (ai:(Value.slice bf cN bA,aY.row 3 1 (is (mu c c.main [])))∈M)
  (O:∀e,e≠0->na c j3 [j8 c] 1 (j8 c) 0= .fK e 0->K (.tuple #[.agg j3.l.toArray,.agg (m0 c br bz bf cN bA).l.toArray,J e]) (Y H w0 X M))
  (V:∀g s q aE,Ec aE s q g->na c j3 [j8 c] 1 (j8 c) 0= .go s.bE q [g.bE] 0->K (.tuple #[.agg s.l.toArray,.agg g.l.toArray,J 0]) (Y H w0 X (aE++M))):
  a4 H w0 X M 41 #[.agg c.l.toArray,.agg j3.l.toArray,.agg (m0 c br bz bf cN bA).l.toArray] K Z:=by
 have sC:cN<=1000:=by
  have:=Jn c3 c.main
  rw[nv]
  simp only[mu,gC,List.length_replicate,pz]
  omega
 have Fh:(m0 c br bz bf cN bA).bE=j8 c:=by subst nv;rfl
 have ry:∀iD E,dc iD M E->i1 E (m0 c br bz bf cN bA):=fun iD E a2=>⟨a2.kg bh (cY _),a2.kg ai (by show cN<=_;omega),zr E,⟨.inl rfl,rfl,Nat.le_refl _,cY _⟩⟩
 have SE:∀e,(iB c (m0 c br bz bf cN bA)=false/\e=1\/iB c (m0 c br bz bf cN bA)=true/\jh c (m0 c br bz bf cN bA)= .err e)->na c j3 [j8 c] 1 (j8 c) 0= .fK e 0:=fun e af=>by
  have:=OT (s:=j3) (fs:=[m0 c br bz bf cN bA]) (k:=1) (a1:=0) af
  rw[Fh] at this
  simp only[vn,List.map_nil,Fh] at this
  exact this
 refine ay.anchor [] M Nw.dg rfl (fun E w fV a2=>RO (a2.code aj) (ry _ _ a2) (fun aP=>hR.to M rfl (O 1 bC (SE 1 (.inl ⟨aP,rfl⟩)))) (fun aP e af=>hR.to M rfl (O e (N4 af) (SE e (.inr ⟨aP,af⟩)))) (fun aP bW bI bq bZ v q ad bd U af dE o0 o1 aQ bl aU=>hR.to (tR (gh c (m0 c br bz bf cN bA) bW bI bq bZ) v q []++M) rfl ?_))
 have e6:=aeo (ry _ _ a2) ad bd aP U af
 have gx:=I3 (c:=c) (f:=m0 c br bz bf cN bA) (cY _) af
 have kn:kC j3 q 1=⟨dE,o0,o1,aQ,bl⟩:=aU
 rw[<-kn]
 refine V (tk (gh c (m0 c br bz bf cN bA) bW bI bq bZ) v) (kD j3 q (kC j3 q 1)) q.got _ ⟨e6.ok,⟨by show 1<=1000;decide,fun f aK=>?_,fun f aK=>?_⟩,ael.1,by have:=gx.2;show(gL q).got.length<=101;omega,rfl,rfl,rfl,rfl,rfl,rfl,rfl⟩ ?_
 ·rw[nK] at aK
  subst aK
  exact⟨Nat.le_refl _,ad.dB,Nat.le_refl _⟩
 ·rw[nK] at aK
  subst aK
  exact⟨rfl,ad.aM,ad.ns,rfl⟩
 ·have e1:CB (j8 c) ⟨v.aA,v.aH,v.fail,v.loc,v.aO⟩=(tk (gh c (m0 c br bz bf cN bA) bW bI bq bZ) v).bE:=by
   rw[<-Fh]
   exact RE (f:=m0 c br bz bf cN bA) (g:=tk (gh c (m0 c br bz bf cN bA) bW bI bq bZ) v) rfl rfl rfl rfl rfl ⟨rfl,rfl,ad.aM,ad.ns⟩
  have e2:iB c (j8 c)=true:=by rw[<-Fh];exact aP
  have cR:jh c (j8 c)= .ok (ez v) (gL q):=by rw[<-Fh];exact af
  unfold na
  rw[if_neg (by rw[e2];decide),cR]
  show mB.go (kD j3 (xP (gL q)) (kC j3 q 1)) q.got (kh [j8 c] 1 (CB (j8 c) ⟨v.aA,v.aH,v.fail,v.loc,v.aO⟩)) 0=_
  rw[e1]
  congr 1
  have hd:=bd.len
  simp only[kD,cm.bE,xP,gL,hd]
  rfl
theorem aei {c:cr} {cs:List Int} {br:Option Addr} {bz:Nat} {bf:Option Addr} {cN bA:Nat} (P:aw) {Q:aw} (b9:M=P++Q) (aj:hP H c) (c3:l6 c cs) (nv:cN=(mu c c.main []).length) (bh:(Value.slice br 0 bz,aY.row 3 1 (is []))∈M) (ai:(Value.slice bf cN bA,aY.row 3 1 (is (mu c c.main [])))∈M)
  (O:∀e,e≠0->na c j3 [j8 c] 1 (j8 c) 0= .fK e 0->K (.tuple #[.agg j3.l.toArray,.agg (m0 c br bz bf cN bA).l.toArray,J e]) (Y H w0 X M))
  (V:∀g s q aE,Ec aE s q g->na c j3 [j8 c] 1 (j8 c) 0= .go s.bE q [g.bE] 0->K (.tuple #[.agg s.l.toArray,.agg g.l.toArray,J 0]) (Y H w0 X (P++(aE++Q)))):
  a4 H w0 X M 41 #[.agg c.l.toArray,.agg j3.l.toArray,.agg (m0 c br bz bf cN bA).l.toArray] K Z:=by
 subst b9
 exact ay.post (aej aj c3 nv bh ai (fun e af aP=>⟨_,_,rfl,aJ.refl _,O e af aP⟩) (fun g s q aE gY aP=>⟨_,_,rfl,aJ.perm (by rw[<-ob,<-ob];exact List.perm_append_comm.append_right _),V g s q aE gY aP⟩))
theorem aeb{c:cr}{cs:List Int}{br:Option Addr}{bz:Nat}{bf:Option Addr}{cN bA:Nat}(c3:l6 c cs)(nv:cN=(mu c c.main []).length):Ec [(.slice br 0 bz,.row 3 1 (is [])),(.slice bf cN bA,.row 3 1 (is (mu c c.main [])))] j3 [] (m0 c br bz bf cN bA):=by
 have sC:cN<=1000:=by
  have:=Jn c3 c.main
  rw[nv]
  simp only[mu,gC,List.length_replicate,pz]
  omega
 refine⟨fun iD E a2=>⟨⟨a2.kg (t:=3) (.head _) (cY _),a2.kg (t:=3) (.tail _ (.head _)) (by show cN<=_;omega),zr E,⟨.inl rfl,rfl,Nat.le_refl _,cY _⟩⟩,zr E⟩,⟨by show 1<=1000;decide,fun f aK=>?_,fun f aK=>?_⟩,⟨⟨my _,by show(0:Int)<=5;decide⟩,⟨my _,by show(0:Int)<=_;omega⟩,cY _,fun _ h=>absurd (show(0:Int)=16 from h) bC⟩,cY _,rfl,rfl,rfl,rfl,rfl,rfl,rfl⟩
 ·rw[nK] at aK
  subst aK
  exact⟨Nat.le_refl _,cY _,Nat.le_refl _⟩
 ·rw[nK] at aK
  subst aK
  exact⟨rfl,nv,rfl,rfl⟩
theorem Rt {az:World} {aF:Nat->Prop} {c:cr} {cs:List Int} {la:c8} {n og N hj ci bp dK:Nat} {gm eU ed:Option Addr} {s:cm} {got:List Int} {g:a3} {L R:aw} {cP:Bool} {e:Int} (aj:hP H c) (c3:l6 c cs) (kV:ig la) (aB:la.bt=(n:Int)) (V:n<=hj/\(0<hj->∃b,gm=some ⟨b,0,none⟩)) (aa:n<=ci/\(0<ci->∃b,eU=some ⟨b,0,none⟩)) (ag:n<=bp/\(0<bp->∃b,ed=some ⟨b,0,none⟩)) (ad:(sJ la cs).length=N) (eC:N<=1000000) (gY:Ec L s got g)
  (ar:na c j3 [j8 c] 1 (j8 c) 0= .fK e 0/\cP=true/\s=j3/\got=[]/\g.bE=j8 c\/na c j3 [j8 c] 1 (j8 c) 0= .go s.bE got [g.bE] 0/\cP=false/\e=0) (zf:List.Sublist M R)
  (U:∀x L,wQ H L n 0 0 x->x.c=tU c la cs n->x.m.c=c->x.m.la=la->K (.tuple #[.agg x.m.l.toArray,J 0]) (Y H w0 X (xZ x (L++M)))):
  cd H w0 X az aF K (.tuple #[.agg (FE la c og N n gm hj eU ci ed bp dK cP e).l.toArray,J 0]) (Y H az aF ((.slice (some ⟨dK,0,none⟩) 1 1,.row 108 10 g.l)::sK og N (sJ la cs)::(.slice gm n hj,.row 78 19 (((tS n).set 0 s).flatMap cm.l))::Jw eU ci n (sT n)::G3 ed bp n (List.replicate n true)::(L++R))):=by
 have vU:1<=n:=by have:=kV.bt;omega
 have gg:=aqn (cP:=cP) (e:=e) (og:=og) (dK:=dK) (L:=(.slice (some ⟨dK,0,none⟩) 1 1,.row 108 10 g.l)::L) aj c3 kV aB V aa ag ad eC ⟨fun iD E a2=>gY.rd iD E (a2.less fun e af=> .tail _ af),gY.fs,gY.ct,gY.got,gY.wX⟩ (.head _)
 refine cd.imp _ ?_ (U _ _ gg (atd ar) rfl rfl)
 have e1:(tS n).set 0 s=(J4 (FE la c og N n gm hj eU ci ed bp dK cP e) n s got g (sJ la cs)).ct.map eP.s:=by
  show(tS n).set 0 s=s::(q1 n).map eP.s
  rw[aqW]
  exact aoB vU
 rw[e1]
 refine aJ.trans (aJ.sub (aE:=_::_::_::_::_::(L++M)) (.cons_cons _ (.cons_cons _ (.cons_cons _ (.cons_cons _ (.cons_cons _ ((List.Sublist.refl L).append zf))))))) (aJ.perm ?_)
 unfold xZ
 classical
 rw[B4]
 intro z
 simp only[B1,B2,sK,Jw,G3,J4,FE]
 omega
end
theorem asX {P:Prop} (h:P:=by
 repeat'((first
  |(refine hb Au W ?_)
  |(refine hb gK W ?_)
  |(refine hb At W ?_)
  |(refine apz kV ?_)
  |(refine jL Au (fy.own (l:=[Value.bool true]) Au (List.Mem.head _) (by intro u aS;rw[nK] at aS;subst aS;rfl) 1) (.there (.there (.there .here))) (show w+1<=1000000000 by omega) ?_;intro Yk acg afc xd;rw[aa0])
  |(refine jL gK (fy.own (l:=[J (w:Nat)]) gK (List.Mem.head _) (Dt _) 1) (.there (.there .here)) (show w+1<=1000000000 by omega) ?_;intro fY dD CO aeF;rw[apX])
  |(refine jL At (fy.own (l:=(xR (w:Nat)).l) At (List.Mem.head _) apv 1) (.there .here) (show w+1<=1000000000 by omega) ?_;intro Yl ach CP aeG;rw[apL])
  |(exact cC (X:=Nat×(Option Addr×Nat)×(Option Addr×Nat)×(Option Addr×Nat)) (w+1,(Yl,ach),(fY,dD),(Yk,acg)) (by show n-(w+1)<n-w;omega) ⟨by show w+1<=n;omega,⟨CP,aeG⟩,⟨CO,aeF⟩,⟨afc,xd⟩⟩ ⟨rfl,rfl,rfl,rfl,rfl,rfl,rfl,eD S,trivial⟩ ⟨rfl,rfl,rfl,rfl,rfl,rfl,trivial⟩)
  |refine eg ?_
  |(refine eh ?_ ?_<;>(try with_reducible intro ab)<;>(try(exfalso;omega)))
  |with_reducible intro r)<;>(try conv=>whnf))):P:=h
section
theorem aqu {c:cr} {cs:List Int} {bb:h9} {n:Nat} (aj:hP H c) (jV:fG H c.fY c.bB c.dD cs) (c3:l6 c cs) (CQ:D6 bb) (aB:bb.bt=(n:Int)) (aK:bb.cells=(c.bB:Int)/\bb.maps=c.maps/\bb.dj=c.dj/\bb.cF=c.cF)
  (U:∀x L,wQ H L n 0 0 x->x.c=tU c (fJ bb) cs n->x.m.c=c->x.m.la=fJ bb->K (.tuple #[.agg x.m.l.toArray,J 0]) (Y H w0 X (xZ x (L++M)))):
  a4 H w0 X M 11 #[.agg c.l.toArray,.agg bb.l.toArray] K Z:=by
 have kV:=TT CQ
 have lL:=kV.bt
 have C6:(fJ bb).bt=(n:Int):=aB
 generalize afW:fJ bb=la at*
 have rF:=kV.at_ la.size (by simp)
 have qC:=TQ la cs cs.length
 obtain⟨N,eC⟩:∃N,N=la.size.toNat:=⟨_,rfl⟩
 refine a7 XJ ?_
 intro az aF
 conv=>whnf
 repeat'((first
  |(refine akx CQ ?_;rw[afW])
  |refine aoX aj jV c3 ?_
  |refine ad1 aK ?_
  |refine ak9 aj c3 (fun br bz bf cN bA nv=>?_)
  |(refine ay.imp (aJ.trans (aJ.nil _ none 4 1) (aJ.trans (aJ.nil _ none 3 1) (aJ.nil _ none 78 19))) (aky kV jV (fun og=>?_));rw[<-eC])
  |refine ea ?_
  |(refine gs ?_ ?_<;>(try with_reducible intro ab)<;>(try(exfalso;omega)))
  |with_reducible intro r)<;>(try conv=>whnf))
 all_goals
  refine c9.on (X:=Nat×(Option Addr×Nat)×(Option Addr×Nat)×(Option Addr×Nat)) (fun x=> [(2,.p 2 0),(3,.p 3 0),(4,.p 4 0),(6,.p 6 0),(8,.p 8 0),(9,.p 9 0),(50,.v (J (n:Int))),(51,.v (J (x.1:Int)))]) (fun x=> [(2,25,c.l),(3,35,bb.l),(4,49,Gh.l),(6,40,la.l),(8,108,(m0 c br bz bf cN bA).l),(9,49,(aqr la c og N x.1 x.2.1.1 x.2.1.2 x.2.2.1.1 x.2.2.1.2 x.2.2.2.1 x.2.2.2.2).l)]) (fun x=>Y H az aF (sK og N (sJ la cs)::Wh x.2.1.1 x.2.1.2 x.1 (tS x.1)::Jw x.2.2.1.1 x.2.2.1.2 x.1 (sT x.1)::G3 x.2.2.2.1 x.2.2.2.2 x.1 (List.replicate x.1 true)::(.slice br 0 bz,.row 3 1 (is []))::(.slice bf cN bA,.row 3 1 (is (mu c c.main [])))::M)) (fun x=>x.1<=n/\(x.1<=x.2.1.2/\(0<x.2.1.2->∃b,x.2.1.1=some ⟨b,0,none⟩))/\(x.1<=x.2.2.1.2/\(0<x.2.2.1.2->∃b,x.2.2.1.1=some ⟨b,0,none⟩))/\(x.1<=x.2.2.2.2/\(0<x.2.2.2.2->∃b,x.2.2.2.1=some ⟨b,0,none⟩))) (fun x=>n-x.1) (0,(none,0),(none,0),(none,0)) ⟨cY _,⟨Nat.le_refl _,fun h=>absurd h bC⟩,⟨Nat.le_refl _,fun h=>absurd h bC⟩,⟨Nat.le_refl _,fun h=>absurd h bC⟩⟩ ⟨rfl,rfl,rfl,rfl,rfl,rfl,(congrArg (fun x=>cD.v (J x)) aB),rfl,trivial⟩ ⟨rfl,rfl,rfl,rfl,rfl,rfl,trivial⟩ ?_
  intro⟨w,⟨gm,hj⟩,⟨eU,ci⟩,⟨ed,bp⟩⟩ iC ⟨O,V,aa,ag⟩
  dsimp only at O V aa ag|-
  conv=>whnf
  refine ba.dec (fun cc=>?_) (fun cc=>?_)
  ·have au:w<n:=by omega
   conv=>whnf
   exact asX
  ·have au:w=n:=by omega
   subst au
   have sF:1<=w:=by omega
   obtain⟨bO,iN⟩:=V.2 S
   have vT:(sJ la cs).length=N:=by unfold sJ;rw[qC,eC]
   have rD:(tS w).length=w:=by simp only[tS,kz,B3]
   conv=>whnf
   repeat'((first
    |refine aei [sK og N (sJ la cs),Wh gm hj w (tS w),Jw eU ci w (sT w),G3 ed bp w (List.replicate w true)] rfl aj c3 nv (.tail _ (.tail _ (.tail _ (.tail _ (.head _))))) (.tail _ (.tail _ (.tail _ (.tail _ (.tail _ (.head _)))))) (fun e af aP=>?_) (fun g s q aE gY aP=>?_)
    |refine iP iN 0 rfl (show 0<w by omega) ?_
    |refine zE iN (.there .here) (show 0<(tS w).length by omega) ?_
    |refine zE iN (.there (.there .here)) (show 0<(tS w).length by omega) ?_
    |refine hb Lt W ?_
    |refine ea ?_
    |(refine gs ?_ ?_<;>(try with_reducible intro ab)<;>(try(exfalso;first|contradiction|omega)))
    |with_reducible intro r)<;>(try conv=>whnf))
   all_goals first
    |exact Rt (M:=M) (cs:=cs) (L:=[(.slice br 0 bz,.row 3 1 (is [])),(.slice bf cN bA,.row 3 1 (is (mu c c.main [])))]) (g:=m0 c br bz bf cN bA) (s:=j3) (cP:=true) aj c3 kV C6 ⟨V.1,V.2⟩ aa ag vT S (aeb c3 nv) (.inl ⟨aP,rfl,rfl,rfl,by subst nv;rfl⟩) (List.Sublist.refl _) U
    |exact Rt (M:=M) (cs:=cs) (L:=aE) (g:=g) (s:=s) (got:=q) (cP:=false) (e:=0) aj c3 kV C6 ⟨V.1,V.2⟩ aa ag vT S gY (.inr ⟨aP,rfl,rfl⟩) (.cons _ (.cons _ (List.Sublist.refl _))) U
end
end Go.Proofs.YtcflcebplhdcpaaGreat
