/- Lemmas, part 51; each states its own conditions. -/
import Derived.Test.YtcflcebplhdcpaaGreatL50
namespace Go.Proofs.YtcflcebplhdcpaaGreat
open Go.RowKit
set_option linter.unusedSimpArgs false
set_option linter.unusedVariables false
set_option maxRecDepth 100000
set_option maxHeartbeats 16000000
variable{H w0:World}{X:Nat->Prop}{M:aw}{K:Value->an->Prop}{Z:bF}
theorem asL {P:Prop} (h:P:=by
 repeat'((first
  |(exact cA U)
  |refine eg ?_
  |(refine eh ?_ ?_<;>(try with_reducible intro ab)<;>(try(exfalso;first|contradiction|omega)))
  |with_reducible intro r)<;>(try conv=>whnf))):P:=h
section
theorem hS.mn{ck:Type}{E:World}{fZ:ck->List Value}{A:Option Addr}{n:Nat}{l:List ck}(h:hS H fZ A n l)(a2:dc H M E):hS E fZ A n l:=⟨a2.rd h.rd,h.len,h.dB⟩
theorem vu.mn{E:World}{x:gi}(h:vu H x)(a2:dc H M E):vu E x:=by
 obtain⟨O,V,aa,ag,a6,bU,dh,l,cT,fz⟩:=h
 exact⟨O.mn a2,fun y bV=>⟨(V y bV).got.mn a2,(V y bV).log.mn a2,(V y bV).steps.mn a2,(V y bV).gone.mn a2⟩,aa.mn a2,ag.mn a2,a6.mn a2,a2.fs bU,dh.mn a2,l,cT,fz.mn a2⟩
def ahj(b1:Nat):Value×aY:=(.slice (some ⟨b1,0,none⟩) 2 2,.row 60 4 [J 1,J 7,J 0,J 0,J 17,J 0,J 0,J 0])
def abF(b1 b2:Nat):Value×aY:=(.slice (some ⟨b2,0,none⟩) 1 1,.row 63 3 [J 0,J 0,.slice (some ⟨b1,0,none⟩) 2 2])
theorem Hi{E:World}{b1 b2:Nat}(a2:dc H M E)(O:ahj b1∈M)(V:abF b1 b2∈M):nG E (oi b1 b2) []:=by
 obtain⟨j2,_⟩:=a2.row _ _ _ _ _ _ O
 obtain⟨lU,_⟩:=a2.row _ _ _ _ _ _ V
 refine⟨⟨rfl,by show(1:Nat)<=9223372036854775807;decide,fun i hi=>?_,fun i hi=>?_⟩,.inl rfl,rfl,cY _,Nat.le_refl _⟩
 ·obtain rfl:i=0:=by have:i<1:=hi;omega
  refine⟨b2,0,rfl,fun q v ah=>?_⟩
  obtain⟨b,o,e,_,aj⟩:=lU.at_ ah
  injection e with e
  injection e with e1 e2
  subst e1 e2
  simpa using aj
 ·obtain rfl:i=0:=by have:i<1:=hi;omega
  exact⟨j2,rfl,by show(2:Nat)<=9223372036854775807;decide⟩
def ahi:List fe:=[⟨1,7,0,0⟩,⟨17,0,0,0⟩]
theorem acr:wJ ahi [0,1]:=fun k U=>by
 have U:k<2:=U
 rcases(by omega:k=0\/k=1) with rfl|rfl
 ·exact .inr ⟨⟨1,7,0,0⟩,rfl,by decide⟩
 ·exact .inr ⟨⟨17,0,0,0⟩,rfl,by decide⟩
theorem Jl(b1 b2:Nat):l6 (oi b1 b2) []:=by
 refine⟨⟨Nat.le_refl 1,by show(1:Nat)<=32;decide⟩,⟨my 0,by show(0:Int)<1;decide⟩,cY _,fun x aW=>(nomatch aW),by show(0:Int)<=0/\(0:Int)<=8;decide,by show(0:Int)<=0/\(0:Int)<=8;decide,by show(0:Int)<=0/\(0:Int)<=8;decide,fun b ab=>?_,rfl⟩
 obtain rfl:b=⟨0,0,some ⟨b1,0,none⟩,2,2,[⟨1,7,0,0⟩,⟨17,0,0,0⟩]⟩:=by simpa[oi] using ab
 refine⟨by show(0:Int)<=0/\(0:Int)<=0/\(0:Int)<=16;decide,by show 0<2/\2<=400;decide,⟨[0,1],⟨rfl,rfl,by decide⟩,acr⟩,fun i hi=>?_,fun i hi=>?_⟩
 ·simp only[mz,sa,or_false] at hi
  rcases hi with rfl|rfl<;>decide
 ·simp only[mz,sa,or_false] at hi
  rcases hi with rfl|rfl
  ·exact(NU rfl).2 bC
  ·exact trivial
theorem ad5(b1 b2:Nat):yd (oi b1 b2) ((1:Nat):Int) EJ:=⟨⟨⟨by decide,by decide,by decide,by decide,by decide,by decide,by decide,by decide⟩,.inl rfl,by decide,by decide⟩,rfl,rfl,rfl,rfl,rfl⟩
theorem LS(b1 b2:Nat):yd (oi b1 b2) ((2:Nat):Int) ux:=⟨⟨⟨by decide,by decide,by decide,by decide,by decide,by decide,by decide,by decide⟩,.inl rfl,by decide,by decide⟩,rfl,rfl,rfl,rfl,rfl⟩
theorem UH(E:World):uf E none 0 0 []:=⟨.inl rfl,rfl,Nat.le_refl _,by decide⟩
theorem anj{c:cr}{bb:h9}{uU:Value}{most:Int}(ad:most<0)(U:K (.tuple #[.agg Gh.l.toArray,J 1]) (Y H w0 X M)):a4 H w0 X M 6 #[.agg c.l.toArray,.agg bb.l.toArray,uU,J most] K Z:=by
 refine a7 s0 ?_
 intro az aF
 conv=>whnf
 exact asL
end
section
theorem Wt{x:gi}{bb:h9}{b1 b2:Nat}(h:vu H x)(ar:F9 bb x.c=true)(aj:x.m.c=oi b1 b2)(kV:x.m.la=fJ bb)(o2:0<=(fJ bb).count)(U:K (.agg (Bv 0 7 1).toArray) (Y H w0 X M)):a4 H w0 X M 13 #[.agg x.m.dL.l.toArray] K Z:=by
 simp only[F9,e3,beq_iff_eq,yg] at ar
 obtain⟨O,V,aa,ag,a6⟩:=ar
 have ag:x.mem.getD (fJ bb).count.toNat 0=1:=ag
 have V:x.m.value=7:=V
 have cc:(fJ bb).count.toNat<x.mem.length:=by
  rcases pB (fJ bb).count.toNat x.mem.length with ai|ai
  ·exact ai
  ·rw[show x.mem.getD (fJ bb).count.toNat 0=0 by simp[List.getD,List.getElem?_eq_none ai]] at ag
   cases ag
 have ad:=h.mem.len
 refine apT h O aa (by rw[aj];rfl) (by rw[aj];rfl) (by rw[aj];rfl) (by rw[aj];rfl) (fun f aK=>?_) (by rw[kV];omega) (by rw[kV,ag,V];exact U)
 have:=a6 f.bE (ra.2 ⟨f,aK,rfl⟩)
 have this:(!f.fail)=true:=this
 simpa using this
theorem UK{b o:Nat}{s:cm}{gG hl j1 p3:Int}(aj:∀q v,s.l[q]?=some v->H.cell? ⟨b,o+q,none⟩=some v)(af:[s.o0,s.o1,s.aQ,s.bl]=[gG,hl,j1,p3]):∀q v,[J gG,J hl,J j1,J p3][q]?=some v->H.cell? ⟨b,o+11+q,none⟩=some v:=by
 injection af with e0 af
 injection af with e1 af
 injection af with e2 af
 injection af with cR af
 subst e0 e1 e2 cR
 intro q v ah
 match q,ah with
 |0,ah=>cases ah;exact aj 11 _ rfl
 |1,ah=>cases ah;exact aj 12 _ rfl
 |2,ah=>cases ah;exact aj 13 _ rfl
 |3,ah=>cases ah;exact aj 14 _ rfl
theorem asu{l:List eP}(h:(l.map fun y=> [y.s.o0,y.s.o1,y.s.aQ,y.s.bl])=[[14,0,1,7],[9,1,0,0]]):∃a b,l=[a,b]/\[a.s.o0,a.s.o1,a.s.aQ,a.s.bl]=[14,0,1,7]/\[b.s.o0,b.s.o1,b.s.aQ,b.s.bl]=[9,1,0,0]:=by
 rcases l with _|⟨a,_|⟨b,_|⟨c,l⟩⟩⟩
 ·cases h
 ·injection h with O h
  cases h
 ·simp only[vn,List.map_nil] at h
  injection h with O h
  injection h with V h
  exact⟨a,b,rfl,O,V⟩
 ·injection h with O h
  injection h with V h
  cases h
theorem aa1(U:K (.bool true) (Y H w0 X [])):a4 H w0 X [] 5 #[] K Z:=by
 refine a7 uo ?_
 intro az aF
 conv=>whnf
 repeat'((first
  |(refine hb ads W ?_;(conv=>whnf);refine⟨by rfl,fun b1=>?_⟩)
  |(refine hb adq W ?_;(conv=>whnf);refine⟨by rfl,fun b2=>?_⟩)
  |(refine hb vG W ?_;(conv=>whnf);refine⟨by rfl,fun bx=>?_⟩)
  |refine ay.fO s0.dg (fun E w fV a2=>FW (c:=oi b1 b2) (cs:=[]) (bb:=EJ) (n:=1) (R:=[]) (most:=100) (Hi a2 (.tail _ (.head _)) (.head _)) (Jl b1 b2) (ad5 b1 b2) (Je (UH E) bC) (fun e af=>nomatch af) bC bC (fun x1 Vd fU YB fw O bz gb V=>⟨_,rfl,fun D9 Ir e1=>?_⟩))
  |refine ay.fO s0.dg (fun BU w fV AH=>FW (c:=oi b1 b2) (cs:=[]) (bb:=ux) (n:=2) (R:=[]) (most:=1000) (uU:= .slice (some ⟨bx,0,none⟩) 3 3) (AH.si (Ir.si (Hi a2 (.tail _ (.head _)) (.head _)))) (Jl b1 b2) (LS b1 b2) (Je (l:=U6) ⟨(AH.row _ _ _ _ _ _ (.head _)).1,rfl,Nat.le_refl _,by decide⟩ bC) (fun e af=>nomatch af) bC bC (fun fL Ve cX YC gV aa bA dd ag=>⟨_,rfl,fun Ea Is e2=>?_⟩))
  |refine anj (c:=oi b1 b2) (bb:=ux) bC ?_
  |refine ay.fO s0.dg (fun Yr w fV yW=>FW (c:=oi b1 b2) (cs:=[]) (bb:=ux) (n:=2) (R:=[]) (most:=3) (yW.si (Is.si (AH.si (Ir.si (Hi a2 (.tail _ (.head _)) (.head _)))))) (Jl b1 b2) (LS b1 b2) (Je (UH Yr) bC) (fun e af=>nomatch af) bC bC (fun bT axq aui auk j5 a6 c7 dN bU=>⟨_,rfl,fun aug M4 cR=>?_⟩))
  |refine ay.fO XJ.dg (fun auh w fV ko=>WH (c:=oi b1 b2) (cs:=[]) (bb:=ux) (n:=2) (ko.si (M4.si (yW.si (Is.si (AH.si (Ir.si (Hi a2 (.tail _ (.head _)) (.head _)))))))) (Jl b1 b2) (LS b1 b2) _ _ _ _ _ (fun e af=>nomatch af) (fun pr auj _ dh cT fa dA=>⟨_,rfl,fun BV M5 dR=>?_⟩))
  |refine ea ?_
  |with_reducible intro r)<;>(try conv=>whnf))
 obtain⟨J5,SO,j2⟩:=K4 (ao6 b1 b2)
 obtain rfl:x1.c=J5:=V.EN (FX _ _ _ _ _ SO)
 obtain⟨J6,SP,lU⟩:=K4 (ao8 b1 b2)
 obtain rfl:fL.c=J6:=ag.EN (FX _ _ _ _ _ SP)
 obtain⟨DV,SQ,rQ⟩:=K4 (ao9 b1 b2)
 obtain rfl:bT.c=DV:=bU.EN (FX _ _ _ _ _ SQ)
 clear SO SP SQ
 rw[e3] at j2 lU rQ
 have s1:vu BV x1:=((((((JD Ir O (V.bp JB)).mn AH).mn Is).mn yW).mn M4).mn ko).mn M5
 have aV:vu BV fL:=((((JD Is aa (ag.bp JB)).mn yW).mn M4).mn ko).mn M5
 have aW:zU H BV:=((e1.trans e2).trans cR).trans dR
 have s9:(x1.m.dL.ne:Int)=4:=by have:=eq_of_beq j2.2;have h:=O.ao.1;have this:x1.ao.length=4:=this;show(x1.m.ne:Int)=4;omega
 have ri:x1.m.dL.cP=true:=by have:=j2.1;simp only[F9,e3] at this;exact this.1
 have sd:(fL.m.dL.ev:Int)=2:=by show(fL.m.ev:Int)=2;have:=aa.al.2.1;omega
 have Af:(fL.m.dL.b6:Int)=2:=by show(fL.m.b6:Int)=2;have:=aa.bN.2.1;omega
 have uo:(pr.m.ec:Int)=2:=by have:=dh.ok.bt.2.1;omega
 have uq:bT.m.dL.cP=true:=rQ.1
 have OP:=rQ.2
 rw[e3] at OP
 have yu:bT.m.dL.err=11:=eq_of_beq OP.1
 have aaW:(bT.m.dL.ne:Int)=3:=by have:=eq_of_beq OP.2;have h:=a6.ao.1;have this:bT.ao.length=3:=this;show(bT.m.ne:Int)=3;omega
 have OO:=lU.2
 rw[e3] at OO
 have GZ:hS BV (fun b:Bool=> [Value.bool b]) fL.m.ed fL.m.ev [false,true]:=by have:=aV.al;rw[show fL.al=[false,true] from eq_of_beq OO.1] at this;exact this
 have QE:hS BV kX fL.m.eU fL.m.b6 [0,0]:=by have:=aV.cf;rw[show fL.cf=[0,0] from eq_of_beq OO.2] at this;exact this
 obtain⟨p,q,agh,bh,bd⟩:=asu (l:=pr.ct) (by rw[<-apa b1 b2,<-cT];show _=(pr.ct.map eP.bE).map _;rw[wO];rfl)
 have KH:hS BV cm.l pr.m.gm pr.m.ec [p.s,q.s]:=⟨by have:=(M5.row _ _ _ _ _ _ (.head _)).1;rw[agh] at this;exact this,by show pr.m.ec=2;omega,by omega⟩
 have QG:=KH.len
 have QF:=GZ.len
 have aaV:=QE.len
 repeat'((first
  |refine Wt (x:=x1) s1 j2.1 bz gb bC ?_
  |refine Wt (x:=fL) aV lU.1 bA dd bC ?_
  |refine Wg (e:=0) (v:=7) (t:=1) ?_
  |refine al9 (A:=none) ?_
  |refine ay.asv aW (Wg (e:=8) (v:=0) (t:=0) ⟨_,rfl,?_⟩)
  |refine je (A:=fL.m.ed) (fun b:Bool=> [Value.bool b]) (fun _=>rfl) GZ.rd QF 0 rfl bC bC (fun b o aj=>?_)
  |refine je (A:=fL.m.ed) (fun b:Bool=> [Value.bool b]) (fun _=>rfl) GZ.rd QF 1 rfl bC bC (fun b o aj=>?_)
  |refine je (A:=fL.m.eU) kX (fun _=>rfl) QE.rd aaV 1 rfl bC bC (fun b o aj=>?_)
  |refine tB (l:=[Value.bool false]) av 0 rfl rfl aD W ?_
  |refine tB (l:=[Value.bool true]) av 0 rfl rfl aD W ?_
  |refine tB (l:=kX 0) av 0 rfl rfl aD W ?_
  |refine je (A:=pr.m.gm) cm.l (fun _=>rfl) KH.rd QG 0 rfl (show 0<2 by decide) bC (fun b o aj=>?_)
  |refine je (A:=pr.m.gm) cm.l (fun _=>rfl) KH.rd QG 1 rfl (show 1<2 by decide) bC (fun b o aj=>?_)
  |refine iZ [J 14,J 0,J 1,J 7] (UK aj bh) aD W W ?_
  |refine iZ [J 9,J 1,J 0,J 0] (UK aj bd) aD W W ?_
  |exact cA U
  |refine ba.IA ri ?_
  |refine ba.IA uq ?_
  |refine ea ?_
  |(refine gs ?_ ?_<;>(try with_reducible intro dQ)<;>(try(exfalso;first|contradiction|omega|exact absurd yu dQ|exact absurd dQ (by rw[ri];decide)|exact absurd dQ (by rw[uq];decide))))
  |with_reducible intro r)<;>(try conv=>whnf))
theorem aa2:P7:=fun H w0 X M K Z U=>ay.anchor [] M uo.dg rfl (fun E w fV a2=>aa1 (hR.to M rfl U))
end
section
open Go.ChangeShapes Go.WideShapes Go.RowKit Go.Deep
def ax1(cs:List Value):Prop:=∀c∈cs,∃z,c= J z/\(Lit.int .i64 z).wf=true
def Flat(P:Program)(t:TypeId):Prop:=
 ∀ ⦃j6:Type⦄ ⦃fZ:TypeId×Value->j6⦄ ⦃w:World⦄ ⦃base:Nat⦄ ⦃spare:Nat->Bool⦄ ⦃held:Bool⦄ ⦃fuel:Nat⦄ ⦃cs:List Value⦄ ⦃x:DataW j6×List MemPlace⦄,DataW.trod fZ P w base spare held fuel t cs=some x->ax1 cs
theorem ayg{P:Program}{t:TypeId}(bs:P.underlying t=some (.int .i64)):Flat P t:=by
 intro j6 fZ w base spare held fuel cs x h
 obtain⟨n,rfl,_,au⟩:=DataW.trod_int bs h
 intro c aj
 rw[nK.1 aj]
 exact⟨n,rfl,au⟩
def ayd(P:Program)(fs:Array Field)(n:Nat):Bool:=(List.range n).all fun i=>fs.toList.any fun f=>decide (f.offset<=i)&&decide (i<f.offset+P.cellsOf f.type)
theorem ayh{P:Program}{t:TypeId}{fs:Array Field}(bs:P.underlying t=some (.struct fs))(aj:ayd P fs (P.cellsOf t)=true)(aK:∀f∈fs.toList,Flat P f.type):Flat P t:=by
 intro j6 fZ w base spare held fuel cs x h
 obtain⟨fT,n,_,_,hlen,axW,aZ⟩:=DataW.trod_struct bs h
 intro c pS
 obtain⟨i,hi,rfl⟩:=List.getElem_of_mem pS
 have O:=yg.1 aj i (List.mem_range.2 S)
 obtain⟨f,ax9,V⟩:=B0.1 O
 simp only[e3,decide_eq_true_eq] at V
 obtain⟨j,a9,ayj⟩:=List.getElem_of_mem ax9
 have ayl:j<fs.size:=by simpa using a9
 have ayk:fs[j]?=some f:=by rw[Array.getElem?_eq_getElem ayl];simpa using ayj
 have aa:=aZ j f ayk
 obtain⟨y,bV⟩:∃y,fT[j]?=some y:=⟨_,List.getElem?_eq_getElem S⟩
 rw[bV] at aa
 refine aK f ax9 aa _ ?_
 refine List.mem_of_getElem? (i:=i-f.offset) ?_
 rw[List.getElem?_take_of_lt S,qo,Nat.add_sub_cancel' V.1,List.getElem?_eq_getElem]
theorem ayw{cs:List Value}(h:ax1 cs):∃dG:List Int,cs=is dG/\∀z∈dG,(Lit.int .i64 z).wf=true:=by
 induction cs with
 |nil=>exact⟨[],rfl,fun _ h=>by simp at h⟩
 |cons c cs cy=>
  obtain⟨dG,rfl,b3⟩:=cy (fun x aW=>h x (by simp[aW]))
  obtain⟨z,rfl,au⟩:=h c (by simp)
  exact⟨z::dG,rfl,fun x aW=>by rcases mz.1 aW with rfl|aW;exact au;exact b3 x aW⟩
theorem ayG{z:Int}(h:(Lit.int .i64 z).wf=true): -9223372036854775808<=z/\z<=9223372036854775807:=by
 simp[Lit.wf,IntKind.min,IntKind.max,IntKind.bits,IntKind.signed] at h
 omega
section
variable{j6:Type}{fZ:TypeId×Value->j6}{P:Program}{w:World}{base:Nat}{spare:Nat->Bool}{held:Bool}
theorem ayx{a:Addr}{k:Nat}:∀(len:Nat),(∀i,i<len->∃cs,(w.cells? base (a.add (i*k)) k=some cs)/\ax1 cs)->
  ∃dG:List Int,dG.length=len*k/\(∀z∈dG,(Lit.int .i64 z).wf=true)/\∀j u,(is dG)[j]?=some u->w.cell? (a.add j)=some u:=by
 intro len
 induction len with
 |zero=>intro _;exact⟨[],by simp,fun _ h=>by simp at h,fun j u h=>by simp[is] at h⟩
 |succ len cy=>
  intro h
  obtain⟨dG,ai,au,aj⟩:=cy (fun i hi=>h i S)
  obtain⟨cs,jV,aB⟩:=h len S
  obtain⟨_,gw,kE⟩:=World.cells?_some jV
  obtain⟨fT,rfl,bV⟩:=ayw aB
  refine⟨dG++fT,?_,?_,?_⟩
  ·rw[gC,ai,kA,Nat.one_mul];congr 1;simpa using gw
  ·intro z b3;rcases iw.1 b3 with b3|b3;exact au z b3;exact bV z b3
  ·intro j u aS
   rw[Nk] at aS
   by_cases a9:j<(is dG).length
   ·rw[GP a9] at aS;exact aj j u aS
   ·rw[GQ S] at aS
    have AN:j-(is dG).length<k:=by
     have:=(l0.1 aS).1
     rw[gw] at this;exact this
    have:=kE _ AN
    rw[Go.Deep.add_add] at this
    rw[awy,ai] at this aS a9
    rw[show len*k+(j-len*k)=j by omega] at this
    rw[this,aS]
theorem ayN {t e:TypeId} {k:Nat} {fuel:Nat} {A:Option Addr} {len cap:Nat} {x:DataW j6×List MemPlace} (bs:P.underlying t=some (.slice e)) (gY:Flat P e) (hC:P.cellsOf e=k) (U:0<k)
  (h:DataW.trod fZ P w base (fun _=>true) held fuel t (Value.slice A len cap).cells.toList=some x):∃dG,Qf k w A len cap dG:=by
 rcases open_slice bs h with⟨jV,_⟩|⟨a,l,c,m,n,D,ax7,jV,ab,ai,ad,axV,aW,hi⟩
 ·simp[Value.cells] at jV
  obtain⟨rfl,rfl,rfl⟩:=jV
  exact⟨[],by simp,.inl rfl,fun _ h=>by simp at h,Nat.le_refl _,by omega⟩
 ·simp[Value.cells] at jV
  obtain⟨rfl,rfl,rfl⟩:=jV
  simp only[dm] at axV
  subst axV
  rw[hC] at hi
  obtain⟨dG,axX,ax2,uP⟩:=ayx (w:=w) (base:=base) (a:=a) (k:=k) len (fun i hU=>by
   obtain⟨gp,O,V⟩:=hi i S
   exact⟨gp,O,gY V⟩)
  refine⟨dG,axX,?_,fun z b3=>ayG (ax2 z b3),ai,ad⟩
  refine dU.top (B:=a.block+1) ?_
  rcases Nat.eq_zero_or_pos len with aT|bh
  ·left
   subst aT
   have:dG=[]:=q8 (by simpa using axX)
   rw[this];rfl
  ·have C1:0<dG.length:=by rw[axX];exact Nat.mul_pos bh U
   have xt:a.spot=none:=by
    have:=World.cell?_spot (uP 0 _ (Nl dG 0 C1))
    simpa[Addr.add] using this
   obtain⟨b,off,q0⟩:=a
   simp only at xt
   subst xt
   refine .inr ⟨b,off,rfl,by simp,fun j u aS=>?_⟩
   have:=uP j u aS
   rw[Addr.add_lit] at this
   exact this
end
def ax3(x:Int):List Value:=[J x]
theorem aya:∀(l:List Int),l.flatMap ax3=is l
 |[]=>rfl
 |x::l=>by rw[qn,aya l];rfl
section
variable{j6:Type}{fZ:TypeId×Value->j6}{P:Program}{w:World}{base:Nat}{spare:Nat->Bool}{held:Bool}{fuel:Nat}
theorem ax5{t e:TypeId}{c:Value}{x:DataW j6×List MemPlace}(bs:P.underlying t=some (.slice e))(h:DataW.trod fZ P w base spare held fuel t [c]=some x):∃a len cap,c= .slice a len cap/\len<=cap/\cap<=9223372036854775807:=by
 rcases open_slice bs h with⟨jV,_⟩|⟨a,l,dD,m,n,D,ax7,jV,ab,ai,ad,axV,aW,hi⟩
 ·injection jV with jV _
  exact⟨none,0,0,jV,Nat.le_refl _,by omega⟩
 ·injection jV with jV _
  exact⟨some a,l,dD,jV,ai,ad⟩
theorem ayB{ck:Type}(mg:ck->List Value)(k:Nat)(axM:ck->Prop){a:Addr}:∀(len:Nat),(∀i,i<len->∃cs y,w.cells? base (a.add (i*k)) k=some cs/\cs=mg y/\axM y)->
  ∃xs:List ck,xs.length=len/\(∀y∈xs,axM y)/\(xs.flatMap mg).length=len*k/\∀j u,(xs.flatMap mg)[j]?=some u->w.cell? (a.add j)=some u:=by
 intro len
 induction len with
 |zero=>intro _;exact⟨[],rfl,fun _ h=>by simp at h,by simp,fun j u h=>by simp at h⟩
 |succ len cy=>
  intro h
  obtain⟨xs,ai,au,U,aj⟩:=cy (fun i hi=>h i S)
  obtain⟨cs,y,jV,rfl,bV⟩:=h len S
  obtain⟨_,gw,kE⟩:=World.cells?_some jV
  refine⟨xs++[y],by simp[ai],?_,?_,?_⟩
  ·intro z b3
   rcases iw.1 b3 with b3|b3
   ·exact au z b3
   ·rw[nK.1 b3];exact bV
  ·rw[zX,gC,U,kA,Nat.one_mul]
   simp[gw]
  ·intro j u aS
   rw[zX,qn,List.flatMap_nil,List.append_nil] at aS
   by_cases a9:j<(xs.flatMap mg).length
   ·rw[GP a9] at aS;exact aj j u aS
   ·rw[GQ S] at aS
    have AN:j-(xs.flatMap mg).length<k:=by
     have:=(l0.1 aS).1
     rw[gw] at this;exact this
    have:=kE _ AN
    rw[Go.Deep.add_add] at this
    rw[U] at this aS a9
    rw[show len*k+(j-len*k)=j by omega] at this
    rw[this,aS]
theorem ax4 {ck:Type} (mg:ck->List Value) (k:Nat) (U:0<k) (axM:ck->Prop) {t e:TypeId} {A:Option Addr} {len cap:Nat} {x:DataW j6×List MemPlace} (bs:P.underlying t=some (.slice e)) (hC:P.cellsOf e=k)
  (a2:∀f cs (x:DataW j6×List MemPlace),DataW.trod fZ P w base (fun _=>true) held f e cs=some x->∃y,cs=mg y/\axM y)
  (h:DataW.trod fZ P w base (fun _=>true) held fuel t [Value.slice A len cap]=some x):∃xs:List ck,len=xs.length/\(∀y∈xs,axM y)/\dU w w.heap.size A (xs.flatMap mg)/\len<=cap/\cap<=9223372036854775807:=by
 rcases open_slice bs h with⟨jV,_⟩|⟨a,l,c,m,n,D,ax7,jV,ab,ai,ad,axV,aW,hi⟩
 ·simp at jV
  obtain⟨rfl,rfl,rfl⟩:=jV
  exact⟨[],rfl,fun _ h=>by simp at h,.inl rfl,Nat.le_refl _,by omega⟩
 ·simp at jV
  obtain⟨rfl,rfl,rfl⟩:=jV
  simp only[dm] at axV
  subst axV
  rw[hC] at hi
  obtain⟨xs,axX,ax2,aym,uP⟩:=ayB (w:=w) (base:=base) (a:=a) mg k axM len (fun i hU=>by
   obtain⟨gp,O,V⟩:=hi i S
   obtain⟨y,aa,ag⟩:=a2 _ _ _ V
   exact⟨gp,y,O,aa,ag⟩)
  refine⟨xs,axX.symm,ax2,?_,ai,ad⟩
  rcases Nat.eq_zero_or_pos len with aT|bh
  ·left
   subst aT
   have:xs=[]:=q8 axX
   rw[this];rfl
  ·have C1:0<(xs.flatMap mg).length:=by rw[aym];exact Nat.mul_pos bh U
   have xt:a.spot=none:=by
    have:=World.cell?_spot (uP 0 _ (List.getElem?_eq_getElem C1))
    simpa[Addr.add] using this
   obtain⟨b,off,q0⟩:=a
   simp only at xt
   subst xt
   have CO:∀j u,(xs.flatMap mg)[j]?=some u->w.cell? ⟨b,off+j,none⟩=some u:=fun j u aS=>by
    have:=uP j u aS
    rw[Addr.add_lit] at this
    exact this
   exact .inr ⟨b,off,rfl,World.block_lt_of_cell? w _ (CO 0 _ (List.getElem?_eq_getElem C1)),CO⟩
theorem ayn{cs:List Value}(h:cs.length=3):∃pI bz bA,cs=[pI,bz,bA]:=by
 match cs,h with
 |[pI,bz,bA],_=>exact⟨pI,bz,bA,rfl⟩
theorem ayo{cs:List Value}(h:cs.length=4):∃pI bz bA c7,cs=[pI,bz,bA,c7]:=by
 match cs,h with
 |[pI,bz,bA,c7],_=>exact⟨pI,bz,bA,c7,rfl⟩
theorem ayp{cs:List Value}(h:cs.length=6):∃pI bz bA c7 fa gW,cs=[pI,bz,bA,c7,fa,gW]:=by
 match cs,h with
 |[pI,bz,bA,c7,fa,gW],_=>exact⟨pI,bz,bA,c7,fa,gW,rfl⟩
theorem ayA{cs:List Value}{x:DataW j6×List MemPlace}(h:DataW.trod fZ Tryz.prog w base (fun _=>true) held fuel 3 cs=some x):∃y,cs=ax3 y/\True:=by
 obtain⟨e,q,_,_⟩:=DataW.trod_int Tryz.underlying3 h
 exact⟨e,q,trivial⟩
theorem ayz{cs:List Value}{x:DataW j6×List MemPlace}(h:DataW.trod fZ Tryz.prog w base (fun _=>true) held fuel 60 cs=some x):∃y,cs=iO y/\True:=by
 obtain⟨fT,n,_,_,hlen,axW,aZ⟩:=DataW.trod_struct Tryz.underlying60 h
 have hC:Tryz.prog.cellsOf 60=4:=by kernel_rfl
 obtain⟨pI,bz,bA,c7,rfl⟩:=ayo (hlen.trans hC)
 have bV:∀j,j<4->∃y,fT[j]?=some y:=fun j a9=>⟨_,List.getElem?_eq_getElem (by rw[axW];exact a9)⟩
 obtain⟨axY,axG⟩:=bV 0 S
 have k0:Tryz.prog.cellsOf 3=1:=by kernel_rfl
 have aT:DataW.trod fZ Tryz.prog w base (fun _=>true) held n 3 (List.take (Tryz.prog.cellsOf 3) (List.drop 0 [pI,bz,bA,c7]))=some axY:=(aZ 0 _ rfl).trans axG
 rw[k0] at aT
 simp only[List.drop_succ_cons,List.drop_zero,List.take_succ_cons,List.take_zero] at aT
 obtain⟨axZ,zN⟩:=bV 1 S
 have iY:Tryz.prog.cellsOf 3=1:=by kernel_rfl
 have O:DataW.trod fZ Tryz.prog w base (fun _=>true) held n 3 (List.take (Tryz.prog.cellsOf 3) (List.drop 1 [pI,bz,bA,c7]))=some axZ:=(aZ 1 _ rfl).trans zN
 rw[iY] at O
 simp only[List.drop_succ_cons,List.drop_zero,List.take_succ_cons,List.take_zero] at O
 obtain⟨Gq,BF⟩:=bV 2 S
 have hV:Tryz.prog.cellsOf 3=1:=by kernel_rfl
 have V:DataW.trod fZ Tryz.prog w base (fun _=>true) held n 3 (List.take (Tryz.prog.cellsOf 3) (List.drop 2 [pI,bz,bA,c7]))=some Gq:=(aZ 2 _ rfl).trans BF
 rw[hV] at V
 simp only[List.drop_succ_cons,List.drop_zero,List.take_succ_cons,List.take_zero] at V
 obtain⟨ax6,Xk⟩:=bV 3 S
 have oy:Tryz.prog.cellsOf 3=1:=by kernel_rfl
 have aa:DataW.trod fZ Tryz.prog w base (fun _=>true) held n 3 (List.take (Tryz.prog.cellsOf 3) (List.drop 3 [pI,bz,bA,c7]))=some ax6:=(aZ 3 _ rfl).trans Xk
 rw[oy] at aa
 simp only[List.drop_succ_cons,List.drop_zero,List.take_succ_cons,List.take_zero] at aa
 obtain⟨e0,bJ,_,_⟩:=DataW.trod_int Tryz.underlying3 aT
 injection bJ with bJ _
 subst bJ
 obtain⟨e1,m8,_,_⟩:=DataW.trod_int Tryz.underlying3 O
 injection m8 with m8 _
 subst m8
 obtain⟨e2,p8,_,_⟩:=DataW.trod_int Tryz.underlying3 V
 injection p8 with p8 _
 subst p8
 obtain⟨cR,wg,_,_⟩:=DataW.trod_int Tryz.underlying3 aa
 injection wg with wg _
 subst wg
 exact⟨⟨e0,e1,e2,cR⟩,rfl,trivial⟩
theorem ayy{cs:List Value}{x:DataW j6×List MemPlace}(h:DataW.trod fZ Tryz.prog w base (fun _=>true) held fuel 63 cs=some x):∃y:nj,cs=y.l/\(dU w w.heap.size y.eU (y.ins.flatMap iO)/\y.b6=y.ins.length/\y.b6<=9223372036854775807):=by
 obtain⟨fT,n,_,_,hlen,axW,aZ⟩:=DataW.trod_struct Tryz.underlying63 h
 have hC:Tryz.prog.cellsOf 63=3:=by kernel_rfl
 obtain⟨pI,bz,bA,rfl⟩:=ayn (hlen.trans hC)
 have bV:∀j,j<3->∃y,fT[j]?=some y:=fun j a9=>⟨_,List.getElem?_eq_getElem (by rw[axW];exact a9)⟩
 obtain⟨axY,axG⟩:=bV 0 S
 have k0:Tryz.prog.cellsOf 3=1:=by kernel_rfl
 have aT:DataW.trod fZ Tryz.prog w base (fun _=>true) held n 3 (List.take (Tryz.prog.cellsOf 3) (List.drop 0 [pI,bz,bA]))=some axY:=(aZ 0 _ rfl).trans axG
 rw[k0] at aT
 simp only[List.drop_succ_cons,List.drop_zero,List.take_succ_cons,List.take_zero] at aT
 obtain⟨axZ,zN⟩:=bV 1 S
 have iY:Tryz.prog.cellsOf 3=1:=by kernel_rfl
 have O:DataW.trod fZ Tryz.prog w base (fun _=>true) held n 3 (List.take (Tryz.prog.cellsOf 3) (List.drop 1 [pI,bz,bA]))=some axZ:=(aZ 1 _ rfl).trans zN
 rw[iY] at O
 simp only[List.drop_succ_cons,List.drop_zero,List.take_succ_cons,List.take_zero] at O
 obtain⟨Gq,BF⟩:=bV 2 S
 have hV:Tryz.prog.cellsOf 61=1:=by kernel_rfl
 have V:DataW.trod fZ Tryz.prog w base (fun _=>true) held n 61 (List.take (Tryz.prog.cellsOf 61) (List.drop 2 [pI,bz,bA]))=some Gq:=(aZ 2 _ rfl).trans BF
 rw[hV] at V
 simp only[List.drop_succ_cons,List.drop_zero,List.take_succ_cons,List.take_zero] at V
 obtain⟨e0,bJ,_,_⟩:=DataW.trod_int Tryz.underlying3 aT
 injection bJ with bJ _
 subst bJ
 obtain⟨e1,m8,_,_⟩:=DataW.trod_int Tryz.underlying3 O
 injection m8 with m8 _
 subst m8
 obtain⟨bf,cN,j1,p8,_,_⟩:=ax5 Tryz.underlying61 V
 subst p8
 obtain⟨ayI,ays,ayL,ayC,ayf,ayv⟩:=ax4 (ck:=fe) iO 4 S (fun _=>True) Tryz.underlying61 bP (fun f cs x aW=>ayz aW) V
 exact⟨⟨e0,e1,bf,cN,j1,ayI⟩,rfl,ayC,ays,jr ayf ayv⟩
theorem ayM{cs:List Value}{x:DataW j6×List MemPlace}(h:DataW.trod fZ Tryz.prog w base (fun _=>true) held fuel 25 cs=some x):∃(c:cr) (dG:List Int),cs=c.l/\nG w c dG:=by
 obtain⟨fT,n,_,_,hlen,axW,aZ⟩:=DataW.trod_struct Tryz.underlying25 h
 have hC:Tryz.prog.cellsOf 25=6:=by kernel_rfl
 obtain⟨pI,bz,bA,c7,fa,gW,rfl⟩:=ayp (hlen.trans hC)
 have bV:∀j,j<6->∃y,fT[j]?=some y:=fun j a9=>⟨_,List.getElem?_eq_getElem (by rw[axW];exact a9)⟩
 obtain⟨axY,axG⟩:=bV 0 S
 have k0:Tryz.prog.cellsOf 22=1:=by kernel_rfl
 have aT:DataW.trod fZ Tryz.prog w base (fun _=>true) held n 22 (List.take (Tryz.prog.cellsOf 22) (List.drop 0 [pI,bz,bA,c7,fa,gW]))=some axY:=(aZ 0 _ rfl).trans axG
 rw[k0] at aT
 simp only[List.drop_succ_cons,List.drop_zero,List.take_succ_cons,List.take_zero] at aT
 obtain⟨axZ,zN⟩:=bV 1 S
 have iY:Tryz.prog.cellsOf 23=1:=by kernel_rfl
 have O:DataW.trod fZ Tryz.prog w base (fun _=>true) held n 23 (List.take (Tryz.prog.cellsOf 23) (List.drop 1 [pI,bz,bA,c7,fa,gW]))=some axZ:=(aZ 1 _ rfl).trans zN
 rw[iY] at O
 simp only[List.drop_succ_cons,List.drop_zero,List.take_succ_cons,List.take_zero] at O
 obtain⟨Gq,BF⟩:=bV 2 S
 have hV:Tryz.prog.cellsOf 3=1:=by kernel_rfl
 have V:DataW.trod fZ Tryz.prog w base (fun _=>true) held n 3 (List.take (Tryz.prog.cellsOf 3) (List.drop 2 [pI,bz,bA,c7,fa,gW]))=some Gq:=(aZ 2 _ rfl).trans BF
 rw[hV] at V
 simp only[List.drop_succ_cons,List.drop_zero,List.take_succ_cons,List.take_zero] at V
 obtain⟨ax6,Xk⟩:=bV 3 S
 have oy:Tryz.prog.cellsOf 3=1:=by kernel_rfl
 have aa:DataW.trod fZ Tryz.prog w base (fun _=>true) held n 3 (List.take (Tryz.prog.cellsOf 3) (List.drop 3 [pI,bz,bA,c7,fa,gW]))=some ax6:=(aZ 3 _ rfl).trans Xk
 rw[oy] at aa
 simp only[List.drop_succ_cons,List.drop_zero,List.take_succ_cons,List.take_zero] at aa
 obtain⟨ayD,Xl⟩:=bV 4 S
 have nY:Tryz.prog.cellsOf 3=1:=by kernel_rfl
 have ag:DataW.trod fZ Tryz.prog w base (fun _=>true) held n 3 (List.take (Tryz.prog.cellsOf 3) (List.drop 4 [pI,bz,bA,c7,fa,gW]))=some ayD:=(aZ 4 _ rfl).trans Xl
 rw[nY] at ag
 simp only[List.drop_succ_cons,List.drop_zero,List.take_succ_cons,List.take_zero] at ag
 obtain⟨ayE,ayF⟩:=bV 5 S
 have rI:Tryz.prog.cellsOf 3=1:=by kernel_rfl
 have a6:DataW.trod fZ Tryz.prog w base (fun _=>true) held n 3 (List.take (Tryz.prog.cellsOf 3) (List.drop 5 [pI,bz,bA,c7,fa,gW]))=some ayE:=(aZ 5 _ rfl).trans ayF
 rw[rI] at a6
 simp only[List.drop_succ_cons,List.drop_zero,List.take_succ_cons,List.take_zero] at a6
 obtain⟨aub,awL,gG,bJ,_,_⟩:=ax5 Tryz.underlying22 aT
 subst bJ
 obtain⟨ax0,ayq,ayi,ayb,aye,ayt⟩:=ax4 (ck:=nj) nj.l 3 S (fun y:nj=>dU w w.heap.size y.eU (y.ins.flatMap iO)/\y.b6=y.ins.length/\y.b6<=9223372036854775807) Tryz.underlying22 bP (fun f cs x aW=>ayy aW) aT
 obtain⟨br,dI,hl,m8,_,_⟩:=ax5 Tryz.underlying23 O
 subst m8
 obtain⟨ayH,ayr,ayK,ayc,ax8,ayu⟩:=ax4 (ck:=Int) ax3 1 S (fun _=>True) Tryz.underlying23 bP (fun f cs x aW=>ayA aW) O
 obtain⟨e2,p8,_,_⟩:=DataW.trod_int Tryz.underlying3 V
 injection p8 with p8 _
 subst p8
 obtain⟨cR,wg,_,_⟩:=DataW.trod_int Tryz.underlying3 aa
 injection wg with wg _
 subst wg
 obtain⟨dR,Ji,_,_⟩:=DataW.trod_int Tryz.underlying3 ag
 injection Ji with Ji _
 subst Ji
 obtain⟨gj,ON,_,_⟩:=DataW.trod_int Tryz.underlying3 a6
 injection ON with ON _
 subst ON
 rw[aya] at ayc
 refine⟨⟨aub,awL,gG,br,dI,hl,e2,cR,dR,gj,ax0⟩,ayH,rfl,⟨ayq,jr aye ayt,fun i hi=>?_,fun i hi=>?_⟩,ayc,ayr,jr ax8 ayu,ax8⟩
 ·have hi:i<ax0.length:=hi
  have aW:∀p v,(ax0[i].l)[p]?=some v->(ax0.flatMap nj.l)[i*3+p]?=some v:=fun p v bh=>by
   have:=uF nj.l 3 (fun _=>rfl) ax0 i hi
   rw[<-this,py] at bh
   split at bh
   ·rwa [qo] at bh
   ·cases bh
  obtain⟨b,o,b0,ab,_⟩:=ayb.at_ (aW 0 _ rfl)
  refine⟨b,o,b0,fun q v ah=>?_⟩
  obtain⟨cu,fX,fE,_,aj⟩:=ayb.at_ (aW q v ah)
  have L5:=b0.symm.trans fE
  injection L5 with L5
  injection L5 with f1 gk
  subst f1 gk
  rw[yl]
  exact aj
 ·obtain⟨gX,gr,kT⟩:=ayi _ (fM hi)
  exact⟨by rw[C9];exact gX,gr,kT⟩
end
theorem ayJ:Flat Tryz.prog 65:=by
 have hi:Tryz.prog.underlying 3=some (.int .i64):=by kernel_rfl
 refine ayh (fs:=_) Tryz.underlying65 bP (fun f aK=>?_)
 simp only[mz,sa,or_false] at aK
 rcases aK with rfl|rfl|rfl<;>exact ayg hi
theorem W4:∀(n:Nat) (dG:List Int),dG.length=n*3->∃l:List e5,n=l.length/\is dG=l.flatMap iv
 |0,dG,h=>by
  have aT:dG=[]:=q8 (by simpa using h)
  exact⟨[],rfl,by rw[aT];rfl⟩
 |n+1,dG,h=>by
  match dG,h with
  |a::b::c::r,h=>
   obtain⟨l,ai,aK⟩:=W4 n r (by simp at h;omega)
   exact⟨⟨a,b,c⟩::l,by simp[<-ai],by rw[qn,<-aK];rfl⟩
  |[],h=>simp at h
  |[_],h=>simp at h;omega
  |[_,_],h=>simp at h;omega
def cr.val(c:cr):Value:= .agg c.l.toArray
def YA(w:World)(c:cr):Prop:=∃dG,nG w c dG
theorem ahp{w:World}{A:Option Addr}{n c:Nat}{dG:List Int}(h:Qf 3 w A n c dG):∃l,n<=200->uf w A n c l:=by
 obtain⟨O,V,_,ag,_⟩:=h
 obtain⟨l,ai,aK⟩:=W4 n dG O
 rw[aK] at V
 exact⟨l,fun aB=>⟨V,ai,ag,by omega⟩⟩
theorem axA{c:cr}{s:Int}{A:Option Addr}{n bp:Nat}{dG:List Int}{w:World}(aT:YA w c)(ar:0<=s/\s<=255)(V:Qf 3 w A n bp dG):
  Calls Tryz.prog 3 #[c.val,.int .u8 s,.slice A n bp] w fun e w'=>e= .returned (.bool true)/\Below w.heap.size w w':=by
 obtain⟨axL,aT⟩:=aT
 obtain⟨l,ai⟩:=ahp V
 exact ab4 fun K Z U=>aqt aa2 aT ar ai U
end
end Go.Proofs.YtcflcebplhdcpaaGreat
