/- Lemmas, part 10; each states its own conditions. -/
import Derived.Test.YtcflcebplhdcpaaGreatL1
namespace Go.Proofs.YtcflcebplhdcpaaGreat
open Go.RowKit
set_option linter.unusedSimpArgs false
set_option linter.unusedVariables false
set_option maxRecDepth 100000
set_option maxHeartbeats 16000000
inductive eT where
 |int|ny|use|split|content|ints
def eT.id:eT->TypeId
 | .int=>3
 | .ny=>252
 | .use=>101
 | .split=>197
 | .content=>117
 | .ints=>23
def eT.size:eT->Nat
 | .int=>1
 | .ny=>2
 | .use=>10
 | .split=>5
 | .content=>3
 | .ints=>1
theorem eT.size_pos(r:eT):0<r.size:=by cases r<;>decide
abbrev bY:=Nat->Option (eT×Nat)
def bY.fm(G:bY)(b:Nat)(x:eT×Nat):bY:=fun k=>if k=b then some x else G k
def bY.none:bY:=fun _=>Option.none
def bL(G:bY)(r:eT)(A:Option Addr)(n c:Nat):Prop:=
 (A=none/\n=0/\c=0)\/∃b o cap,A=some ⟨b,o*r.size,none⟩/\G b=some (r,cap)/\o+c<=cap/\n<=c/\c<=9223372036854775807
def bY.le(G bG:bY):Prop:=∀b x,G b=some x->bG b=some x
theorem bY.le_refl(G:bY):G.le G:=fun _ _ h=>h
theorem bY.le.trans{G fw gV:bY}(h:G.le fw)(V:fw.le gV):G.le gV:=fun b x aW=>V b x (h b x aW)
theorem bL.nil(G:bY)(r:eT):bL G r none 0 0:= .inl ⟨rfl,rfl,rfl⟩
theorem bL.mono{G bG:bY}{r:eT}{A:Option Addr}{n c:Nat}(h:bL G r A n c)(ai:G.le bG):bL bG r A n c:=by
 rcases h with h|⟨b,o,cap,O,V,aa⟩
 ·exact .inl h
 ·exact .inr ⟨b,o,cap,O,ai _ _ V,aa⟩
theorem bL.kl{G:bY}{r:eT}{A:Option Addr}{n c:Nat}(h:bL G r A n c):n<=c/\c<=9223372036854775807:=by
 rcases h with⟨_,rfl,rfl⟩|⟨b,o,cap,_,_,_,O,V⟩
 ·omega
 ·exact⟨O,V⟩
structure dk where
 s:Bool
 m:Nat
def dk.le(z dt:dk):Prop:=(dt.s=true->z.s=true)/\z.m<=dt.m
theorem dk.le_refl(z:dk):z.le z:=⟨id,Nat.le_refl _⟩
def k6(z:dk)(G:bY):eT->(Nat->Option Value)->Prop
 | .int,f=> ∃n,f 0=some (J n)
 | .ny,f=> ∃a b,f 0=some (J a)/\f 1=some (J b)
 | .use,f=> ∃s A n c,f 0=some (J s)/\(z.s=true->s=0)/\f 1=some (.slice A n c)/\bL G .int A n c/\(∃x,f 2=some (J x))/\(∃x,f 3=some (J x))/\(∃x,f 4=some (J x))/\(∃x,f 5=some (J x))/\(∃x,f 6=some (J x))/\(∃x,f 7=some (J x))/\(∃x,f 8=some (J x))/\(∃x,f 9=some (.bool x))
 | .split,f=> ∃a b c d e,f 0=some (J a)/\f 1=some (J b)/\f 2=some (J c)/\f 3=some (J d)/\f 4=some (J e)
 | .content,f=> ∃k A n c aR dT aN,f 0=some (J k)/\f 1=some (.slice A n c)/\f 2=some (.slice aR dT aN)/\bL G .int A n c/\bL G .int aR dT aN/\(k=1->n=dT)/\n<=dT/\dT<=z.m
 | .ints,f=> ∃A n c,f 0=some (.slice A n c)/\bL G .int A n c
theorem k6.mono{z:dk}{G bG:bY}{r:eT}{f:Nat->Option Value}(h:k6 z G r f)(ai:G.le bG):k6 z bG r f:=by
 cases r with
 |int=>exact h
 |ny=>exact h
 |split=>exact h
 |use=>obtain⟨s,A,n,c,O,V,aa,ag,a6⟩:=h;exact⟨s,A,n,c,O,V,aa,ag.mono ai,a6⟩
 |content=>obtain⟨k,A,n,c,aR,dT,aN,O,V,aa,ag,a6,bU⟩:=h;exact⟨k,A,n,c,aR,dT,aN,O,V,aa,ag.mono ai,a6.mono ai,bU⟩
 |ints=>obtain⟨A,n,c,O,V⟩:=h;exact⟨A,n,c,O,V.mono ai⟩
theorem k6.congr{z:dk}{G:bY}{r:eT}{f g:Nat->Option Value}(h:k6 z G r f)(aZ:∀j,j<r.size->g j=f j):k6 z G r g:=by
 cases r with
 |int=>rw[k6,aZ 0 bC];exact h
 |ny=>rw[k6,aZ 0 bC,aZ 1 bC];exact h
 |split=>rw[k6,aZ 0 bC,aZ 1 bC,aZ 2 bC,aZ 3 bC,aZ 4 bC];exact h
 |use=>rw[k6,aZ 0 bC,aZ 1 bC,aZ 2 bC,aZ 3 bC,aZ 4 bC,aZ 5 bC,aZ 6 bC,aZ 7 bC,aZ 8 bC,aZ 9 bC];exact h
 |content=>rw[k6,aZ 0 bC,aZ 1 bC,aZ 2 bC];exact h
 |ints=>rw[k6,aZ 0 bC];exact h
theorem k6.BL{G:bY}{r:eT}{z dt:dk}{f:Nat->Option Value}(h:k6 z G r f)(b3:z.le dt):k6 dt G r f:=by
 cases r with
 |use=>obtain⟨s,A,n,c,O,V,aa⟩:=h;exact⟨s,A,n,c,O,fun e=>V (b3.1 e),aa⟩
 |content=>obtain⟨k,A,n,c,aR,dT,aN,O,V,aa,ag,a6,bU,dh,cT⟩:=h;exact⟨k,A,n,c,aR,dT,aN,O,V,aa,ag,a6,bU,dh,jr cT b3.2⟩
 |_=>exact h
def iG(z:dk)(G:bY)(r:eT)(m:Nat)(l:List Value):Prop:=l.length=m*r.size/\∀i,i<m->k6 z G r (fun j=>l[i*r.size+j]?)
structure er(z:dk)(G:bY)(w:World):Prop where
 row:∀b r cap,G b=some (r,cap)->∃cs,w.heap[b]?=some (.cells cs r.id (0,0))/\cs.size=cap*r.size
 mg:∀b r cap,G b=some (r,cap)->∀i,i<cap->k6 z G r (fun j=>w.cell? ⟨b,i*r.size+j,none⟩)
theorem er.lt{z:dk}{G:bY}{w:World}(h:er z G w){b:Nat}{x:eT×Nat}(ab:G b=some x):b<w.heap.size:=by
 obtain⟨cs,O,_⟩:=h.row b x.1 x.2 ab
 exact(oI.1 O).1
theorem er.BL{z dt:dk}{G:bY}{w:World}(h:er z G w)(b3:z.le dt):er dt G w:=⟨h.row,fun b r cap ab i hi=>(h.mg b r cap ab i hi).BL b3⟩
theorem er.nil(z:dk)(w:World):er z bY.none w:=⟨fun b r cap h=>by simp[bY.none] at h,fun b r cap h=>by simp[bY.none] at h⟩
theorem er.same{z:dk}{G:bY}{w w':World}(h:er z G w)(ar:∀b x,G b=some x->w'.heap[b]?=w.heap[b]?):er z G w':=by
 refine⟨fun b r cap ab=>?_,fun b r cap ab i hi=>?_⟩
 ·rw[ar b _ ab];exact h.row b r cap ab
 ·exact(h.mg b r cap ab i hi).congr fun j _=>World.cell?_of_block (ar b _ ab)
theorem er.alloc{z:dk}{G:bY}{w:World}(h:er z G w)(o:Obj):er z G (w.alloc o):=h.same fun b x ab=>Below.heap_alloc w o b (h.lt ab)
theorem er.drew{z:dk}{G:bY}{w:World}(h:er z G w):er z G w.drew:=⟨h.row,h.mg⟩
theorem er.Wp{z:dk}{G:bY}{w:World}(h:er z G w){p:Addr}(bh:G p.block=none)(u:Value):er z G (w.setCell p u):=h.same fun b x ab=>Below.heap_setCell w p u b (fun e=>by rw[e,bh] at ab;cases ab)
theorem er.below{z:dk}{G:bY}{w w':World}(h:er z G w)(ab:Below w.heap.size w w'):er z G w':=h.same fun b x aW=>ab.block b (h.lt aW)
structure gU(G:bY)(w:World)(bG:bY)(w':World):Prop where
 os:w'.os=w.os
 tape:w'.tape=w.tape
 output:w'.output=w.output
 size:w.heap.size<=w'.heap.size
 le:G.le bG
 new:∀b x,bG b=some x->G b=some x\/w.heap.size<=b
 block:∀k,k<w.heap.size->G k=none->w'.heap[k]?=w.heap[k]?
section
variable{G fw gV:bY}{w be az:World}
theorem gU.refl(G:bY)(w:World):gU G w G w:=⟨rfl,rfl,rfl,Nat.le_refl _,bY.le_refl G,fun _ _ h=> .inl h,fun _ _ _=>rfl⟩
theorem gU.trans(h:gU G w fw be)(V:gU fw be gV az):gU G w gV az:=by
 refine⟨V.os.trans h.os,V.tape.trans h.tape,V.output.trans h.output,jr h.size V.size,h.le.trans V.le,fun b x ab=>?_,fun k U aB=>?_⟩
 ·rcases V.new b x ab with aa|aa
  ·exact h.new b x aa
  ·have:=h.size
   exact .inr S
 ·have O:fw k=none:=by
   cases e:fw k with
   |none=>rfl
   |some x=>rcases h.new k x e with aa|aa
            ·rw[aB] at aa;cases aa
            ·omega
  exact(V.block k (lB U h.size) O).trans (h.block k U aB)
theorem gU.drew(h:gU G w fw be):gU G w fw be.drew:=⟨h.os,h.tape,h.output,h.size,h.le,h.new,h.block⟩
theorem gU.alloc(h:gU G w fw be)(o:Obj):gU G w fw (be.alloc o):=
 ⟨h.os,h.tape,h.output,jr h.size (by simp),h.le,h.new,fun k U aB=>(Below.heap_alloc be o k (lB U h.size)).trans (h.block k U aB)⟩
theorem gU.setCell(h:gU G w fw be){p:Addr}(bh:w.heap.size<=p.block\/∃x,G p.block=some x)(u:Value):gU G w fw (be.setCell p u):=
 ⟨h.os,h.tape,h.output,by simpa[World.setCell] using h.size,h.le,h.new,fun k U aB=>(Below.heap_setCell be p u k (fun e=>by
  subst e
  rcases bh with aa|⟨x,aa⟩
  ·omega
  ·rw[aB] at aa;cases aa)).trans (h.block k U aB)⟩
theorem gU.below(h:gU G w fw be){B:Nat}(eZ:B<=w.heap.size)(aB:∀k,k<B->G k=none):Below B w be:=⟨h.os,h.tape,h.output,h.size,fun k U=>h.block k S (aB k U)⟩
theorem gU.FJ(h:Below w.heap.size w be):gU G w G be:=⟨h.os,h.tape,h.output,h.size,bY.le_refl G,fun _ _ h=> .inl h,fun k U _=>h.block k U⟩
theorem gU.none(h:gU G w fw be){k:Nat}(U:k<w.heap.size)(aB:G k=Option.none):fw k=Option.none:=by
 cases e:fw k with
 |none=>rfl
 |some x=>rcases h.new k x e with aa|aa
          ·rw[aB] at aa;cases aa
          ·omega
theorem gU.cell(h:gU G w fw be){p:Addr}(U:p.block<w.heap.size)(aB:G p.block=Option.none):be.cell? p=w.cell? p:=World.cell?_of_block (h.block _ U aB)
theorem iT.ex{g:Nat}{t:TypeId}{cs:Array Value}(ab:iT w g t cs)(h:gU G w fw be)(aB:G g=Option.none):iT be g t cs:=(h.block g ab.lt aB).trans ab
theorem dU.ex{A:Option Addr}{xs:List Value}{B:Nat}(aP:dU w B A xs)(h:gU G w fw be)(eZ:B<=w.heap.size)(aB:∀k,k<B->G k=Option.none):dU be B A xs:=aP.ee fun p bh=>h.cell S (aB _ bh)
end
theorem er.Jp{z:dk}{G:bY}{w:World}(h:er z G w)(r:eT)(cap:Nat)(cs:List Value)(af:iG z G r cap cs):er z (G.fm w.heap.size (r,cap)) (w.alloc (.cells cs.toArray r.id))/\gU G w (G.fm w.heap.size (r,cap)) (w.alloc (.cells cs.toArray r.id)):=by
 have aB:G w.heap.size=none:=by
  cases e:G w.heap.size with
  |none=>rfl
  |some x=>have:=h.lt e;omega
 have m3:G.le (G.fm w.heap.size (r,cap)):=fun b x ab=>by
  have:=h.lt ab
  simp[bY.fm,show b≠w.heap.size by omega,ab]
 refine⟨⟨fun b fA fD ab=>?_,fun b fA fD ab i hi=>?_⟩,⟨rfl,rfl,rfl,by simp,m3,fun b x ab=>?_,fun k U _=>Below.heap_alloc w _ k U⟩⟩
 ·unfold bY.fm at ab
  split at ab
  ·rename_i e
   injection ab with ab
   injection ab with O V
   subst e O V
   exact⟨cs.toArray,heap_alloc_new w _,by simp[af.1]⟩
  ·obtain⟨gp,O,V⟩:=h.row b fA fD ab
   exact⟨gp,(Below.heap_alloc w _ b (h.lt ab)).trans O,V⟩
 ·unfold bY.fm at ab
  split at ab
  ·rename_i e
   injection ab with ab
   injection ab with O V
   subst e O V
   refine((af.2 i hi).mono m3).congr fun j _=>?_
   rw[cell_of_row _ w.heap.size _ cs.toArray r.id (0,0) (heap_alloc_new w _)]
   simp
  ·exact((h.mg b fA fD ab i hi).mono m3).congr fun j _=>World.cell?_of_block (Below.heap_alloc w _ b (h.lt ab))
 ·unfold bY.fm at ab
  split at ab
  ·rename_i e
   exact .inr S
  ·exact .inl ab
section
variable{z:dk}{G:bY}{w:World}{r:eT}{A:Option Addr}{n c:Nat}
theorem bL.at_(h:bL G r A n c)(t:er z G w){i:Nat}(hi:i<n):∃b off,A=some ⟨b,off,none⟩/\b<w.heap.size/\(∃x,G b=some x)/\k6 z G r (fun j=>w.cell? ⟨b,off+i*r.size+j,none⟩):=by
 rcases h with⟨_,rfl,_⟩|⟨b,o,cap,rfl,ab,O,V,_⟩
 ·omega
 ·refine⟨b,o*r.size,rfl,t.lt ab,⟨_,ab⟩,(t.mg b r cap ab (o+i) S).congr fun j _=>?_⟩
  rw[kA]
theorem bL.cut(h:bL G r A n c){k m:Nat}(U:k<=m)(ad:m<=c):bL G r (if c=k then A else A.map (·.add (k*r.size))) (m-k) (c-k):=by
 rcases h with⟨rfl,rfl,rfl⟩|⟨b,o,cap,rfl,ab,O,V,aa⟩
 ·obtain rfl:m=0:=by omega
  obtain rfl:k=0:=by omega
  exact .inl ⟨by simp,rfl,rfl⟩
 ·by_cases e:c=k
  ·refine .inr ⟨b,o,cap,by simp[e],ab,by omega,by omega,by omega⟩
  ·refine .inr ⟨b,o+k,cap,by simp[e,Addr.add_lit,kA],ab,by omega,by omega,by omega⟩
theorem bL.cells(h:bL G r A n c)(t:er z G w):∃l:List Value,iG z G r n l/\(n=0/\l=[]\/∃b off,A=some ⟨b,off,none⟩/\b<w.heap.size/\∀j u,l[j]?=some u->w.cell? ⟨b,off+j,none⟩=some u)/\∀u∈l,u.oneCell'=true:=by
 rcases h with⟨_,rfl,_⟩|⟨b,o,cap,rfl,ab,O,V,_⟩
 ·exact⟨[],⟨by simp,fun i hi=>by omega⟩,.inl ⟨rfl,rfl⟩,by simp⟩
 ·obtain⟨cs,aa,ag⟩:=t.row b r cap ab
  have aj:∀j,w.cell? ⟨b,j,none⟩=cs[j]?:=fun j=>cell_of_row w b j cs r.id (0,0) aa
  have hmul:(o+n)*r.size<=cap*r.size:=pC _ S
  have ai:((cs.toList.drop (o*r.size)).take (n*r.size)).length=n*r.size:=by
   rw[r9,yh,D2,ag]
   rw[kA] at hmul
   omega
  have aZ:∀j,j<n*r.size->((cs.toList.drop (o*r.size)).take (n*r.size))[j]?=w.cell? ⟨b,o*r.size+j,none⟩:=fun j a9=>by
   rw[py,if_pos a9,qo,aj]
   simp
  have HS:∀i,i<n->k6 z G r (fun j=>((cs.toList.drop (o*r.size)).take (n*r.size))[i*r.size+j]?):=fun i hi=>by
   refine(t.mg b r cap ab (o+i) S).congr fun j a9=>?_
   have:(i+1)*r.size<=n*r.size:=pC _ S
   rw[kA] at this
   show((cs.toList.drop (o*r.size)).take (n*r.size))[i*r.size+j]?=_
   rw[aZ _ S,kA,yl]
  refine⟨(cs.toList.drop (o*r.size)).take (n*r.size),⟨ai,HS⟩,.inr ⟨b,o*r.size,rfl,t.lt ab,fun j u aS=>?_⟩,fun u aS=>?_⟩
  ·rw[<-aS,aZ j]
   have:=(l0.1 aS).1
   omega
  ·obtain⟨q,lJ⟩:=List.mem_iff_getElem?.1 aS
   have bd:=(l0.1 lJ).1
   rw[ai] at bd
   have ar:=r.size_pos
   have hi:q/r.size<n:=Nat.div_lt_of_lt_mul (by rw[Nat.mul_comm];exact bd)
   have a9:q%r.size<r.size:=Nat.mod_lt _ ar
   have af:=HS _ hi
   have C2:q/r.size*r.size+q%r.size=q:=Nat.div_add_mod' q r.size
   rw[<-C2] at lJ
   generalize((cs.toList.drop (o*r.size)).take (n*r.size))=l at*
   generalize q%r.size=j at*
   generalize q/r.size=i at*
   clear C2 aZ HS ai aj aS
   cases r with
   |int=>obtain⟨x,e⟩:=af;obtain rfl:j=0:=by simp[eT.size] at a9;exact a9
         have h:=e.symm.trans lJ;injection h with h;subst h;rfl
   |ny=>obtain⟨x,y,e,hJ⟩:=af
        simp only[eT.size] at a9
        rcases(show j=0\/j=1 by omega) with rfl|rfl
        ·have h:=e.symm.trans lJ;injection h with h;subst h;rfl
        ·have h:=hJ.symm.trans lJ;injection h with h;subst h;rfl
   |ints=>obtain⟨_,_,_,e,_⟩:=af;obtain rfl:j=0:=by simp[eT.size] at a9;exact a9
          have h:=e.symm.trans lJ;injection h with h;subst h;rfl
   |split=>obtain⟨_,_,_,_,_,e0,e1,e2,cR,dR⟩:=af
           simp only[eT.size] at a9
           rcases(show j=0\/j=1\/j=2\/j=3\/j=4 by omega) with rfl|rfl|rfl|rfl|rfl
           ·have h:=e0.symm.trans lJ;injection h with h;subst h;rfl
           ·have h:=e1.symm.trans lJ;injection h with h;subst h;rfl
           ·have h:=e2.symm.trans lJ;injection h with h;subst h;rfl
           ·have h:=cR.symm.trans lJ;injection h with h;subst h;rfl
           ·have h:=dR.symm.trans lJ;injection h with h;subst h;rfl
   |content=>obtain⟨_,_,_,_,_,_,_,e0,e1,e2,_⟩:=af
             simp only[eT.size] at a9
             rcases(show j=0\/j=1\/j=2 by omega) with rfl|rfl|rfl
             ·have h:=e0.symm.trans lJ;injection h with h;subst h;rfl
             ·have h:=e1.symm.trans lJ;injection h with h;subst h;rfl
             ·have h:=e2.symm.trans lJ;injection h with h;subst h;rfl
   |use=>obtain⟨_,_,_,_,e0,_,e1,_,⟨_,e2⟩,⟨_,cR⟩,⟨_,dR⟩,⟨_,gj⟩,⟨_,Aq⟩,⟨_,Lq⟩,⟨_,w4⟩,⟨_,adk⟩⟩:=af
         simp only[eT.size] at a9
         rcases(show j=0\/j=1\/j=2\/j=3\/j=4\/j=5\/j=6\/j=7\/j=8\/j=9 by omega) with rfl|rfl|rfl|rfl|rfl|rfl|rfl|rfl|rfl|rfl
         ·have h:=e0.symm.trans lJ;injection h with h;subst h;rfl
         ·have h:=e1.symm.trans lJ;injection h with h;subst h;rfl
         ·have h:=e2.symm.trans lJ;injection h with h;subst h;rfl
         ·have h:=cR.symm.trans lJ;injection h with h;subst h;rfl
         ·have h:=dR.symm.trans lJ;injection h with h;subst h;rfl
         ·have h:=gj.symm.trans lJ;injection h with h;subst h;rfl
         ·have h:=Aq.symm.trans lJ;injection h with h;subst h;rfl
         ·have h:=Lq.symm.trans lJ;injection h with h;subst h;rfl
         ·have h:=w4.symm.trans lJ;injection h with h;subst h;rfl
         ·have h:=adk.symm.trans lJ;injection h with h;subst h;rfl
theorem bL.rd(h:bL G .int A n c)(t:er z G w):∃dG:List Int,dG.length=n/\dU w w.heap.size A (is dG):=by
 obtain⟨l,⟨ai,af⟩,aP,zb⟩:=h.cells t
 simp only[eT.size,h1] at ai af
 have:∃dG:List Int,l=is dG:=by
  clear aP h zb
  subst ai
  induction l with
  |nil=>exact⟨[],rfl⟩
  |cons a l cy=>
   obtain⟨x,aW⟩:=af 0 (by simp)
   simp at aW
   obtain⟨dG,rfl⟩:=cy (fun i hi=>by
    refine(af (i+1) (by simp;exact hi)).congr fun j _=>?_
    show l[i+j]?=(a::l)[i+1+j]?
    rw[show i+1+j=(i+j)+1 by omega,List.getElem?_cons_succ])
   exact⟨x::dG,by rw[aW];rfl⟩
 obtain⟨dG,rfl⟩:=this
 refine⟨dG,by simpa using ai,?_⟩
 rcases aP with⟨_,e⟩|⟨b,off,O,V,aa⟩
 ·exact .inl e
 ·exact .inr ⟨b,off,O,V,aa⟩
theorem bL.src(h:bL G r A n c)(t:er z G w){P:Program}{n7 hJ:TypeId}(U:P.underlying n7=some (.slice hJ)):∃news,iG z G r n news/\Src P r.size n7 (.slice A n c) n news w:=by
 obtain⟨l,af,aP,O⟩:=h.cells t
 refine⟨l,af,?_⟩
 rcases aP with⟨rfl,rfl⟩|⟨b,off,rfl,_,aa⟩
 ·rcases A with _|eV
  ·exact Src.ofNil w U c
  ·exact Src.ofSlice w U eV _ c [] (by simp) (fun j u aS=>by simp at aS) (by simp)
 ·exact Src.ofSlice w U _ _ c l af.1 (fun j u aS=>by rw[Addr.add_lit];exact aa j u aS) O
end
theorem iG.append{z:dk}{G:bY}{r:eT}{n m:Nat}{l k:List Value}(h:iG z G r n l)(V:iG z G r m k):iG z G r (n+m) (l++k):=by
 refine⟨by rw[gC,h.1,V.1,kA],fun i hi=>?_⟩
 by_cases aB:i<n
 ·refine(h.2 i aB).congr fun j a9=>?_
  have:(i+1)*r.size<=n*r.size:=pC _ S
  rw[kA] at this
  exact GP (by rw[h.1];omega)
 ·refine(V.2 (i-n) S).congr fun j a9=>?_
  have e:i*r.size=n*r.size+(i-n)*r.size:=by rw[<-kA];congr 1;omega
  show(l++k)[i*r.size+j]?=_
  rw[e,GQ (by rw[h.1];omega),h.1]
  congr 1
  omega
theorem iG.nil(z:dk)(G:bY)(r:eT):iG z G r 0 []:=⟨by simp,fun i hi=>by omega⟩
theorem iG.mono{z:dk}{G bG:bY}{r:eT}{n:Nat}{l:List Value}(h:iG z G r n l)(ai:G.le bG):iG z bG r n l:=⟨h.1,fun i hi=>(h.2 i hi).mono ai⟩
theorem iG.one{z:dk}{G:bY}{r:eT}{l:List Value}(ai:l.length=r.size)(h:k6 z G r (fun j=>l[j]?)):iG z G r 1 l:=⟨by simp[ai],fun i hi=>by
 obtain rfl:i=0:=by omega
 refine h.congr fun j _=>by simp⟩
theorem iG.at8{z:dk}{G:bY}{r:eT}{l:Array Value}(ai:l.size=r.size)(h:k6 z G r (fun j=>l[j]?))(n:Nat):iG z G r n (Builtin.zeroCells l n).toList:=by
 refine⟨by simp[Builtin.zeroCells,ai],fun i hi=>h.congr fun j a9=>?_⟩
 have bh:=r.size_pos
 have ad:(i*r.size+j)%r.size=j:=by rw[Nat.mul_comm,Nat.mul_add_mod,Em a9]
 have:(i+1)*r.size<=n*r.size:=pC _ S
 rw[kA] at this
 simp only[Builtin.zeroCells,ai]
 rw[Array.getElem?_toList,Array.getElem?_map,Array.getElem?_range,if_pos S]
 simp only[sb,ad]
 rw[Array.getElem?_eq_getElem S,getElem!_pos l j S]
section
variable{P:Program}{z:dk}{G:bY}{w:World}
theorem er.Vo(t:er z G w){b cap o m:Nat}{r:eT}(ab:G b=some (r,cap)){cur:Array Value}(aj:w.heap[b]?=some (.cells cur r.id (0,0)))(ar:cur.size=cap*r.size){news:List Value}(af:iG z G r m news)(ad:o+m<=cap):
  er z G (w.setRow b (cur.toList.take (o*r.size)++news++cur.toList.drop (o*r.size+news.length)).toArray):=by
 have ai:=af.1
 have hmul:(o+m)*r.size<=cap*r.size:=pC _ ad
 rw[kA] at hmul
 have rF:(cur.toList.take (o*r.size)++news++cur.toList.drop (o*r.size+news.length)).length=cap*r.size:=by
  simp only[gC,r9,yh,D2,ar,ai]
  omega
 have Sz:=setRow_heap w b cur (cur.toList.take (o*r.size)++news++cur.toList.drop (o*r.size+news.length)).toArray r.id (0,0) aj
 refine⟨fun cu fA fD dQ=>?_,fun cu fA fD dQ i hi=>?_⟩
 ·by_cases e:cu=b
  ·subst e
   rw[ab] at dQ
   injection dQ with dQ
   injection dQ with O V
   subst O V
   exact⟨_,Sz,by simpa using rF⟩
  ·obtain⟨cs,O,V⟩:=t.row cu fA fD dQ
   exact⟨cs,(setRow_other w b cu _ e).trans O,V⟩
 ·by_cases e:cu=b
  ·subst e
   rw[ab] at dQ
   injection dQ with dQ
   injection dQ with O V
   subst O V
   have hold:∀j,w.cell? ⟨cu,j,none⟩=cur[j]?:=fun j=>cell_of_row w cu j cur r.id (0,0) aj
   have aZ:∀j,(w.setRow cu (cur.toList.take (o*r.size)++news++cur.toList.drop (o*r.size+news.length)).toArray).cell? ⟨cu,j,none⟩=(cur.toList.take (o*r.size)++news++cur.toList.drop (o*r.size+news.length))[j]?:=fun j=>by
    rw[cell_of_row _ cu j _ r.id (0,0) Sz];simp
   have Fo:(cur.toList.take (o*r.size)).length=o*r.size:=by rw[r9,D2,ar];omega
   by_cases O:i<o
   ·refine(t.mg cu r cap ab i hi).congr fun j a9=>?_
    have:(i+1)*r.size<=o*r.size:=pC _ S
    rw[kA] at this
    rw[aZ,hold,ob,GP (by rw[Fo];omega),py,if_pos S]
    simp
   ·by_cases V:i<o+m
    ·refine(af.2 (i-o) S).congr fun j a9=>?_
     have e1:i*r.size=o*r.size+(i-o)*r.size:=by rw[<-kA];congr 1;omega
     have:(i-o+1)*r.size<=m*r.size:=pC _ S
     rw[kA] at this
     rw[aZ,ob,GQ (by rw[Fo];omega),Fo,GP S]
     congr 1
     omega
    ·refine(t.mg cu r cap ab i hi).congr fun j a9=>?_
     have:(o+m)*r.size<=i*r.size:=pC _ S
     rw[kA] at this
     rw[aZ,hold,GQ (by rw[gC,Fo];omega),gC,Fo,qo]
     rw[show o*r.size+news.length+(i*r.size+j-(o*r.size+news.length))=i*r.size+j by omega]
     simp
  ·exact(t.mg cu fA fD dQ i hi).congr fun q _=>World.cell?_of_block (setRow_other w b cu _ e)
theorem V5 (eA:er z G w) (t n7 ty:TypeId) (r:eT) (i:TypeInfo) (lX:Value) (bytes:Nat) (bs:P.underlying t=some (.slice r.id)) (hi:P.info? r.id=some i) (b3:i.zero=some lX)
  (nw:i.size=r.size) (xj:i.bytes=bytes) (tu:lX.cells.size=r.size) (agK:k6 z G r (fun j=>lX.cells[j]?))
  (A:Option Addr) (n c:Nat) (ar:bL G r A n c) (x:Value) (m:Nat) (news:List Value) (af:iG z G r m news) (o6:Src P r.size n7 x m news w)
  (CJ:n+m<=9223372036854775807) (HM:(n+m)*bytes<=140737488355328):
  ∃aR aN w' bG,(Builtin.append_ #[t,n7] ty #[.slice A n c,x]).run P w= .ok (.slice aR (n+m) aN) w'/\er z bG w'/\gU G w bG w'/\bL bG r aR (n+m) aN:=by
 subst xj
 have ai:=af.1
 obtain⟨Bg,Sg,agl,zb⟩:=ar.cells eA
 have grown:∀(fk:Nat),∃bG,er z bG (w.drew.alloc (.cells ((Bg++news).toArray++Builtin.zeroCells lX.cells (grownCap w (n+m) fk r.id-(n+m))) r.id))/\gU G w bG (w.drew.alloc (.cells ((Bg++news).toArray++Builtin.zeroCells lX.cells (grownCap w (n+m) fk r.id-(n+m))) r.id))/\bL bG r (some ⟨w.heap.size,0,none⟩) (n+m) (grownCap w (n+m) fk r.id):=by
  intro fk
  have sx:=grownCap_ge w (n+m) fk r.id
  have pS:grownCap w (n+m) fk r.id<=maxLen:=grownCap_le_maxLen w (n+m) fk r.id CJ
  have O:=(Sg.append af).append (iG.at8 tu agK (grownCap w (n+m) fk r.id-(n+m)))
  rw[show n+m+(grownCap w (n+m) fk r.id-(n+m))=grownCap w (n+m) fk r.id by omega] at O
  obtain⟨V,aa⟩:=eA.drew.Jp r _ _ O
  have e:((Bg++news).toArray++Builtin.zeroCells lX.cells (grownCap w (n+m) fk r.id-(n+m)))=(Bg++news++(Builtin.zeroCells lX.cells (grownCap w (n+m) fk r.id-(n+m))).toList).toArray:=by
   apply oH
   simp
  rw[e]
  refine⟨_,V,(gU.refl G w).drew.trans aa,.inr ⟨w.heap.size,0,_,by simp,by simp[bY.fm];rfl,by omega,sx,pS⟩⟩
 rw[<-nw] at o6
 by_cases kW:n+m<=c
 ·rcases ar with⟨rfl,rfl,rfl⟩|⟨b,o,cap,rfl,ab,O,V,aa⟩
  ·obtain rfl:m=0:=by omega
   refine⟨none,0,w,G,?_,eA,gU.refl _ _,bL.nil _ _⟩
   rcases o6.kind with⟨hJ,U⟩|U<;>simp[Builtin.append_,run_underlying bs,run_underlying U,sizeOf,typeInfo,hi,o6.len,o6.cells]<;>(have:news=[]:=q8 (by simpa using ai))<;>simp[this]
  ·obtain⟨cur,Sf,jV⟩:=eA.row b r cap ab
   have CS:(o+n)*r.size+news.length<=cur.size:=by rw[ai,jV,<-kA];exact pC _ S
   have SH:=o6
   rw[nw] at SH
   have gg:=run_storeCells_at P b ((o+n)*r.size) r.id news 0 cur w Sf (by simpa using CS) o6.one
   simp only[vp] at gg
   refine⟨_,_,_,G,?_,eA.Vo ab Sf jV (o:=o+n) af S,?_,.inr ⟨b,o,cap,rfl,ab,O,kW,aa⟩⟩
   ·have e1:o*r.size+n*r.size=(o+n)*r.size:=by rw[kA]
    rcases o6.kind with⟨hJ,U⟩|U<;>simp[Builtin.append_,run_underlying bs,run_underlying U,sizeOf,typeInfo,hi,o6.len,kW,SH.cells,Addr.add_lit,nw,e1,gg]
   ·exact⟨rfl,rfl,rfl,by simp,bY.le_refl _,fun _ _ h=> .inl h,fun k U aB=>setRow_other w b k _ (fun e=>by rw[e,ab] at aB;cases aB)⟩
 ·have holds:(Builtin.firstCells i.size n (.slice A n c)).run P w.drew= .ok Bg.toArray w.drew:=by
   rw[nw]
   rcases agl with⟨rfl,rfl⟩|⟨b,off,rfl,_,aa⟩
   ·rcases A with _|eV
    ·exact run_firstCells_none w.drew _ _ _ _
    ·exact run_firstCells_some w.drew r.size 0 eV 0 c [] (by simp) (by simp)
   ·exact run_firstCells_some w.drew r.size n ⟨b,off,none⟩ n c Bg Sg.1 (fun j v ah=>by rw[Addr.add_lit];exact aa j v ah)
  have aP:=run_append_grow_src (P:=P) w t n7 ty r.id i lX bs hi b3 A n c Bg holds x m news o6 S S (growslice_fits S HM)
  obtain⟨bG,O,V,aa⟩:=grown c
  exact⟨_,_,_,bG,aP,O,V,aa⟩
end
end Go.Proofs.YtcflcebplhdcpaaGreat
