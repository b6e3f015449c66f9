/- Lemmas, part 47; each states its own conditions. -/
import Derived.Test.YtcflcebplhdcpaaGreatL19
import Derived.Test.YtcflcebplhdcpaaGreatL46
namespace Go.Proofs.YtcflcebplhdcpaaGreat
open Go.RowKit
set_option linter.unusedSimpArgs false
set_option linter.unusedVariables false
set_option maxRecDepth 100000
set_option maxHeartbeats 16000000
variable{H w0:World}{X:Nat->Prop}{M:aw}{K:Value->an->Prop}{Z:bF}
theorem asJ {P:Prop} (h:P:=by
 repeat'((first
  |(refine rG nN n1 nT S S ?_)
  |(refine mo (v:= .slice c.dC[i].eU c.dC[i].b6 c.dC[i].ci) (oY 2 _ rfl) aD W ?_)
  |(exact cC (X:=Nat×Int) (i+1,_) (by show c.aX-(i+1)<c.aX-i;omega) (by show i+1<=c.aX;omega) ⟨rfl,rfl,rfl,ahv S,trivial⟩ ⟨rfl,trivial⟩)
  |refine eg ?_
  |(refine eh ?_ ?_)
  |with_reducible intro r)<;>(try conv=>whnf))):P:=h
structure KA(c:hx)(B:Nat->iE):Prop where
 aX:c.aX<=32
 IX:0<=c.main
 hk:c.main<c.aX
 bB:c.bB<=16
 maps:0<=c.maps/\c.maps<=8
 dj:0<=c.dj/\c.dj<=8
 cF:0<=c.cF/\c.cF<=8
 b:Ki c B
def cr.d(c:cr):hx:=⟨c.bS,c.aX,c.bb,c.fY,c.bB,c.dD,c.maps,c.dj,c.cF,c.main⟩
def cr.B(c:cr)(k:Nat):iE:=⟨(c.dC.getD k ⟨0,0,none,0,0,[]⟩).args,(c.dC.getD k ⟨0,0,none,0,0,[]⟩).locals,(c.dC.getD k ⟨0,0,none,0,0,[]⟩).eU,(c.dC.getD k ⟨0,0,none,0,0,[]⟩).b6,(c.dC.getD k ⟨0,0,none,0,0,[]⟩).ci⟩
theorem cr.Kh(c:cr){k:Nat}(h:k<c.dC.length):c.B k=⟨c.dC[k].args,c.dC[k].locals,c.dC[k].eU,c.dC[k].b6,c.dC[k].ci⟩:=by
 unfold cr.B
 rw[show c.dC.getD k ⟨0,0,none,0,0,[]⟩=c.dC[k] by simp[List.getD,h]]
theorem aoY{w:World}{c:cr}{cs:List Int}(aj:vj w c)(h:l6 c cs):KA c.d c.B:=by
 refine⟨h.aX.2,h.main.1,h.main.2,h.bB,h.maps,h.dj,h.cF,fun k U=>?_,fun k U=>?_⟩
 all_goals
  have U:k<c.aX:=U
  have ai:k<c.dC.length:=by have:=aj.aX;omega
  have ab:=h.body _ (fM ai)
  rw[c.Kh ai]
 ·have:=ab.b6
  have:=(aj.ins k ai).2.1
  show c.dC[k].b6<=400
  omega
 ·exact ab.args.2.2
theorem Q7{w:World}{a:Addr}{v:Value}(h:w.cell? a=some v):a.block<w.heap.size:=World.block_lt_of_cell? w _ h
structure nG(w:World)(c:cr)(cs:List Int):Prop where
 b:vj w c
 rd:dU w w.heap.size c.fY (is cs)
 bB:c.bB=cs.length
 I0:c.bB<=9223372036854775807
 cap:c.bB<=c.dD
theorem nG.is{w:World}{c:cr}{cs:List Int}(h:nG w c cs):c.d.k8 c.B bY.none w:=by
 refine⟨fun k U=>?_,fun k U j a9=>?_,fun j a9=>?_⟩
 ·have ai:k<c.dC.length:=by have:=h.b.aX;have U:k<c.aX:=U;omega
  obtain⟨b,o,O,V⟩:=h.b.body k ai
  rw[c.Kh ai]
  exact⟨b,o,O,Q7 (V 0 _ rfl),rfl,fun i v ah=>V i v ah⟩
 ·have ai:k<c.dC.length:=by have:=h.b.aX;have U:k<c.aX:=U;omega
  obtain⟨O,V,aa⟩:=h.b.ins k ai
  rw[c.Kh ai] at a9|-
  have a9:j<c.dC[k].ins.length:=by have a9:j<c.dC[k].b6:=a9;omega
  rw[C9] at O
  have aW:∀p v,(iO c.dC[k].ins[j])[p]?=some v->(c.dC[k].ins.flatMap iO)[j*4+p]?=some v:=fun p v bh=>by
   have:=uF iO 4 (fun _=>rfl) c.dC[k].ins j a9
   rw[<-this,py] at bh
   split at bh
   ·rwa [qo] at bh
   ·cases bh
  obtain⟨b,o,b0,ab,im⟩:=O.at_ (aW 0 _ rfl)
  refine⟨b,o,b0,ab,rfl,c.dC[k].ins[j].op,c.dC[k].ins[j].a,c.dC[k].ins[j].b,c.dC[k].ins[j].c,fun i v ah=>?_⟩
  obtain⟨cu,fX,fE,dQ,afd⟩:=O.at_ (aW i v ah)
  have L5:=b0.symm.trans fE
  injection L5 with L5
  injection L5 with e1 e2
  subst e1 e2
  rw[yl]
  exact afd
 ·have a9:j<cs.length:=by have:=h.bB;have a9:j<c.bB:=a9;omega
  obtain⟨b,o,O,V,aa⟩:=h.rd.at_ (Nl cs j a9)
  exact⟨b,o,_,O,V,rfl,aa⟩
theorem gU.yA{w w':World}{bG:bY}(h:gU bY.none w bG w'):Below w.heap.size w w':=⟨h.os,h.tape,h.output,h.size,fun k U=>h.block k U rfl⟩
theorem nG.on{w w':World}{c:cr}{cs:List Int}(h:nG w c cs)(ab:Below w.heap.size w w'):nG w' c cs:=
 ⟨⟨h.b.aX,h.b.FF,fun i hi=>by
  obtain⟨b,o,O,V⟩:=h.b.body i hi
  exact⟨b,o,O,fun q v ah=>(Ha ab (Q7 (V q v ah))).trans (V q v ah)⟩,fun i hi=>⟨(h.b.ins i hi).1.on ab,(h.b.ins i hi).2⟩⟩,h.rd.on ab,h.bB,h.I0,h.cap⟩
theorem K0{f:FuncId}{args:Array Value}{w:World}(hn:Value->Prop)(h:∀(K:Value->an->Prop) (Z:bF),(∀v,hn v->K v (BR w))->ay Tryz.prog (BR w) f args K Z):Calls Tryz.prog f args w (lC w hn):=by
 have O:=h (fun v C=>hn v/\C=BR w) (fun _ _=>False) (fun v ah=>⟨ah,rfl⟩)
 have aT:dJ w w (fun _=>False) [] w:=⟨rfl,rfl,rfl,Nat.le_refl _,fun _ _ _=>rfl,Nat.le_refl _,fun _ _=>rfl,fun e af=>(by cases af),fun e af=>(by cases af),List.nodup_nil⟩
 refine(O.out.2 w aT).mono fun e w' eb=>?_
 rcases eb with⟨v,aG,rfl,_,aa,ah,rfl⟩|⟨_,_,_,_,_,b3⟩
 ·have ag:dJ w w (fun _=>False) [] w':=aa
  exact⟨v,rfl,⟨ag.os,ag.tape,ag.output,ag.size,fun k U=>ag.fk k U (fun h=>h)⟩,ah⟩
 ·exact b3.elim
theorem VT{w:World}{c:cr}{cs:List Int}(h:nG w c cs):Calls Tryz.prog 32 #[c.d.val] w (lC w fun v=> ∃b,v= .bool b/\(b=true->l6 c cs)):=
 K0 _ fun K Z U=>aoU h.b h.rd h.bB h.I0 (fun c3=>U _ ⟨true,rfl,fun _=>c3⟩) (U _ ⟨false,rfl,fun h=>by cases h⟩)
theorem ahv{i:Nat}(h:i<9223372036854775807):cD.v (J (IntKind.i64.wrap ((i:Int)+1)))=cD.v (J ((i+1:Nat):Int)):=by
 have:IntKind.i64.wrap ((i:Int)+1)=(i:Int)+1:=cK S
 rw[this];rfl
section
theorem adP{c:cr}(aj:vj H c)(U:∀b,K (.bool b) (Y H w0 X M)):a4 H w0 X M 31 #[.agg c.l.toArray] K Z:=by
 have xq:=aj.aX
 have awg:=aj.FF
 refine a7 atB ?_
 intro az aF
 conv=>whnf
 refine c9.on (X:=Nat×Int) (fun x=> [(1,.p 1 0),(2,.v (.bool false)),(3,.v (J x.2)),(4,.v (J (x.1:Int)))]) (fun x=> [(1,25,c.l)]) (fun x=>Y H az aF M) (fun x=>x.1<=c.aX) (fun x=>c.aX-x.1) (0,0) (cY _) ⟨rfl,rfl,rfl,rfl,trivial⟩ ⟨rfl,trivial⟩ ?_
 rintro⟨i,s⟩ r hi
 replace hi:i<=c.aX:=hi
 dsimp only
 conv=>whnf
 refine ba.dec (fun cc=>?_) (fun cc=>?_)
 ·have ai:i<c.dC.length:=by omega
  obtain⟨nN,n1,nT,oY⟩:=aj.body i ai
  conv=>whnf
  exact asJ
 ·conv=>whnf
  repeat'((first
   |exact cA (U _)
   |refine ea ?_
   |(refine gs ?_ ?_<;>(try with_reducible intro ab))
   |with_reducible intro r)<;>(try conv=>whnf))
end
theorem adO{w:World}{c:cr}{cs:List Int}(h:nG w c cs):Calls Tryz.prog 31 #[c.d.val] w (lC w tw):=
 K0 _ fun K Z U=>adP h.b fun b=>U _ ⟨b,rfl⟩
theorem JW {P:Prop} (h:P:=by
 repeat'((first
  |(refine ay.ph [J 3] Kc.dg (fun v=>v=(kj.mk 3 none 0 0 none 0 0).val) (fun w' _ _=>N2 3 w') ?_;rintro v rfl)
  |(refine yB .content #[J 3,.slice none 0 0,.slice none 0 0] rfl (Lv _ _ 3) ?_;intro iI eJ dA cw;replace DD:=DD.mono dA;replace aV:=aV.mono dA;replace bu:=bu.mono dA;replace qX:=qX.mono dA)
  |(refine g3 .content DD cw (rL+1) rfl S ?_;intro nk gS gW hd fF;replace aV:=aV.mono hd;replace bu:=bu.mono hd;replace qX:=qX.mono hd)
  |(exact cC (X:=bY×Option Addr×Nat×Nat) (nk,gS,rL+1,gW) (by show 8-(rL+1)<8-rL;omega) ⟨aV,bu,qX,fF,by show((rL+1:Nat):Int)<=c.cF;omega⟩ ⟨rfl,rfl,rfl,by show _=_;rw[<-qi rL S];rfl,trivial⟩ ⟨rfl,rfl,rfl,trivial⟩)
  |(refine ay.ph [J 2] Kc.dg (fun v=>v=(kj.mk 2 none 0 0 none 0 0).val) (fun w' _ _=>N2 2 w') ?_;rintro v rfl)
  |(refine yB .content #[J 2,.slice none 0 0,.slice none 0 0] rfl (Lv _ _ 2) ?_;intro iI eJ dA cw;replace qX:=qX.mono dA;replace aV:=aV.mono dA;replace bu:=bu.mono dA)
  |(refine g3 .content qX cw (pb+1) rfl S ?_;intro nk gS gW hd fF;replace aV:=aV.mono hd;replace bu:=bu.mono hd)
  |(exact cC (X:=bY×Option Addr×Nat×Nat) (nk,gS,pb+1,gW) (by show 8-(pb+1)<8-pb;omega) ⟨aV,bu,fF,by show((pb+1:Nat):Int)<=c.dj;omega⟩ ⟨rfl,rfl,rfl,by show _=_;rw[<-qi pb S];rfl,trivial⟩ ⟨rfl,rfl,rfl,trivial⟩)
  |(refine ay.ph [J 1] Kc.dg (fun v=>v=(kj.mk 1 none 0 0 none 0 0).val) (fun w' _ _=>N2 1 w') ?_;rintro v rfl)
  |(refine yB .content #[J 1,.slice none 0 0,.slice none 0 0] rfl (Lv _ _ 1) ?_;intro iI eJ dA cw;replace bu:=bu.mono dA;replace aV:=aV.mono dA)
  |(refine g3 .content bu cw (jg+1) rfl S ?_;intro nk gS gW hd fF;replace aV:=aV.mono hd)
  |(exact cC (X:=bY×Option Addr×Nat×Nat) (nk,gS,jg+1,gW) (by show 8-(jg+1)<8-jg;omega) ⟨aV,fF,by show((jg+1:Nat):Int)<=c.maps;omega⟩ ⟨rfl,rfl,rfl,by show _=_;rw[<-qi jg S];rfl,trivial⟩ ⟨rfl,rfl,rfl,trivial⟩)
  |(intro w' bj;exact⟨_,rfl,bj,rfl⟩)
  |refine eg ?_
  |(refine eh ?_ ?_)
  |with_reducible intro r)<;>(try conv=>whnf))):P:=h
section
variable{z:dk}{G eo:bY}{w0:World}
theorem abc (r:eT) {nM:Array TypeId} {ty:TypeId} {vs:Array Value} {K:Value->an->Prop} {A:Option Addr} {n c:Nat} (ar:bL G r A n c) (x:Value) (k:Nat) (o6:∀w,er z G w->gU eo w0 G w->∃news,iG z G r k news/\Src Tryz.prog r.size r.eN x k news w) (m:Nat) (ad:m=n+k) (aB:m<=1000000000)
  (h:∀bG lY mb,G.le bG->bL bG r lY m mb->K (.slice lY m mb) (cQ z bG eo w0)) (xi:nM=#[r.eN,r.eN]:=by rfl) (ox:vs=#[.slice A n c,x]:=by rfl):bk Tryz.prog (cQ z G eo w0) (Builtin.append_ nM ty vs) K:=by
 constructor
 subst xi ox ad
 intro w au
 obtain⟨news,af,o6⟩:=o6 w au.1 au.2
 obtain⟨i,hi,aT,O,V⟩:=info_parts (C8 r)
 have:=r.QZ
 have ab:(n+k)*r.bytes<=1000000000*96:=Nat.mul_le_mul aB this
 obtain⟨lY,mb,w',bG,fI,aa,ag,a6⟩:=V5 au.1 r.eN r.eN ty r i r.zero r.bytes (zM r) hi aT O V (P4 r) (Yg z G r) A n c ar _ k news af o6 S S
 obtain⟨bU,dh⟩:=Ay au aa ag
 exact⟨_,w',_,fI,bU,dh,h bG lY mb ag.le a6⟩
end
theorem aci{c:hx}{B:Nat->iE}{G:bY}{w:World}(aj:c.k8 B G w)(z:dk):∃news,iG z G .int c.bB news/\Src Tryz.prog eT.int.size eT.int.eN (.slice c.fY c.bB c.dD) c.bB news w:=by
 have aW:∃f:Nat->Int,∀j,j<c.bB->∃g o,c.fY=some ⟨g,o,none⟩/\w.cell? ⟨g,o+j,none⟩=some (J (f j)):=by
  have h:∀j,∃x:Int,j<c.bB->∃g o,c.fY=some ⟨g,o,none⟩/\w.cell? ⟨g,o+j,none⟩=some (J x):=fun j=>by
   by_cases a9:j<c.bB
   ·obtain⟨g,o,x,O,_,_,ag⟩:=aj.c j a9
    exact⟨x,fun _=>⟨g,o,O,ag⟩⟩
   ·exact⟨0,fun h=>absurd h a9⟩
  exact⟨fun j=>Classical.choose (h j),fun j=>Classical.choose_spec (h j)⟩
 obtain⟨f,aK⟩:=aW
 have ai:(is ((List.range c.bB).map f)).length=c.bB:=by simp[is]
 have zb:∀u∈is ((List.range c.bB).map f),u.oneCell'=true:=by
  intro u aS
  simp only[is,ra] at aS
  obtain⟨x,_,rfl⟩:=aS
  rfl
 refine⟨is ((List.range c.bB).map f),?_,?_⟩
 ·have:=Lu z G ((List.range c.bB).map f)
  simpa using this
 ·by_cases aT:c.bB=0
  ·have e:is ((List.range c.bB).map f)=[]:=by rw[aT];rfl
   rw[e,aT]
   rcases c.fY with _|eV
   ·exact Src.ofNil w (zM .int) c.dD
   ·exact Src.ofSlice w (zM .int) eV _ c.dD [] (by simp) (fun j u aS=>by simp at aS) (by simp)
  ·obtain⟨g,o,O,_⟩:=aK 0 S
   rw[O]
   refine Src.ofSlice w (zM .int) _ _ c.dD _ (by rw[ai];simp[eT.size]) (fun j u aS=>?_) zb
   have a9:j<c.bB:=by
    have:=(l0.1 aS).1
    omega
   obtain⟨bH,fX,V,aa⟩:=aK j a9
   rw[O] at V
   injection V with V
   injection V with ag a6
   subst ag a6
   rw[Addr.add_lit,aa]
   simpa[is,a9] using aS
theorem N2(k:Int)(w:World):Calls Tryz.prog 75 #[J k] w (lC w fun v=>v=(kj.mk k none 0 0 none 0 0).val):=by
 refine iy Kc W (hF w) (hF.start w) ?_
 conv=>whnf
 exact JW
def fg.e(d:fg):Value:= .agg #[J d.err,J d.value,.slice d.fY d.bB d.dD,.slice d.gT d.dO d.gP,.slice d.b4 d.ns d.cs,.slice d.lx d.g8 d.ch,.slice d.x9 d.eE d.vC,.slice d.bW d.np d.bI,J d.steps,J d.en,.slice d.bS d.aX d.bb]
theorem fg.Oa(G:bY)(e many:Int):(fg.gf {fg.zero with err:=e,many:=many} G):=⟨bL.nil _ _,bL.nil _ _,bL.nil _ _,bL.nil _ _,bL.nil _ _,bL.nil _ _,bL.nil _ _⟩
theorem Lv(z:dk)(G:bY)(k:Int):iG z G .content 1 [J k,.slice none 0 0,.slice none 0 0]:=
 iG.one rfl ⟨k,none,0,0,none,0,0,rfl,rfl,rfl,bL.nil _ _,bL.nil _ _,fun _=>rfl,Nat.le_refl _,cY _⟩
def Qs(dt:dk)(bG:bY)(v:Value):Prop:=∃d:fg,v=d.e/\d.gf bG/\d.eE<=1000000/\d.np<=1000000/\(d.err=0->d.en<=1->dt.s=true/\d.np=0)
theorem ao7(c:hx)(B:Nat->iE)(w:World)(aj:c.k8 B bY.none w)(aP:∀w',Below w.heap.size w w'->Calls Tryz.prog 32 #[c.val] w' (lC w' fun v=> ∃b,v= .bool b/\(b=true->KA c B))):Calls Tryz.prog 33 #[c.val] w (lb ⟨true,0⟩ bY.none w Qs):=by
 have eA:er ⟨true,0⟩ bY.none w:=er.nil _ w
 refine iy Yc W (cQ ⟨true,0⟩ bY.none bY.none w) (cQ.start eA) ?_
 conv=>whnf
 refine ay.ph [c.val] Yb.dg (fun v=> ∃b,v= .bool b/\(b=true->KA c B)) (fun w' ef jQ=>aP w' jQ.yA) ?_
 rintro v ⟨b,rfl,ab⟩
 conv=>whnf
 refine ba.not (fun h=>?_) (fun h=>?_)
 ·conv=>whnf
  intro w' bj
  exact⟨_,_,_,rfl,bj.1,bj.2,{fg.zero with err:=1},rfl,fg.Oa _ _ _,cY _,cY _,fun h=>absurd h bC⟩
 have R:=ab h
 have j2:=R.bB
 have lU:=R.maps
 have rQ:=R.dj
 have Bq:=R.cF
 clear ab
 conv=>whnf
 refine td .int ?_
 intro fw br gb s1
 conv=>whnf
 refine abc .int s1 (.slice c.fY c.bB c.dD) c.bB (fun w' ef jQ=>aci (aj.ex jQ) _) c.bB S S ?_
 intro gV bf bA dd aV
 conv=>whnf
 refine c9.on (X:=bY×Option Addr×Nat×Nat) (fun(bG,A,n,dD)=> [(1,.p 1 0),(2,.p 2 0),(3,.p 3 0),(4,.v (J n))]) (fun(bG,A,n,dD)=> [(1,25,c.l),(2,33,[J 0,J 0,.slice none 0 0,.slice none 0 0,.slice none 0 0,.slice none 0 0,.slice none 0 0,.slice none 0 0,J 0,J 0,.slice none 0 0]),(3,159,fg.l {fg.zero with fY:=bf,bB:=c.bB,dD:=bA,gT:=A,dO:=n,gP:=dD,many:=1})]) (fun(bG,A,n,dD)=>cQ ⟨true,0⟩ bG bY.none w) (fun(bG,A,n,dD)=>bL bG .int bf c.bB bA/\bL bG .content A n dD/\(n:Int)<=c.maps) (fun(bG,A,n,dD)=>8-n) (gV,none,0,0) ⟨aV,bL.nil _ _,by show(0:Int)<=c.maps;omega⟩ ⟨rfl,rfl,rfl,rfl,trivial⟩ ⟨rfl,rfl,rfl,trivial⟩ ?_
 rintro⟨j5,da,jg,c7⟩ aox ⟨aV,bu,H9⟩
 replace aV:bL j5 .int bf c.bB bA:=aV
 replace bu:bL j5 .content da jg c7:=bu
 replace H9:(jg:Int)<=c.maps:=H9
 conv=>whnf
 refine ba.dec (fun aa=>?_) (fun aa=>?_)
 ·have aa:(jg:Int)<c.maps:=aa
  conv=>whnf
  exact JW
 ·have aa:(jg:Int)=c.maps:=by have aa:¬(jg:Int)<c.maps:=aa;omega
  clear s1
  conv=>whnf
  refine c9.on (X:=bY×Option Addr×Nat×Nat) (fun(bG,A,n,dD)=> [(1,.p 1 0),(2,.p 2 0),(3,.p 3 0),(5,.v (J n))]) (fun(bG,A,n,dD)=> [(1,25,c.l),(2,33,[J 0,J 0,.slice none 0 0,.slice none 0 0,.slice none 0 0,.slice none 0 0,.slice none 0 0,.slice none 0 0,J 0,J 0,.slice none 0 0]),(3,159,fg.l {fg.zero with fY:=bf,bB:=c.bB,dD:=bA,gT:=da,dO:=jg,gP:=c7,b4:=A,ns:=n,cs:=dD,many:=1})]) (fun(bG,A,n,dD)=>cQ ⟨true,0⟩ bG bY.none w) (fun(bG,A,n,dD)=>bL bG .int bf c.bB bA/\bL bG .content da jg c7/\bL bG .content A n dD/\(n:Int)<=c.dj) (fun(bG,A,n,dD)=>8-n) (j5,none,0,0) ⟨aV,bu,bL.nil _ _,by show(0:Int)<=c.dj;omega⟩ ⟨rfl,rfl,rfl,rfl,trivial⟩ ⟨rfl,rfl,rfl,trivial⟩ ?_
  rintro⟨GM,zS,pb,Am⟩ axw ⟨aV,bu,qX,Sx⟩
  replace aV:bL GM .int bf c.bB bA:=aV
  replace bu:bL GM .content da jg c7:=bu
  replace qX:bL GM .content zS pb Am:=qX
  replace Sx:(pb:Int)<=c.dj:=Sx
  conv=>whnf
  refine ba.dec (fun fi=>?_) (fun fi=>?_)
  ·have fi:(pb:Int)<c.dj:=fi
   conv=>whnf
   exact JW
  ·have fi:(pb:Int)=c.dj:=by have fi:¬(pb:Int)<c.dj:=fi;omega
   conv=>whnf
   refine c9.on (X:=bY×Option Addr×Nat×Nat) (fun(bG,A,n,dD)=> [(1,.p 1 0),(2,.p 2 0),(3,.p 3 0),(6,.v (J n))]) (fun(bG,A,n,dD)=> [(1,25,c.l),(2,33,[J 0,J 0,.slice none 0 0,.slice none 0 0,.slice none 0 0,.slice none 0 0,.slice none 0 0,.slice none 0 0,J 0,J 0,.slice none 0 0]),(3,159,fg.l {fg.zero with fY:=bf,bB:=c.bB,dD:=bA,gT:=da,dO:=jg,gP:=c7,b4:=zS,ns:=pb,cs:=Am,lx:=A,g8:=n,ch:=dD,many:=1})]) (fun(bG,A,n,dD)=>cQ ⟨true,0⟩ bG bY.none w) (fun(bG,A,n,dD)=>bL bG .int bf c.bB bA/\bL bG .content da jg c7/\bL bG .content zS pb Am/\bL bG .content A n dD/\(n:Int)<=c.cF) (fun(bG,A,n,dD)=>8-n) (GM,none,0,0) ⟨aV,bu,qX,bL.nil _ _,by show(0:Int)<=c.cF;omega⟩ ⟨rfl,rfl,rfl,rfl,trivial⟩ ⟨rfl,rfl,rfl,trivial⟩ ?_
   rintro⟨Ed,GF,rL,Hd⟩ axx ⟨aV,bu,qX,DD,Sy⟩
   replace aV:bL Ed .int bf c.bB bA:=aV
   replace bu:bL Ed .content da jg c7:=bu
   replace qX:bL Ed .content zS pb Am:=qX
   replace DD:bL Ed .content GF rL Hd:=DD
   replace Sy:(rL:Int)<=c.cF:=Sy
   conv=>whnf
   refine ba.dec (fun rs=>?_) (fun rs=>?_)
   ·have rs:(rL:Int)<c.cF:=rs
    conv=>whnf
    exact JW
   ·have rs:(rL:Int)=c.cF:=by have rs:¬(rL:Int)<c.cF:=rs;omega
    conv=>whnf
    refine ay.ku [fg.val {fg.zero with fY:=bf,bB:=c.bB,dD:=bA,gT:=da,dO:=jg,gP:=c7,b4:=zS,ns:=pb,cs:=Am,lx:=GF,g8:=rL,ch:=Hd,many:=1},c.val,J c.main,.slice none 0 0,.slice none 0 0,J 0] Kd.dg (GY ⟨true,0⟩ {fg.zero with fY:=bf,bB:=c.bB,dD:=bA,gT:=da,dO:=jg,gP:=c7,b4:=zS,ns:=pb,cs:=Am,lx:=GF,g8:=rL,ch:=Hd,many:=1} 0) (fun w' ef jQ=>ars ⟨true,0⟩ Ed w' ef c B (aj.ex jQ) R.b {fg.zero with fY:=bf,bB:=c.bB,dD:=bA,gT:=da,dO:=jg,gP:=c7,b4:=zS,ns:=pb,cs:=Am,lx:=GF,g8:=rL,ch:=Hd,many:=1} ⟨aV,bu,qX,DD,bL.nil _ _,bL.nil _ _,bL.nil _ _⟩ ⟨rfl,by omega,Nat.le_refl _,Nat.le_refl _,Nat.le_refl _,Nat.le_refl _⟩ ⟨rfl,aa,fi,rs,j2,lU.2,rQ.2,Bq.2⟩ c.main 0 none 0 0 (bL.nil _ _) S none 0 0 (bL.nil _ _) (Nat.le_refl _) (fun _=>rfl)) ?_
    rintro Kb r6 v ey ⟨pL,u6,s0,QS,rfl,nu,F⟩
    have m8:pL.eE+5000*0<=0+5000*u6:=F.b.eE
    have p8:pL.np+15000*0<=0+0+15000*u6:=F.b.np
    have wg:=F.b.t64
    have Ji:=F.b.n6
    have ON:=F.lt
    conv=>whnf
    refine ba.ne (fun af=>?_) (fun af=>?_)
    ·conv=>whnf
     intro w' bj
     exact⟨_,_,_,rfl,bj.1,bj.2,{fg.zero with err:=pL.err},rfl,fg.Oa _ _ 0,cY _,cY _,fun h=>absurd h af⟩
    ·conv=>whnf
     intro w' bj
     exact⟨_,_,_,rfl,bj.1,bj.2,{pL with value:=s0},rfl,⟨nu.c,nu.m,nu.s,nu.h,nu.u,nu.p,nu.f⟩,by show pL.eE<=_;omega,by show pL.np<=_;omega,fun _ h=>by
      have h:pL.en<=1:=h
      have:=F.one S
      exact⟨this.1 rfl,this.2⟩⟩
theorem Xp {P:Prop} (h:P:=by
 repeat'((first
  |(intro w' bj;exact⟨_,_,_,rfl,bj.1,bj.2,d,false,rfl,aL,b1,b2,fun h=>by cases h⟩)
  |(intro w' bj;exact⟨_,_,_,rfl,bj.1,bj.2,d,_,rfl,aL,b1,b2,fun ak=>⟨bd (by simpa using Fj),by assumption,by assumption,of_decide_eq_true ak⟩⟩)
  |(refine ay.ph [c.val] atZ.dg tw (fun w' ef jQ=>by rw[<-CP];exact adO (au.on jQ.yA)) ?_;rintro v ⟨b,rfl⟩)
  |(refine ay.ph [c.val] Yb.dg (fun v=> ∃b,v= .bool b/\(b=true->l6 bI cs)) (fun w' ef jQ=>by rw[<-CP];exact VT (au.on jQ.yA)) ?_;rintro v ⟨b,rfl,ab⟩)
  |(exact hA.on true (fun h=>by cases h) ⟨rfl,rfl,rfl,rfl,rfl,rfl,trivial⟩ ⟨rfl,rfl,trivial⟩)
  |(exact hA.on _ (fun h=>ab (by simpa using h)) ⟨rfl,rfl,rfl,rfl,rfl,rfl,trivial⟩ ⟨rfl,rfl,trivial⟩)
  |refine eg ?_
  |(refine eh ?_ ?_<;>(try with_reducible intro h))
  |with_reducible intro r)<;>(try conv=>whnf))):P:=h
def Qk(bI:cr)(cs:List Int)(r0 en:Int)(dt:dk)(bG:bY)(v:Value):Prop:=∃(d:fg) (b:Bool),v= .tuple #[d.e,.bool b]/\d.gf bG/\d.eE<=1000000/\d.np<=1000000/\(b=true->l6 bI cs/\d.err=0/\d.eE<=r0/\d.en<=en)
theorem akP(bI:cr)(cs:List Int)(w:World)(au:nG w bI cs)(r0 en:Int):Calls Tryz.prog 9 #[bI.d.val,J r0,J en] w (lb ⟨true,0⟩ bY.none w (Qk bI cs r0 en)):=by
 generalize CP:bI.d=c
 generalize eZ:bI.B=B
 have aj:c.k8 B bY.none w:=by rw[<-CP,<-eZ];exact au.is
 have eA:er ⟨true,0⟩ bY.none w:=er.nil _ w
 refine iy Ye W (cQ ⟨true,0⟩ bY.none bY.none w) (cQ.start eA) ?_
 conv=>whnf
 refine eS.on (X:=Bool) (fun q=> [(1,.v (J r0)),(2,.v (J en)),(3,.p 3 0),(6,.p 6 0),(7,.v (.bool false)),(16,.v (.bool q))]) (fun _=> [(3,25,c.l),(6,33,[J 0,J 0,.slice none 0 0,.slice none 0 0,.slice none 0 0,.slice none 0 0,.slice none 0 0,.slice none 0 0,J 0,J 0,.slice none 0 0])]) (fun _=>cQ ⟨true,0⟩ bY.none bY.none w) (fun q=>q=false->l6 bI cs) ?_ ?_
 ·conv=>whnf
  exact Xp
 ·intro q r bd
  conv=>whnf
  refine ba.intro (fun h=>?_) (fun Fj=>?_)
  ·conv=>whnf
   intro w' bj
   exact⟨_,_,_,rfl,bj.1,bj.2,fg.zero,false,rfl,fg.Oa _ 0 0,cY _,cY _,fun h=>by cases h⟩
  conv=>whnf
  refine ay.ku [c.val] Yc.dg Qs (fun w' ef jQ=>?_) ?_
  ·exact ao7 c B w' (aj.ex jQ) (fun az hc=>by rw[<-CP,<-eZ];exact(VT ((au.on jQ.yA).on hc)).mono fun e asH ⟨v,O,V,b,aa,ag⟩=>⟨v,O,V,b,aa,fun ab=>aoY au.b (ag ab)⟩)
  rintro s3 fw v gb ⟨d,rfl,aL,b1,b2,ar⟩
  conv=>whnf
  exact Xp
theorem asK {P:Prop} (h:P:=by
 repeat'((first
  |(refine kc .use aL.u i rfl hi ?_;intro b off HS)
  |(refine akF av (fun u=>?_))
  |(exact cC (X:=Nat×Nat×Nat) (i+1,p,a) (by show d.eE-(i+1)<d.eE-i;omega) ⟨by show i+1<=d.eE;omega,by show p<=i+1;omega,by show a<=i+1;omega⟩ ⟨rfl,rfl,rfl,rfl,rfl,rfl,(congrArg (fun x=>cD.v (J x)) (au i S)),trivial⟩ ⟨rfl,rfl,rfl,trivial⟩)
  |(exact cC (X:=Nat×Nat×Nat) (i+1,p,a+1) (by show d.eE-(i+1)<d.eE-i;omega) ⟨by show i+1<=d.eE;omega,by show p<=i+1;omega,by show a+1<=i+1;omega⟩ ⟨rfl,rfl,rfl,rfl,rfl,(congrArg (fun x=>cD.v (J x)) (au a S)),(congrArg (fun x=>cD.v (J x)) (au i S)),trivial⟩ ⟨rfl,rfl,rfl,trivial⟩)
  |(exact cC (X:=Nat×Nat×Nat) (i+1,p+1,a) (by show d.eE-(i+1)<d.eE-i;omega) ⟨by show i+1<=d.eE;omega,by show p+1<=i+1;omega,by show a<=i+1;omega⟩ ⟨rfl,rfl,rfl,rfl,(congrArg (fun x=>cD.v (J x)) (au p S)),rfl,(congrArg (fun x=>cD.v (J x)) (au i S)),trivial⟩ ⟨rfl,rfl,rfl,trivial⟩)
  |(exact cC (X:=Nat×Nat×Nat) (i+1,p+1,a+1) (by show d.eE-(i+1)<d.eE-i;omega) ⟨by show i+1<=d.eE;omega,by show p+1<=i+1;omega,by show a+1<=i+1;omega⟩ ⟨rfl,rfl,rfl,rfl,(congrArg (fun x=>cD.v (J x)) (au p S)),(congrArg (fun x=>cD.v (J x)) (au a S)),(congrArg (fun x=>cD.v (J x)) (au i S)),trivial⟩ ⟨rfl,rfl,rfl,trivial⟩)
  |refine eg ?_
  |(refine eh ?_ ?_<;>(try with_reducible intro ab)<;>(try(exfalso;omega)))
  |with_reducible intro r)<;>(try conv=>whnf))):P:=h
section
theorem ahd{n lo hi:Int}(U:K (.bool (decide (lo<=n/\n<=hi))) (Y H w0 X M)):a4 H w0 X M 77 #[J n,J lo,J hi] K Z:=by
 refine a7 atQ ?_
 intro az aF
 conv=>whnf
 repeat'((first
  |(refine lV U (vD ?_);simp only[decide_eq_true_eq,dH,false_iff];omega)
  |refine ea ?_
  |(refine gs ?_ ?_<;>(try with_reducible intro ab))
  |with_reducible intro r)<;>(try conv=>whnf))
theorem ale{c:h9}(O:Bn c.buckets->BO c->K (.bool true) (Y H w0 X M))(aT:K (.bool false) (Y H w0 X M))(bh:Bn c.buckets):a4 H w0 X M 34 #[.agg c.l.toArray] K Z:=by
 refine a7 atD ?_
 intro az aF
 conv=>whnf
 refine c9.on (X:=Nat×Bool) (fun x=> [(1,.p 1 0),(3,.v (.bool x.2)),(4,.v (J ((2^x.1:Nat):Int)))]) (fun _=> [(1,35,c.l)]) (fun _=>Y H az aF M) (fun x=>x.1<=7) (fun x=>7-x.1) (0,false) bC ⟨rfl,rfl,rfl,trivial⟩ ⟨rfl,trivial⟩ ?_
 intro⟨k,q⟩ j2 Sq
 replace Sq:k<=7:=Sq
 dsimp only
 have ov:k=0\/k=1\/k=2\/k=3\/k=4\/k=5\/k=6\/k=7:=by omega
 have dQ:1<=c.buckets/\c.buckets<=64:=by rcases bh with h|h|h|h|h|h|h<;>omega
 conv=>whnf
 refine ba.dec (fun cc=>?_) (fun cc=>?_)
 ·have e2:IntKind.i64.wrap (2*((2^k:Nat):Int))=((2^(k+1):Nat):Int):=by rcases ov with rfl|rfl|rfl|rfl|rfl|rfl|rfl|rfl<;>rfl
  have MA:k<7:=by
   rcases ov with rfl|rfl|rfl|rfl|rfl|rfl|rfl|rfl
   all_goals first
    |decide
    |exact absurd cc bC
  conv=>whnf
  repeat'((first
   |exact cC (X:=Nat×Bool) (k+1,_) (by show 7-(k+1)<7-k;omega) (by show k+1<=7;omega) ⟨rfl,rfl,(congrArg (fun x=>cD.v (J x)) e2),trivial⟩ ⟨rfl,trivial⟩
   |refine ea ?_
   |(refine gs ?_ ?_<;>(try with_reducible intro ab))
   |with_reducible intro r)<;>(try conv=>whnf))
 conv=>whnf
 repeat'((first
  |refine ahd ?_
  |exact cA aT
  |(refine ba.dec (fun ab=>?_) (fun ab=>?_))
  |(refine ba.v7 (fun ab=>?_) (fun ab=>?_))
  |refine ea ?_
  |(refine gs ?_ ?_<;>(try with_reducible intro ab))
  |with_reducible intro r)<;>(try conv=>whnf))
 refine cA ?_
 by_cases HN:0<=c.cF/\c.cF<=8
 ·rw[show x3 [Value.bool (decide (0<=c.cF/\c.cF<=8))]=Value.bool true by rw[decide_eq_true HN];rfl]
  exact O bh ⟨by assumption,dQ,by assumption,by assumption,by assumption,by assumption,by assumption,HN⟩
 ·rw[show x3 [Value.bool (decide (0<=c.cF/\c.cF<=8))]=Value.bool false by rw[decide_eq_false HN];rfl]
  exact aT
end
theorem Ub{c:h9}(bh:Bn c.buckets)(w:World):Calls Tryz.prog 34 #[.agg c.l.toArray] w (lC w fun v=> ∃b,v= .bool b/\(b=true->BO c)):=
 K0 _ fun K Z U=>ale (fun _ h=>U _ ⟨true,rfl,fun _=>h⟩) (U _ ⟨false,rfl,fun h=>by cases h⟩) bh
section
variable{z:dk}{G eo:bY}{w0:World}
theorem akF{b off:Nat}(h:pw G .use b off){t:TypeId}{K:Value->an->Prop}(U:∀u:um,K u.val (cQ z G eo w0))(bs:t=101:=by rfl):bk Tryz.prog (cQ z G eo w0) (Instr.loadAt t (.pointer (some ⟨b,off,none⟩))) K:=by
 subst bs
 refine IT (e8 101 _ W) rfl (fun l=> ∃u:um,l=[J u.sW,.slice u.A u.n u.c,J u.tX,J u.obj,J u.o0,J u.o1,J u.aQ,J u.bl,J u.v,.bool u.is]) (fun w au=>?_) (fun l ⟨u,ai⟩=>ai▸U u)
 obtain⟨s,A,n,c,O,_,V,_,⟨fL,aa⟩,⟨bT,ag⟩,⟨pr,a6⟩,⟨J3,bU⟩,⟨s0,dh⟩,⟨PX,cT⟩,⟨atb,fz⟩,⟨atc,fi⟩⟩:=h.mg au.1
 refine⟨_,rfl,fun j v ah=>?_,⟨s,A,n,c,fL,bT,pr,J3,s0,PX,atb,atc⟩,rfl⟩
 match j,ah with
 |0,ah=>cases ah;exact O
 |1,ah=>cases ah;exact V
 |2,ah=>cases ah;exact aa
 |3,ah=>cases ah;exact ag
 |4,ah=>cases ah;exact a6
 |5,ah=>cases ah;exact bU
 |6,ah=>cases ah;exact dh
 |7,ah=>cases ah;exact cT
 |8,ah=>cases ah;exact fz
 |9,ah=>cases ah;exact fi
end
structure yd(c:cr)(n:Int)(bb:h9):Prop where
 ok:D6 bb
 bt:bb.bt=n
 cells:bb.cells=(c.bB:Int)
 maps:bb.maps=c.maps
 dj:bb.dj=c.dj
 cF:bb.cF=c.cF
def Qd(c:cr)(n:Int)(v:Value):Prop:=∃(bb:h9) (e:Int),v= .tuple #[.agg bb.l.toArray,J e]/\(e=0->yd c n bb)
theorem anp{k:Nat}(h:k<=6):Bn ((2^k:Nat):Int):=by
 rcases(by omega:k=0\/k=1\/k=2\/k=3\/k=4\/k=5\/k=6) with rfl|rfl|rfl|rfl|rfl|rfl|rfl
 ·exact .inl rfl
 ·exact .inr (.inl rfl)
 ·exact .inr (.inr (.inl rfl))
 ·exact .inr (.inr (.inr (.inl rfl)))
 ·exact .inr (.inr (.inr (.inr (.inl rfl))))
 ·exact .inr (.inr (.inr (.inr (.inr (.inl rfl)))))
 ·exact .inr (.inr (.inr (.inr (.inr (.inr rfl)))))
def I4(b m h a n:Int):Int:=IntKind.i64.wrap (IntKind.i64.wrap (IntKind.i64.wrap (IntKind.i64.wrap (4+IntKind.i64.wrap (b*m))+h)+a)+IntKind.i64.wrap (8*n))
theorem alU{b m h a n:Int}(ab:1<=b/\b<=64)(ad:0<=m/\m<=8)(eb:0<=h/\h<=8)(a8:0<=a/\a<=100)(aB:1<=n/\n<=8):m+h<=I4 b m h a n:=by
 unfold I4
 have O:=Bb (a:=b) (b:=m) (m:=64) (n:=8) S ad
 have V:1*m<=b*m:=Kq ab.1 ad.1
 rw[cK (x:=b*m) S,cK (x:=8*n) S,cK (x:=4+b*m) S,cK (x:=4+b*m+h) S,cK (x:=4+b*m+h+a) S,cK (x:=4+b*m+h+a+8*n) S]
 omega
theorem ad6{c:cr}{cs:List Int}(c3:l6 c cs){n:Int}(aB:1<=n/\n<=8)(z:dk)(G:bY)(w:World)(eA:er z G w)(d:fg)(aL:d.gf G)(aS:d.eE<=100):
  Calls Tryz.prog 10 #[c.d.val,d.e,J n] w (lb z G w fun dt bG v=>Qd c n v):=by
 have ad:=c3.maps
 have ar:=c3.dj
 have eb:=c3.cF
 have aj:=c3.bB
 refine iy XR W (cQ z G G w) (cQ.start eA) ?_
 conv=>whnf
 refine c9.on (X:=Nat×Nat×Nat) (fun x=> [(2,.v (J n)),(3,.p 3 0),(4,.p 4 0),(6,.p 6 0),(8,.v (J (x.2.1:Int))),(9,.v (J (x.2.2:Int))),(10,.v (J (x.1:Int)))]) (fun _=> [(3,25,c.l),(4,33,[J d.err,J d.value,.slice d.fY d.bB d.dD,.slice d.gT d.dO d.gP,.slice d.b4 d.ns d.cs,.slice d.lx d.g8 d.ch,.slice d.x9 d.eE d.vC,.slice d.bW d.np d.bI,J d.steps,J d.en,.slice d.bS d.aX d.bb]),(6,35,[J 0,J 0,J 0,J 0,J 0,J 0,J 0,J 0,J 0])]) (fun _=>cQ z G G w) (fun x=>x.1<=d.eE/\x.2.1<=x.1/\x.2.2<=x.1) (fun x=>d.eE-x.1) (0,0,0) ⟨cY _,Nat.le_refl _,Nat.le_refl _⟩ ⟨rfl,rfl,rfl,rfl,rfl,rfl,rfl,trivial⟩ ⟨rfl,rfl,rfl,trivial⟩ ?_
 intro⟨i,p,a⟩ j2 ⟨O,V,aa⟩
 dsimp only at O V aa|-
 have au:∀k:Nat,k<=100->IntKind.i64.wrap ((k:Int)+1)=((k+1:Nat):Int):=fun k U=>qi k S
 conv=>whnf
 refine ba.dec (fun cc=>?_) (fun cc=>?_)
 ·have hi:i<d.eE:=by omega
  conv=>whnf
  exact asK
 have a8:a<=100:=by omega
 clear O V aa cc
 conv=>whnf
 repeat'((first
  |exact absurd ‹(2:Int)=0› bC
  |refine ea ?_
  |(refine gs ?_ ?_<;>(try with_reducible intro ab)<;>(try(exfalso;omega)))
  |with_reducible intro r)<;>(try conv=>whnf))
 all_goals
  generalize rD:IntKind.i64.wrap ((IntKind.i64.wrap (n+1)).tdiv 2)=eN
  first
   |refine c9.on (X:=Nat) (fun _=> [(2,.v (J n)),(3,.p 3 0),(6,.p 6 0),(8,.v (J (p:Int))),(9,.v (J (a:Int))),(12,.p 12 0)]) (fun k=> [(3,25,c.l),(6,35,(h9.mk 0 0 0 0 0 0 0 0 0).l),(12,35,(h9.mk n 0 ((2^k:Nat):Int) eN 1 c.bB c.maps c.dj c.cF).l)]) (fun _=>cQ z G G w) (fun k=>k<=6) (fun k=>6-k) 0 bC ⟨rfl,rfl,rfl,rfl,rfl,rfl,trivial⟩ ⟨rfl,rfl,rfl,trivial⟩ ?_
   |refine c9.on (X:=Nat) (fun _=> [(2,.v (J n)),(3,.p 3 0),(6,.p 6 0),(8,.v (J (p:Int))),(9,.v (J (a:Int))),(12,.p 12 0)]) (fun k=> [(3,25,c.l),(6,35,(h9.mk 0 0 0 0 0 0 0 0 0).l),(12,35,(h9.mk n 0 ((2^k:Nat):Int) eN d.en c.bB c.maps c.dj c.cF).l)]) (fun _=>cQ z G G w) (fun k=>k<=6) (fun k=>6-k) 0 bC ⟨rfl,rfl,rfl,rfl,rfl,rfl,trivial⟩ ⟨rfl,rfl,rfl,trivial⟩ ?_
  intro k lU U
  have ov:k=0\/k=1\/k=2\/k=3\/k=4\/k=5\/k=6:=by omega
  have dQ:1<=((2^k:Nat):Int)/\((2^k:Nat):Int)<=64:=by rcases ov with rfl|rfl|rfl|rfl|rfl|rfl|rfl<;>decide
  have e2:IntKind.i64.wrap (2*((2^k:Nat):Int))=((2^(k+1):Nat):Int):=by rcases ov with rfl|rfl|rfl|rfl|rfl|rfl|rfl<;>rfl
  have MA:((2^k:Nat):Int)<64->k<6:=by
   rcases ov with rfl|rfl|rfl|rfl|rfl|rfl|rfl<;>intro h
   all_goals first
    |decide
    |exact absurd h bC
  have eC:=alU (b:=((2^k:Nat):Int)) (m:=c.maps) (h:=c.cF) (a:=(a:Int)) (n:=n) dQ ad eb ⟨by omega,by omega⟩ aB
  have sE:=anp U
  conv=>whnf
  repeat'((first
   |exact cC (X:=Nat) (k+1) (by have:=MA av;show 6-(k+1)<6-k;omega) (by have:=MA av;show k+1<=6;omega) ⟨rfl,rfl,rfl,rfl,rfl,rfl,trivial⟩ ⟨rfl,rfl,(congrArg (fun x=>some (35,(h9.mk n 0 x eN _ c.bB c.maps c.dj c.cF).l)) e2),trivial⟩
   |(refine ay.ph [.agg (h9.mk n 0 ((2^k:Nat):Int) eN 1 c.bB c.maps c.dj c.cF).l.toArray] Yd.dg (fun v=> ∃b,v= .bool b/\(b=true->BO (h9.mk n 0 ((2^k:Nat):Int) eN 1 c.bB c.maps c.dj c.cF))) (fun w' _ _=>Ub sE w') ?_;rintro v ⟨b,rfl,eZ⟩)
   |(refine ay.ph [.agg (h9.mk n 0 ((2^k:Nat):Int) eN d.en c.bB c.maps c.dj c.cF).l.toArray] Yd.dg (fun v=> ∃b,v= .bool b/\(b=true->BO (h9.mk n 0 ((2^k:Nat):Int) eN d.en c.bB c.maps c.dj c.cF))) (fun w' _ _=>Ub sE w') ?_;rintro v ⟨b,rfl,eZ⟩)
   |refine ea ?_
   |(refine gs ?_ ?_<;>(try with_reducible intro ab)<;>(try(exfalso;omega)))
   |with_reducible intro r)<;>(try conv=>whnf))
  all_goals first
   |exact⟨z,G,_,rfl,(show(cQ z G G w).R _ by assumption).1,(show(cQ z G G w).R _ by assumption).2,h9.mk 0 0 0 0 0 0 0 0 0,1,rfl,fun h=>absurd h bC⟩
   |exact⟨z,G,_,rfl,(show(cQ z G G w).R _ by assumption).1,(show(cQ z G G w).R _ by assumption).2,h9.mk 0 0 0 0 0 0 0 0 0,8,rfl,fun h=>absurd h bC⟩
   |(have eZ:=eZ av
     exact⟨z,G,_,rfl,(show(cQ z G G w).R _ by assumption).1,(show(cQ z G G w).R _ by assumption).2,h9.mk n (I4 ((2^k:Nat):Int) c.maps c.cF (a:Int) n) ((2^k:Nat):Int) eN 1 c.bB c.maps c.dj c.cF,0,rfl,fun _=>⟨⟨⟨eZ.bt,eZ.buckets,eZ.h6,eZ.en,eZ.cells,eZ.maps,eZ.dj,eZ.cF⟩,sE,eC,Int.not_lt.1 ab⟩,rfl,rfl,rfl,rfl,rfl⟩⟩)
   |(have eZ:=eZ av
     exact⟨z,G,_,rfl,(show(cQ z G G w).R _ by assumption).1,(show(cQ z G G w).R _ by assumption).2,h9.mk n (I4 ((2^k:Nat):Int) c.maps c.cF (a:Int) n) ((2^k:Nat):Int) eN d.en c.bB c.maps c.dj c.cF,0,rfl,fun _=>⟨⟨⟨eZ.bt,eZ.buckets,eZ.h6,eZ.en,eZ.cells,eZ.maps,eZ.dj,eZ.cF⟩,sE,eC,Int.not_lt.1 ab⟩,rfl,rfl,rfl,rfl,rfl⟩⟩)
theorem acD{x:Int}(aW:0<=x/\x<256){C:an}{K:Value->an->Prop}(h:K (J x) C):bk Tryz.prog C (convert 5 3 (.int .u8 x)) K:=by
 refine nc (fun w=>?_) h
 have O:(Tryz.prog.underlying 5).isSome=true:=by kernel_rfl
 have V:Tryz.prog.underlying 3=some (.int .i64):=by kernel_rfl
 have aa:Tryz.prog.intKind 3= .i64:=by kernel_rfl
 have ag:=run_convert_int (P:=Tryz.prog) w 5 3 .u8 x O bP
 rw[ag,aa,cK S]
def wm(s:Int):Int:=1+s.tmod 3
theorem Wj{s:Int}(h:0<=s/\s<=255):1<=wm s/\wm s<=3:=by
 have O:=zV 3 h.1
 have V:=BZ s (b:=3) bC
 unfold wm
 omega
def Qa(c:cr)(cs:List Int)(s:Int)(aM:Nat)(v:Value):Prop:=∃(d:fg) (bb:h9) (b:Bool),v= .tuple #[d.e,.agg bb.l.toArray,.bool b]/\(b=true->l6 c cs/\yd c (wm s) bb/\aM<=200)
theorem adQ{c:cr}{cs:List Int}{w:World}(au:nG w c cs){s:Int}(ar:0<=s/\s<=255){bK:Option Addr}{aM bD:Nat}{r0:Int}(aS:r0<=100):Calls Tryz.prog 4 #[c.d.val,.int .u8 s,.slice bK aM bD,J r0] w (lb ⟨true,0⟩ bY.none w fun dt bG v=>Qa c cs s aM v):=by
 have eA:er ⟨true,0⟩ bY.none w:=er.nil _ w
 have aB:=Wj ar
 have C6:IntKind.i64.wrap (1+s.tmod 3)=wm s:=cK (by unfold wm at aB;omega)
 refine iy vi W (cQ ⟨true,0⟩ bY.none bY.none w) (cQ.start eA) ?_
 conv=>whnf
 repeat'((first
  |(refine ay.ku [c.d.val,J r0,J 10] Ye.dg (Qk c cs r0 10) (fun w' ef jQ=>akP c cs w' (au.on jQ.yA) r0 10) ?_;rintro s3 fw v gb ⟨d,b,rfl,aL,_,_,jT⟩)
  |exact absurd ‹(3:Int)=0› bC
  |refine acD S ?_
  |(refine ay.ku [c.d.val,d.e,J (IntKind.i64.wrap (1+s.tmod 3))] XR.dg (fun dt bG v=>Qd c (wm s) v) (fun w' ef jQ=>by rw[C6];exact ad6 (jT av).1 S _ _ w' ef d aL (by have:=(jT av).2.2.1;omega)) ?_;rintro q4 gV v dd ⟨bb,hB,rfl,CQ⟩)
  |refine ea ?_
  |(refine gs ?_ ?_<;>(try with_reducible intro ab))
  |with_reducible intro r)<;>(try conv=>whnf))
 all_goals first
  |exact⟨_,_,_,rfl,(show(cQ _ _ _ w).R _ by assumption).1,(show(cQ _ _ _ w).R _ by assumption).2,d,h9.mk 0 0 0 0 0 0 0 0 0,false,rfl,fun h=>by cases h⟩
  |exact⟨_,_,_,rfl,(show(cQ _ _ _ w).R _ by assumption).1,(show(cQ _ _ _ w).R _ by assumption).2,d,bb,_,rfl,fun h=>⟨(jT av).1,CQ (by simpa using h),by omega⟩⟩
end Go.Proofs.YtcflcebplhdcpaaGreat
