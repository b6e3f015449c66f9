/- Lemmas, part 21; each states its own conditions. -/
import Derived.Test.YtcflcebplhdcpaaGreatL13
namespace Go.Proofs.YtcflcebplhdcpaaGreat
open Go.RowKit
set_option linter.unusedSimpArgs false
set_option linter.unusedVariables false
set_option maxRecDepth 100000
set_option maxHeartbeats 16000000
variable{H w0:World}{X:Nat->Prop}{M:aw}{K:Value->an->Prop}{Z:bF}
structure bR where
 aA:Int
 aH:Int
 fail:Bool
 loc:List Int
 aO:List Int
structure z9 where
 kind:Int
 a:Int:=0
 b:Int:=0
 o0:Int:=0
 o1:Int:=0
 aQ:Int:=0
 bl:Int:=0
 got:List Int:=[]
inductive ui where
 |go (f:bR)
 |ask (f:bR) (q:z9)
 |err (e:Int)
inductive Qo where
 |ok (f:bR) (q:z9)
 |err (e:Int)
def bR.ej(f:bR):bR:={f with aA:=f.aA+1,aH:=f.aH+1}
def bR.pop(f:bR)(m:Nat):bR:={f with aO:=f.aO.take (f.aO.length-m)}
def bR.at_(f:bR)(m j:Nat):Int:=(f.aO.drop (f.aO.length-m)).getD j 0
def bR.two(f:bR)(r:Int):ui:=if 2<=f.aO.length then .go {f.pop 2 with aO:=f.aO.take (f.aO.length-2)++[r]}.ej else .err 1
def ij(f:bR)(al7:Int)(JL:Nat)(key:Bool)(kind b c:Int):ui:=
 if 0<=b/\b<al7/\c=JL/\JL<=f.aO.length then
  let GB:=f.aO.drop (f.aO.length-JL)++[0,0]
  .ask (f.pop JL).ej {kind:=3,o0:=kind,o1:=b,aQ:=(if key then GB.getD 0 0%65536 else GB.getD 0 0),bl:=GB.getD 1 0}
 else .err 1
def gD(k:hg)(cW:Int->Int)(f:bR)(i:fe):ui:=
 if i.op=1 then(if 0<=i.a/\i.a<4294967296/\f.aO.length<100 then .go {f with aO:=f.aO++[i.a]}.ej else .err 1)
 else if i.op=2 then
  if ¬(0<=i.a/\i.a<f.loc.length) then .err 1 else if se k.kids i.a=true then .ask f {kind:=5} else
  if f.aO.length<100 then .go {f with aO:=f.aO++[f.loc.getD i.a.toNat 0]}.ej else .err 1
 else if i.op=3 then
  if ¬(0<=i.a/\i.a<f.loc.length) then .err 1 else if se k.kids i.a=true then .ask f {kind:=5} else
  if 1<=f.aO.length then .go {f.pop 1 with loc:=f.loc.set i.a.toNat (f.at_ 1 0)}.ej else .err 1
 else if i.op=4 then(if 0<=i.a/\i.a<k.bB then .ask f.ej {kind:=1,a:=i.a} else .err 1)
 else if i.op=5 then(if(0<=i.a/\i.a<k.bB)/\1<=f.aO.length then .ask (f.pop 1).ej {kind:=2,a:=i.a,b:=f.at_ 1 0} else .err 1)
 else if i.op=6 then f.two (IntKind.i64.wrap (f.at_ 2 0+f.at_ 2 1)%4294967296)
 else if i.op=7 then f.two (IntKind.i64.wrap (f.at_ 2 0-f.at_ 2 1)%4294967296)
 else if i.op=8 then f.two (IntKind.i64.wrap (f.at_ 2 0*f.at_ 2 1)%4294967296)
 else if i.op=9 then f.two (if f.at_ 2 0<f.at_ 2 1 then 1 else 0)
 else if i.op=10 then f.two (if f.at_ 2 0=f.at_ 2 1 then 1 else 0)
 else if i.op=11 then
  if i.a=1 then ij f k.maps 1 true 1 i.b i.c else if i.a=2 then ij f k.maps 2 true 2 i.b i.c else if i.a=3 then ij f k.maps 1 true 3 i.b i.c
  else if i.a=4 then ij f k.dj 1 false 4 i.b i.c else if i.a=5 then ij f k.dj 0 false 5 i.b i.c
  else if i.a=6 then ij f k.cF 1 false 6 i.b i.c else if i.a=7 then ij f k.cF 0 false 7 i.b i.c else .err 1
 else if i.op=12 then(if 1<=f.aO.length then .go (f.pop 1).ej else .err 1)
 else if i.op=13 then
  if 0<=i.b/\(0<=i.a/\i.a<k.aX)/\(i.c= -1\/0<=i.c/\i.c<f.loc.length)/\i.b=cW i.a/\i.b<=f.aO.length then
   .ask (f.pop i.b.toNat).ej {kind:=4,a:=i.a,b:=i.c,got:=f.aO.drop (f.aO.length-i.b.toNat)}
  else .err 1
 else if i.op=14 then(if k.a5≠0 then .ask f {kind:=5} else .go f.ej)
 else if i.op=15 then(if 0<=i.a/\i.a<k.b6 then .go {f with aA:=i.a,aH:=f.aH+1} else .err 1)
 else if i.op=16 then(if(0<=i.a/\i.a<k.b6)/\1<=f.aO.length then(if f.at_ 1 0=0 then .go {f.pop 1 with aA:=i.a,aH:=f.aH+1} else .go (f.pop 1).ej) else .err 1)
 else if i.op=17 then(if k.a5≠0 then .ask f {kind:=5} else if 1<=f.aO.length then .ask (f.pop 1).ej {kind:=6,a:=f.at_ 1 0} else .err 1)
 else if i.op=18 then(if 1<=f.aO.length then(if f.at_ 1 0=0 then .go {f.pop 1 with fail:=true}.ej else .go (f.pop 1).ej) else .err 1)
 else f.two (IntKind.i64.wrap ((IntKind.i64.wrap (f.at_ 2 0+f.at_ 2 1)).tdiv 2))
theorem S2{k:hg}{cW:Int->Int}{f:bR}{i:fe}(h:i.op=1):gD k cW f i=((if 0<=i.a/\i.a<4294967296/\f.aO.length<100 then .go {f with aO:=f.aO++[i.a]}.ej else .err 1)):=by
 unfold gD
 simp only[h]
 simp
theorem Ix{k:hg}{cW:Int->Int}{f:bR}{i:fe}(h:i.op=2):gD k cW f i=(if ¬(0<=i.a/\i.a<f.loc.length) then .err 1 else if se k.kids i.a=true then .ask f {kind:=5} else
  if f.aO.length<100 then .go {f with aO:=f.aO++[f.loc.getD i.a.toNat 0]}.ej else .err 1):=by
 unfold gD
 simp only[h]
 simp
theorem Iy{k:hg}{cW:Int->Int}{f:bR}{i:fe}(h:i.op=3):gD k cW f i=(if ¬(0<=i.a/\i.a<f.loc.length) then .err 1 else if se k.kids i.a=true then .ask f {kind:=5} else
  if 1<=f.aO.length then .go {f.pop 1 with loc:=f.loc.set i.a.toNat (f.at_ 1 0)}.ej else .err 1):=by
 unfold gD
 simp only[h]
 simp
theorem S7{k:hg}{cW:Int->Int}{f:bR}{i:fe}(h:i.op=4):gD k cW f i=((if 0<=i.a/\i.a<k.bB then .ask f.ej {kind:=1,a:=i.a} else .err 1)):=by
 unfold gD
 simp only[h]
 simp
theorem S8{k:hg}{cW:Int->Int}{f:bR}{i:fe}(h:i.op=5):gD k cW f i=((if(0<=i.a/\i.a<k.bB)/\1<=f.aO.length then .ask (f.pop 1).ej {kind:=2,a:=i.a,b:=f.at_ 1 0} else .err 1)):=by
 unfold gD
 simp only[h]
 simp
theorem S9{k:hg}{cW:Int->Int}{f:bR}{i:fe}(h:i.op=6):gD k cW f i=(f.two (IntKind.i64.wrap (f.at_ 2 0+f.at_ 2 1)%4294967296)):=by
 unfold gD
 simp only[h]
 simp
theorem Ta{k:hg}{cW:Int->Int}{f:bR}{i:fe}(h:i.op=7):gD k cW f i=(f.two (IntKind.i64.wrap (f.at_ 2 0-f.at_ 2 1)%4294967296)):=by
 unfold gD
 simp only[h]
 simp
theorem Tb{k:hg}{cW:Int->Int}{f:bR}{i:fe}(h:i.op=8):gD k cW f i=(f.two (IntKind.i64.wrap (f.at_ 2 0*f.at_ 2 1)%4294967296)):=by
 unfold gD
 simp only[h]
 simp
theorem Nh{k:hg}{cW:Int->Int}{f:bR}{i:fe}(h:i.op=9):gD k cW f i=(f.two (if f.at_ 2 0<f.at_ 2 1 then 1 else 0)):=by
 unfold gD
 simp only[h]
 simp
theorem Nb{k:hg}{cW:Int->Int}{f:bR}{i:fe}(h:i.op=10):gD k cW f i=(f.two (if f.at_ 2 0=f.at_ 2 1 then 1 else 0)):=by
 unfold gD
 simp only[h]
 simp
theorem qE{k:hg}{cW:Int->Int}{f:bR}{i:fe}(h:i.op=11):gD k cW f i=(if i.a=1 then ij f k.maps 1 true 1 i.b i.c else if i.a=2 then ij f k.maps 2 true 2 i.b i.c else if i.a=3 then ij f k.maps 1 true 3 i.b i.c
  else if i.a=4 then ij f k.dj 1 false 4 i.b i.c else if i.a=5 then ij f k.dj 0 false 5 i.b i.c
  else if i.a=6 then ij f k.cF 1 false 6 i.b i.c else if i.a=7 then ij f k.cF 0 false 7 i.b i.c else .err 1):=by
 unfold gD
 simp only[h]
 simp
theorem S3{k:hg}{cW:Int->Int}{f:bR}{i:fe}(h:i.op=12):gD k cW f i=((if 1<=f.aO.length then .go (f.pop 1).ej else .err 1)):=by
 unfold gD
 simp only[h]
 simp
theorem Nc{k:hg}{cW:Int->Int}{f:bR}{i:fe}(h:i.op=13):gD k cW f i=(if 0<=i.b/\(0<=i.a/\i.a<k.aX)/\(i.c= -1\/0<=i.c/\i.c<f.loc.length)/\i.b=cW i.a/\i.b<=f.aO.length then
  .ask (f.pop i.b.toNat).ej {kind:=4,a:=i.a,b:=i.c,got:=f.aO.drop (f.aO.length-i.b.toNat)}
  else .err 1):=by
 unfold gD
 simp only[h]
 simp
theorem S4{k:hg}{cW:Int->Int}{f:bR}{i:fe}(h:i.op=14):gD k cW f i=((if k.a5≠0 then .ask f {kind:=5} else .go f.ej)):=by
 unfold gD
 simp only[h]
 simp
theorem S5{k:hg}{cW:Int->Int}{f:bR}{i:fe}(h:i.op=15):gD k cW f i=((if 0<=i.a/\i.a<k.b6 then .go {f with aA:=i.a,aH:=f.aH+1} else .err 1)):=by
 unfold gD
 simp only[h]
 simp
theorem Nd{k:hg}{cW:Int->Int}{f:bR}{i:fe}(h:i.op=16):gD k cW f i=((if(0<=i.a/\i.a<k.b6)/\1<=f.aO.length then(if f.at_ 1 0=0 then .go {f.pop 1 with aA:=i.a,aH:=f.aH+1} else .go (f.pop 1).ej) else .err 1)):=by
 unfold gD
 simp only[h]
 simp
theorem Nf{k:hg}{cW:Int->Int}{f:bR}{i:fe}(h:i.op=17):gD k cW f i=((if k.a5≠0 then .ask f {kind:=5} else if 1<=f.aO.length then .ask (f.pop 1).ej {kind:=6,a:=f.at_ 1 0} else .err 1)):=by
 unfold gD
 simp only[h]
 simp
theorem Ng{k:hg}{cW:Int->Int}{f:bR}{i:fe}(h:i.op=18):gD k cW f i=((if 1<=f.aO.length then(if f.at_ 1 0=0 then .go {f.pop 1 with fail:=true}.ej else .go (f.pop 1).ej) else .err 1)):=by
 unfold gD
 simp only[h]
 simp
theorem S6{k:hg}{cW:Int->Int}{f:bR}{i:fe}(h:i.op=19):gD k cW f i=(f.two (IntKind.i64.wrap ((IntKind.i64.wrap (f.at_ 2 0+f.at_ 2 1)).tdiv 2))):=by
 unfold gD
 simp only[h]
 simp
def iQ(b:nj)(aA:Int):fe:=b.ins.getD aA.toNat ⟨0,0,0,0⟩
def qd(k:hg)(cW:Int->Int)(b:nj)(f:bR):ui:=
 if f.aH=2000 then .err 11 else
 if ¬(0<=f.aA/\f.aA<b.b6) then .err 1 else
 if ¬(1<=(iQ b f.aA).op/\(iQ b f.aA).op<20) then .err 1 else gD k cW f (iQ b f.aA)
def nb(k:hg)(cW:Int->Int)(b:nj):Nat->bR->Qo
 |0,_=> .err 11
 |n+1,f=>match qd k cW b f with
  | .go c6=>nb k cW b n c6
  | .ask c6 q=> .ok c6 q
  | .err e=> .err e
section
variable{k:hg}{cW:Int->Int}{b:nj}{n:Nat}{f c6:bR}
theorem apf(h:qd k cW b f= .go c6):nb k cW b (n+1) f=nb k cW b n c6:=by simp only[nb,h]
theorem apd{q:z9}(h:qd k cW b f= .ask c6 q):nb k cW b (n+1) f= .ok c6 q:=by simp only[nb,h]
theorem ape{e:Int}(h:qd k cW b f= .err e):nb k cW b (n+1) f= .err e:=by simp only[nb,h]
end
def gh(c:cr)(f:a3)(bW:Option Addr)(bI:Nat)(bq:Option Addr)(bZ:Nat):hg:=⟨c.bS,c.aX,c.bb,c.fY,c.bB,c.dD,c.maps,c.dj,c.cF,c.main,(b8 c f.fn).args,(b8 c f.fn).locals,(b8 c f.fn).eU,(b8 c f.fn).b6,(b8 c f.fn).ci,f.task,bW,f.np,bI,f.fn,bq,f.a5,bZ,f.many,f.path,f.kids⟩
def jh(c:cr)(f:a3):Qo:=nb (gh c f none 0 none 0) (fun a=>(b8 c a).args) (b8 c f.fn) (2001-f.aH.toNat) ⟨f.aA,f.aH,f.fail,f.loc,f.aO⟩
def ez(v:mS):bR:=⟨v.aA,v.aH,v.fail,v.loc,v.aO⟩
def gL(q:l5):z9:=⟨q.kind,q.a,q.b,q.o0,q.o1,q.aQ,q.bl,q.got⟩
structure ys(q:l5):Prop where
 len:q.ev=q.got.length
 cap:q.ev<=q.bp
 A:0<q.bp->∃b,q.ed=some ⟨b,0,none⟩
section
theorem TG:∀(l:List jq),∀u∈ks l,u.oneCell'=true
 |[],u,h=>by cases h
 |k::l,u,h=>by
  simp only[ks,mz] at h
  rcases h with rfl|rfl|h
  ·rfl
  ·rfl
  ·exact TG l u h
theorem fG.nil{n c:Nat}{xs:List Int}(h:fG H none n c xs):n=0/\xs=[]:=by
 have:is xs=[]:=by
  rcases h.rd with h|⟨_,_,h,_⟩
  ·exact h
  ·cases h
 have e:xs=[]:=by simpa[is] using this
 exact⟨by have:=h.len;rw[e] at this;simpa using this,e⟩
theorem vr.nil{n c:Nat}{xs:List jq}(h:vr H none n c xs):n=0/\xs=[]:=by
 have:ks xs=[]:=by
  rcases h.rd with h|⟨_,_,h,_⟩
  ·exact h
  ·cases h
 have e:xs=[]:=by
  cases xs with
  |nil=>rfl
  |cons k l=>simp[ks] at this
 exact⟨by have:=h.len;rw[e] at this;simpa using this,e⟩
theorem yG{A:Option Addr}{n c:Nat}{xs:List Int}(h:fG H A n c xs)(U:∀aR aN,n<=aN->(0<aN->∃b,aR=some ⟨b,0,none⟩)->K (.slice aR n aN) (Y H w0 X ((.slice aR n aN,.row 3 1 (is xs))::M))):ay Tryz.prog (Y H w0 X M) 51 #[.slice A n c] K Z:=by
 refine a7 ajW ?_
 intro az aF
 conv=>whnf
 refine F7 gK.eN ?_
 cases A with
 |none=>
  conv=>whnf
  obtain⟨rfl,rfl⟩:=h.nil
  exact cd.imp (K:=K) _ (aJ.nil M none 3 1) (U none 0 (Nat.le_refl _) (fun h=>absurd h S))
 |some a=>
  conv=>whnf
  refine hb gK W ?_
  conv=>whnf
  refine⟨by rfl,fun a0=>?_⟩
  conv=>whnf
  refine QQ xs (fy.fk gK h.rd (by have:=h.len;simp;omega) (IB _)) rfl (by have:=h.dB;omega) ?_
  intro aR aN jd fE
  conv=>whnf
  exact cd.drop (K:=K) _ (s5 _ (yf _ (List.Sublist.refl _))) (U aR aN jd fE)
theorem acv{A:Option Addr}{n c:Nat}{xs:List jq}(h:vr H A n c xs)(U:∀aR aN,n<=aN->(0<aN->∃b,aR=some ⟨b,0,none⟩)->K (.slice aR n aN) (Y H w0 X ((.slice aR n aN,.row 252 2 (ks xs))::M))):ay Tryz.prog (Y H w0 X M) 169 #[.slice A n c] K Z:=by
 refine a7 ahN ?_
 intro az aF
 conv=>whnf
 refine F7 As.eN ?_
 cases A with
 |none=>
  conv=>whnf
  obtain⟨rfl,rfl⟩:=h.nil
  exact cd.imp (K:=K) _ (aJ.nil M none 252 2) (U none 0 (Nat.le_refl _) (fun h=>absurd h S))
 |some a=>
  conv=>whnf
  refine hb As W ?_
  conv=>whnf
  refine⟨by rfl,fun a0=>?_⟩
  conv=>whnf
  refine EB As (fy.fk As h.rd (by rw[Fw];have:=h.len;omega) (TG _)) (by have:=h.dB;omega) ?_
  intro aR aN jd fE
  conv=>whnf
  exact cd.drop (K:=K) _ (s5 _ (yf _ (List.Sublist.refl _))) (U aR aN jd fE)
def zy(f:a3)(bW:Option Addr)(bI:Nat)(bK:Option Addr)(bD:Nat)(b4:Option Addr)(cs:Nat)(bq:Option Addr)(bZ:Nat)(M:aw):aw:=
 (.slice bq f.a5 bZ,.row 252 2 (ks f.kids))::(.slice b4 f.ns cs,.row 3 1 (is f.aO))::(.slice bK f.aM bD,.row 3 1 (is f.loc))::(.slice bW f.np bI,.row 3 1 (is f.path))::M
structure GI(f:a3)(bW:Option Addr)(bI:Nat)(bK:Option Addr)(bD:Nat)(b4:Option Addr)(cs:Nat)(bq:Option Addr)(bZ:Nat):Prop where
 avZ:f.np<=bI
 L9:0<bI->∃b,bW=some ⟨b,0,none⟩
 gw:f.aM<=bD
 L7:0<bD->∃b,bK=some ⟨b,0,none⟩
 jV:f.ns<=cs
 aeJ:0<cs->∃b,b4=some ⟨b,0,none⟩
 yZ:f.a5<=bZ
 E4:0<bZ->∃b,bq=some ⟨b,0,none⟩
theorem Ra{f:a3}(aK:i1 H f)(U:∀bW bI bK bD b4 cs bq bZ,GI f bW bI bK bD b4 cs bq bZ->K (.agg {f with bW:=bW,bI:=bI,bK:=bK,bD:=bD,b4:=b4,cs:=cs,bq:=bq,bZ:=bZ:a3}.l.toArray) (Y H w0 X (zy f bW bI bK bD b4 cs bq bZ M))):ay Tryz.prog (Y H w0 X M) 125 #[.agg f.l.toArray] K Z:=by
 refine a7 ahA ?_
 intro az aF
 conv=>whnf
 refine yG aK.path fun bW bI O V=>?_
 conv=>whnf
 refine yG aK.loc fun bK bD aa ag=>?_
 conv=>whnf
 refine yG aK.aO fun b4 cs a6 bU=>?_
 conv=>whnf
 refine acv aK.kids fun bq bZ dh cT=>?_
 conv=>whnf
 exact cd.drop (K:=K) _ (List.Sublist.refl _) (U bW bI bK bD b4 cs bq bZ ⟨O,V,aa,ag,a6,bU,dh,cT⟩)
end
section
abbrev qx(f:FuncId):Value:= .func (.func f) #[] #[]
abbrev Ao(b:Nat):Value:= .func (.func 242) #[] #[ae b]
def x2(b1 b2 du dv eu i2:Nat):List Value:=[.nilFunc,qx 170,qx 171,qx 172,qx 173,qx 174,Ao b1,Ao b2,Ao du,Ao dv,Ao eu,qx 183,qx 184,qx 185,qx 186,qx 187,qx 188,qx 189,qx 190,Ao i2]
def Be(b f:Nat):Value×aY:=(ae b,.cs 164 [qx f])
def xE(b1 b2 du dv eu i2:Nat)(M:aw):aw:=Be i2 191::Be eu 182::Be dv 180::Be du 179::Be b2 178::Be b1 176::M
theorem DA(f:FuncId)(U:∀b,K (Ao b) (Y H w0 X (Be b f::M))):ay Tryz.prog (Y H w0 X M) 175 #[qx f] K Z:=by
 refine a7 ahT ?_
 intro az aF
 conv=>whnf
 refine h2 _ rfl fun b=>?_
 conv=>whnf
 refine kZ W ?_
 conv=>whnf
 exact cd.drop (K:=K) _ (List.Sublist.refl _) (U b)
theorem aqJ(U:∀b1 b2 du dv eu i2,K (.agg (x2 b1 b2 du dv eu i2).toArray) (Y H w0 X (xE b1 b2 du dv eu i2 M))):ay Tryz.prog (Y H w0 X M) 126 #[] K Z:=by
 refine a7 ahB ?_
 intro az aF
 conv=>whnf
 refine DA _ fun b1=>?_
 conv=>whnf
 refine DA _ fun b2=>?_
 conv=>whnf
 refine DA _ fun du=>?_
 conv=>whnf
 refine DA _ fun dv=>?_
 conv=>whnf
 refine DA _ fun eu=>?_
 conv=>whnf
 refine DA _ fun i2=>?_
 conv=>whnf
 refine yC (n:=20) (e:=212) bP aD aD ?_
 conv=>whnf
 exact cd.drop (K:=K) _ (List.Sublist.refl _) (U b1 b2 du dv eu i2)
end
section
variable{H w0:World}{X:Nat->Prop}{M:aw}{K:FrameMode->an->Prop}
abbrev qs:List Value:=[J 0,J 0,J 0,J 0,J 0,J 0,J 0,.slice none 0 0]
abbrev Ur(p3 lq lR lS:Nat):Deferred:={target:= .fn (.func 124) #[ae p3,ae lq,ae lR,ae lS],args:=#[]}
def tI(f g:a3)(a:List Value)(e:Int)(p3 lq lR lS:Nat)(M:aw):aw:=(ae lS,.cs 27 [J e])::(ae lR,.cs 74 a)::(ae lq,.cs 108 g.l)::(ae p3,.cs 108 f.l)::M
theorem apc{w:World}{e:Int}:(Instr.typeAssert (iX e) 20 27 true).run Tryz.prog w= .ok (.tuple #[J e,.bool true]) w:=by
 have aS:Tryz.prog.underlying 27=some (.int .i64):=by kernel_rfl
 simp[Instr.typeAssert,run_underlying aS]
theorem amq{ao:Operand->Value}{o:Oper}{x:Operand}{e:Int}(aU:o.op= .typeAssert x 20 27 true)(aW:ao x=iX e){C:an}{K:Value->an->Prop}{Z:bF}(h:K (.tuple #[J e,.bool true]) C):ff Tryz.prog C (execOp ao o) K Z:=
 wa (fun w=>by simp[execOp,aU,aW,apc]) h
theorem Js{x y:Operand}{v:Value}{C:an}{K:Value->an->Prop}(b:Bool)(ah:(v= .nilIface/\b=false)\/∃t u,v= .iface t u/\b=true)(bV:(y matches .const _)=true)(h:K (.bool b) C):bk Tryz.prog C (do eqGuard .neq 20 x y v .nilIface;binOp .neq 20 v .nilIface) K:=by
 have aS:Tryz.prog.underlying 20=some (.interface #[]):=by kernel_rfl
 have e:Op.maxDepth=(Op.maxDepth-1)+1:=rfl
 refine nc (fun w=>?_) h
 rcases ah with⟨rfl,rfl⟩|⟨t,u,rfl,rfl⟩
 ·cases y<;>simp at bV
  simp[eqGuard,binOp,Op.equal];rw[e];simp[Op.equalIn,run_underlying aS]
 ·simp[eqGuard,binOp,Op.equal];rw[e];simp[Op.equalIn,run_underlying aS]
theorem VJ{f g:a3}{a:List Value}(a8:a.length=8){p3 lq lR lS:Nat}{e e0:Int}(U:K (.panicking [{v:=iX e,recovered:=true}]) (Y H w0 X (tI f f qs e p3 lq lR lS M))):
  h0 Tryz.prog (Y H w0 X (tI f g a e0 p3 lq lR lS M)) (Ur p3 lq lR lS) (.panicking [{v:=iX e,recovered:=false}]) K:=by
 match a,a8 with
 |[s8,s9,ri,sd,Af,uo,uq,yu],_=>
 refine Co e8 i6 Tk VA W W bP (args:=[ae p3,ae lq,ae lR,ae lS]) W rfl rfl ?_
 intro az aF
 conv=>whnf
 refine Js true (.inr ⟨_,_,rfl,rfl⟩) rfl ?_
 conv=>whnf
 repeat'(first
  |(show bk _ _ _ _;first|(refine ke b7 aD W ?_;conv=>whnf))
  |(show eB _ _ _ _;first|(refine tV aD mw ?_;conv=>whnf))
  |(show ff _ _ _ _ _;first|(refine amq (e:=e) W W ?_;conv=>whnf))
  |(show eS _ _;first|(refine eS.go ?_;conv=>whnf)))
 exact hy.drop _ (List.Sublist.refl _) U
theorem aoD{p3 lq lR lS:Nat}(U:K .returning (Y H w0 X M)):h0 Tryz.prog (Y H w0 X M) (Ur p3 lq lR lS) .returning K:=by
 refine Co e8 i6 Tk VA W W bP (args:=[ae p3,ae lq,ae lR,ae lS]) W rfl rfl ?_
 intro az aF
 conv=>whnf
 refine Js false (.inl ⟨rfl,rfl⟩) rfl ?_
 conv=>whnf
 exact hy.drop _ (List.Sublist.refl _) U
end
end Go.Proofs.YtcflcebplhdcpaaGreat
