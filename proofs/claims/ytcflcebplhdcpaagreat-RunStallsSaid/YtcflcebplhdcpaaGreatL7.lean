/- Lemmas, part 7; each states its own conditions. -/
import Derived.Test.YtcflcebplhdcpaaGreatL5
namespace Go.Proofs.YtcflcebplhdcpaaGreat
open Go.RowKit
set_option linter.unusedSimpArgs false
set_option linter.unusedVariables false
set_option maxRecDepth 100000
set_option maxHeartbeats 16000000
structure l4 where
 dst:Option Nat
 looks:List Nat
 after:List Nat
 load:Bool
 JH:Bool
def Td:Op->Bool
 | .store .. =>true
 |_=>false
def sN(ops:Array Oper)(o:Oper):l4:=⟨o.dst,o.looksAt ops,(o.after.toList.filter (Region.binds .any)).map (·.on),AY o.op,Td o.op⟩
def v5(d:Nat):List Nat->Bool
 |[]=>false
 |x::l=>bif Nat.beq x d then true else v5 d l
theorem NV{d:Nat}:∀{l:List Nat},v5 d l=true↔d∈l
 |[]=>by simp[v5]
 |x::l=>by
  simp only[v5,mz]
  cases e:Nat.beq x d with
  |true=>simp[(mA e).symm]
  |false=>
   have:d≠x:=fun hJ=>by rw[hJ,B7] at e;cases e
   simp[this,NV]
def oR(m j:Nat):Bool:=Nat.beq (Nat.land (Nat.shiftRight m j) 1) 1
theorem EG(m j:Nat):oR m j=m.testBit j:=by
 have h:(m>>>j)&&&1=(m>>>j)%2:=Nat.and_one_is_mod _
 have V:m.testBit j=decide ((m>>>j)%2=1):=by
  simp only[Nat.testBit,Nat.one_and_eq_mod_two]
  rcases Nat.mod_two_eq_zero_or_one (m>>>j) with e|e<;>simp[e]
 rw[V]
 show Nat.beq ((m>>>j)&&&1) 1=_
 rw[h]
 rcases Nat.mod_two_eq_zero_or_one (m>>>j) with e|e<;>rw[e]<;>rfl
def Jt(m i:Nat):Nat:=Nat.lor m (Nat.shiftLeft 1 i)
theorem QV(m i j:Nat):oR (Jt m i) j=(oR m j||decide (j=i)):=by
 rw[EG,EG]
 show(m|||1<<<i).testBit j=_
 rw[Nat.testBit_or,Nat.testBit_shiftLeft]
 congr 1
 by_cases h:j=i
 ·subst h;simp
 ·by_cases V:i<=j
  ·have aa:Nat.testBit 1 (j-i)=false:=by
    have:j-i=(j-i-1)+1:=by omega
    rw[this,Nat.testBit_succ];simp
   simp[h,aa]
  ·simp[h,V]
def UN:Option Nat->Nat->Bool
 |none,_=>false
 |some x,d=>Nat.beq x d
def G7(x y:l4):Bool:=
 (match x.dst with|some d=>!v5 d y.looks&&!UN y.dst d|none=>true)&&(match y.dst with|some d=>!v5 d x.looks|none=>true)
def EZ(m i:Nat)(o:l4):Nat->List l4->Bool
 |_,[]=>true
 |j,x::xs=>(Nat.beq j i||(oR m j||(v5 i x.after||(G7 o x&&(!o.load||!x.JH)))))&&EZ m i o (Nat.succ j) xs
def vz(m:Nat):List Nat->Bool
 |[]=>true
 |e::l=>oR m e&&vz m l
def GA(m i:Nat):Nat->List l4->Bool
 |_,[]=>true
 |j,x::xs=>(Nat.beq j i||(oR m j||!vz m x.after))&&GA m i (Nat.succ j) xs
def uG:Nat->List l4->Option l4
 |_,[]=>none
 |0,x::_=>some x
 |n+1,_::l=>uG n l
def mX(n:Nat)(L:List l4):Nat->fx->Bool
 |m,.done=>Nat.beq m (Nat.sub (Nat.pow 2 n) 1)
 |m,.pure i _ next=>(match uG i L with
  |some o=>!oR m i&&(vz m o.after&&EZ m i o 0 L)
  |none=>false)&&mX n L (Jt m i) next
 |m,.alt i next .stop=>(match uG i L with
  |some o=>!oR m i&&(vz m o.after&&GA m i 0 L)
  |none=>false)&&mX n L (Jt m i) next
 |_,_=>false
theorem RJ:∀(l:List l4) (n:Nat),uG n l=l[n]?
 |[],n=>by cases n<;>simp[uG]
 |x::l,0=>by simp[uG]
 |x::l,n+1=>by simp[uG,RJ l n]
theorem KL{m:Nat}:∀{l:List Nat},vz m l=true↔∀e∈l,oR m e=true
 |[]=>by simp[vz]
 |e::l=>by simp[vz,KL]
theorem RG{m i:Nat}{o:l4}:∀{l:List l4} {qF j:Nat} {x:l4},EZ m i o qF l=true->l[j]?=some x->(Nat.beq (qF+j) i||(oR m (qF+j)||(v5 i x.after||(G7 o x&&(!o.load||!x.JH)))))=true
 |[],_,_,_,_,h=>by simp at h
 |y::l,qF,0,x,O,V=>by
  simp only[EZ,e3] at O
  simp at V;subst V
  exact O.1
 |y::l,qF,j+1,x,O,V=>by
  simp only[EZ,e3] at O
  have:=RG (j:=j) O.2 (by simpa using V)
  rw[show qF+(j+1)=Nat.succ qF+j from by omega]
  exact this
theorem XH{m i:Nat}:∀{l:List l4} {qF j:Nat} {x:l4},GA m i qF l=true->l[j]?=some x->(Nat.beq (qF+j) i||(oR m (qF+j)||!vz m x.after))=true
 |[],_,_,_,_,h=>by simp at h
 |y::l,qF,0,x,O,V=>by
  simp only[GA,e3] at O
  simp at V;subst V
  exact O.1
 |y::l,qF,j+1,x,O,V=>by
  simp only[GA,e3] at O
  have:=XH (j:=j) O.2 (by simpa using V)
  rw[show qF+(j+1)=Nat.succ qF+j from by omega]
  exact this
section
variable{ops:List Oper}
structure re(ops:List Oper)(m:Nat)(cH:Array Bool):Prop where
 size:cH.size=ops.length
 bit:∀j,j<ops.length->cH.getD j true=oR m j
 out:∀j,ops.length<=j->oR m j=false
theorem re.set{m i:Nat}{cH:Array Bool}(h:re ops m cH)(hi:i<ops.length):re ops (Jt m i) (cH.setIfInBounds i true):=by
 refine⟨by simpa using h.size,fun j a9=>?_,fun j a9=>?_⟩
 ·rw[QV]
  by_cases e:j=i
  ·subst e
   have:j<cH.size:=by rw[h.size];exact a9
   simp[D1,this]
  ·rw[getD_set_ne true (Ne.symm e),h.bit j a9]
   simp[e]
 ·rw[QV,h.out j a9]
  simp;omega
theorem re.uG{m j:Nat}{cH:Array Bool}(h:re ops m cH)(d:Bool)(a9:j<ops.length):cH.getD j d=oR m j:=by
 rw[<-h.bit j a9]
 have:j<cH.size:=by rw[h.size];exact a9
 simp[this]
theorem re.of{m j:Nat}{cH:Array Bool}(h:re ops m cH)(ab:oR m j=true):cH.getD j false=true:=by
 by_cases a9:j<ops.length
 ·rw[h.uG false a9];exact ab
 ·rw[h.out j S] at ab;cases ab
theorem re.to{m j:Nat}{cH:Array Bool}(h:re ops m cH)(ab:cH.getD j false=true):oR m j=true:=by
 by_cases a9:j<ops.length
 ·rw[h.uG false a9] at ab;exact ab
 ·have:cH.size<=j:=by rw[h.size];omega
  simp[Array.getElem?_eq_none this] at ab
theorem OC{a:Array Oper}{o:Oper}{e:Nat}:e∈(sN a o).after↔∃x∈o.after,Region.binds .any x=true/\x.on=e:=by
 simp only[sN,ra,List.mem_filter,Array.mem_toList_iff]
 constructor
 ·rintro⟨x,⟨O,V⟩,aa⟩;exact⟨x,O,V,aa⟩
 ·rintro⟨x,O,V,aa⟩;exact⟨x,⟨O,V⟩,aa⟩
theorem abb{a:Array Oper}{x y:Oper}(h:G7 (sN a x) (sN a y)=true):x.apart a y=true:=by
 have ad:∀(d:Nat) (l:List Nat),(!v5 d l)=!l.contains d:=fun d l=>by
  have O:v5 d l=l.contains d:=by rw[Bool.eq_iff_iff,NV];simp
  rw[O]
 simp only[G7,sN,e3] at h
 simp only[Oper.apart,e3]
 refine⟨?_,?_⟩
 ·cases aL:x.dst with
  |none=>rfl
  |some d=>
   have O:=h.1
   rw[aL] at O
   simp only[e3] at O
   have V:=O.1
   rw[ad] at V
   simp only[V,BQ]
   cases bV:y.dst with
   |none=>simp
   |some d'=>
    have aa:=O.2
    rw[bV] at aa
    simp only[UN,Bool.not_eq_true'] at aa
    have:d'≠d:=fun e=>by rw[e,B7] at aa;cases aa
    simpa using this
 ·cases aL:y.dst with
  |none=>rfl
  |some d=>
   have O:=h.2
   rw[aL] at O
   simp only at O
   rw[ad] at O
   exact O
theorem adK(L:List l4)(jT:L=ops.map (sN ops.toArray)):∀(kM:fx) (m:Nat) (cH:Array Bool),re ops m cH->mX ops.length L m kM=true->kK ops (fun _=>false) true cH kM=true:=by
 have Sm:∀{i:Nat} {p:l4},uG i L=some p->∃o,ops.toArray[i]?=some o/\p=sN ops.toArray o/\i<ops.length:=fun{i p} h=>by
  rw[RJ,jT,oc] at h
  cases e:ops[i]? with
  |none=>rw[e] at h;simp at h
  |some o=>
   rw[e] at h
   simp at h
   exact⟨o,by simpa using e,h.symm,(l0.1 e).1⟩
 have SF:∀{i m:Nat} {cH:Array Bool} {o:Oper},re ops m cH->ops.toArray[i]?=some o->i<ops.length->(!oR m i)=true->vz m (sN ops.toArray o).after=true->i∈nD ops cH:=fun{i m cH o} b9 aU hi O V=>by
  refine mem_ready.2 ⟨?_,o,aU,fun e af ab=>b9.of (KL.1 V _ (OC.2 ⟨e,af,ab,rfl⟩))⟩
  rw[b9.bit i hi]
  simpa using O
 intro kM
 induction kM with
 |done=>
  intro m cH b9 h
  simp only[mX] at h
  have ad:=mA h
  have:nD ops cH=[]:=by
   refine List.eq_nil_iff_forall_not_mem.2 fun j a9=>?_
   obtain⟨O,o,aU,_⟩:=mem_ready.1 a9
   have a9:j<ops.length:=by simpa using(oI.1 aU).1
   rw[b9.bit j a9,EG,ad] at O
   have V:(2^ops.length-1).testBit j=true:=by rw[Nat.testBit_two_pow_sub_one];simpa using a9
   rw[show Nat.sub (Nat.pow 2 ops.length) 1=2^ops.length-1 from rfl,V] at O
   cases O
  simp[kK,this]
 |stop=>intro m cH b9 h;simp[mX] at h
 |look i next cy=>intro m cH b9 h;simp[mX] at h
 |nx i next more cy ahc=>intro m cH b9 h;simp[mX] at h
 |pure i late next cy=>
  intro m cH b9 h
  simp only[mX,e3] at h
  obtain⟨O,V⟩:=h
  split at O
  ·rename_i p bh
   obtain⟨o,aU,rfl,hi⟩:=Sm bh
   simp only[e3] at O
   obtain⟨aa,ag,a6⟩:=O
   simp only[kK,BQ,aU,e3]
   refine⟨⟨?_,?_⟩,cy _ _ (b9.set hi) V⟩
   ·have:=SF b9 aU hi aa ag
    simpa using this
   ·unfold LX
    rw[yg]
    intro j a9
    rw[List.mem_range] at a9
    obtain⟨iS,kb⟩:∃iS,ops.toArray[j]?=some iS:=⟨ops[j],by simp[a9]⟩
    rw[kb]
    have aW:L[j]?=some (sN ops.toArray iS):=by
     rw[jT,oc]
     have:ops[j]?=some iS:=by simpa using kb
     rw[this];rfl
    have bU:=RG a6 aW
    rw[vq] at bU
    simp only[r4] at bU
    rcases bU with bU|bU|bU|bU
    ·have:=mA bU
     simp[this]
    ·have:=b9.bit j a9
     simp only[bU] at this
     simp only[this,Bool.or_true,Bool.true_or]
    ·obtain⟨e,af,ab,agc⟩:=OC.1 (NV.1 bU)
     have:iS.after.any (fun e=>Region.binds .any e&&e.on==i)=true:=by
      rw[<-Array.any_toList,B0]
      exact⟨e,by simpa using af,by simp[ab,agc]⟩
     simp only[this,Bool.or_true,Bool.true_or]
    ·simp only[e3] at bU
     have sp:=abb bU.1
     have dh:=bU.2
     simp only[sN] at dh
     have:(match iS.op with
      | .store _ x _=>!AY o.op||(match x with
       | .tmp t=>late.contains t&&Ux ops cH t
       |_=>false)
      |_=>true)=true:=by
      split
      ·rename_i ar
       rw[ar] at dh
       simp only[Td,BP,Bool.or_false] at dh
       simp only[dh,Bool.true_or]
      ·rfl
     show(_||(Oper.apart ops.toArray o iS&&_))=true
     rw[sp,BQ,r4]
     exact .inr this
  ·cases O
 |alt i next more cy ahc=>
  intro m cH b9 h
  cases more with
  |stop=>
   simp only[mX,e3] at h
   obtain⟨O,V⟩:=h
   split at O
   ·rename_i p bh
    obtain⟨o,aU,rfl,hi⟩:=Sm bh
    simp only[e3] at O
    obtain⟨aa,ag,a6⟩:=O
    have aP:=SF b9 aU hi aa ag
    have rC:nD ops cH=[i]:=by
     have pR:∀j∈nD ops cH,j=i:=fun j a9=>by
      obtain⟨bU,iS,kb,dh⟩:=mem_ready.1 a9
      have sy:j<ops.length:=by simpa using(oI.1 kb).1
      have aW:L[j]?=some (sN ops.toArray iS):=by
       rw[jT,oc]
       have:ops[j]?=some iS:=by simpa using kb
       rw[this];rfl
      have cT:=XH a6 aW
      rw[vq] at cT
      simp only[r4] at cT
      rcases cT with cT|cT|cT
      ·exact mA cT
      ·rw[b9.bit j sy,cT] at bU;cases bU
      ·have:vz m (sN ops.toArray iS).after=true:=KL.2 fun e af=>by
        obtain⟨x,pW,MZ,agF⟩:=OC.1 af
        rw[<-agF]
        exact b9.to (dh x pW MZ)
       rw[this] at cT
       cases cT
     have pU:(nD ops cH).Nodup:=(List.nodup_range).filter _
     match bd:nD ops cH,aP,pR,pU with
     |[a],_,pR,_=>rw[pR a (by simp)]
     |a::b::l,_,pR,pU=>
      have O:=pR a (by simp)
      have V:=pR b (by simp)
      subst O
      simp at pU
      exact absurd V.symm pU.1.1
    simp only[kK,y1,rC,e3]
    exact⟨⟨by simp,rfl,cy _ _ (b9.set hi) V⟩,by rfl⟩
   ·cases O
  |_=>simp[mX] at h
theorem LK{n:Nat}{L:List l4}:∀{kM:fx} {m:Nat},mX n L m kM=true->vP kM=false
 | .done,_,_=>rfl
 | .stop,_,_=>rfl
 | .look _ _,_,h=>by simp[mX] at h
 | .pure i l next,m,h=>by
  simp only[mX,e3] at h
  show vP next=false
  exact LK h.2
 | .alt i next .stop,m,h=>by
  simp only[mX,e3] at h
  simp only[vP,LK h.2,Bool.or_false]
 | .alt _ _ .done,_,h=>by simp[mX] at h
 | .alt _ _ (.pure ..),_,h=>by simp[mX] at h
 | .alt _ _ (.look ..),_,h=>by simp[mX] at h
 | .alt _ _ (.alt ..),_,h=>by simp[mX] at h
 | .alt _ _ (.nx ..),_,h=>by simp[mX] at h
 | .nx _ _ _,_,h=>by simp[mX] at h
theorem akl{kM:fx}(h:vP kM=false):Fx kM=fun _=>false:=by unfold Fx;rw[h]
theorem re.zero:re ops 0 (Array.replicate ops.length false):=⟨by simp,fun j a9=>by rw[EG];simp[a9],fun j _=>by rw[EG];simp⟩
def Av:List Nat->List Nat->Bool
 |[],[]=>true
 |x::l,y::ib=>bif Nat.beq x y then Av l ib else false
 |_,_=>false
theorem LB:∀{l ib:List Nat},Av l ib=true->l=ib
 |[],[],_=>rfl
 |x::l,y::ib,h=>by
  simp only[Av] at h
  cases e:Nat.beq x y with
  |true=>rw[e] at h;rw[mA e,LB h]
  |false=>rw[e] at h;cases h
 |[],_::_,h=>by simp[Av] at h
 |_::_,[],h=>by simp[Av] at h
def Hq:Option Nat->Option Nat->Bool
 |none,none=>true
 |some x,some y=>Nat.beq x y
 |_,_=>false
theorem adA:∀{a b:Option Nat},Hq a b=true->a=b
 |none,none,_=>rfl
 |some x,some y,h=>by rw[mA h]
 |none,some _,h=>by simp[Hq] at h
 |some _,none,h=>by simp[Hq] at h
def Lz:Bool->Bool->Bool
 |true,true=>true
 |false,false=>true
 |_,_=>false
theorem Rl:∀{a b:Bool},Lz a b=true->a=b:=by decide
def Cr:List l4->List l4->Bool
 |[],[]=>true
 |x::l,y::ib=>(Hq x.dst y.dst&&(Av x.looks y.looks&&(Av x.after y.after&&(Lz x.load y.load&&Lz x.JH y.JH))))&&Cr l ib
 |_,_=>false
theorem Rm:∀{l ib:List l4},Cr l ib=true->l=ib
 |[],[],_=>rfl
 |x::l,y::ib,h=>by
  simp only[Cr,e3] at h
  obtain⟨⟨O,V,aa,ag,a6⟩,bU⟩:=h
  cases x;cases y
  have e1:=adA O;have e2:=LB V;have cR:=LB aa;have dR:=Rl ag;have gj:=Rl a6
  simp only at e1 e2 cR dR gj
  subst e1 e2 cR dR gj
  rw[Rm bU]
 |[],_::_,h=>by simp[Cr] at h
 |_::_,[],h=>by simp[Cr] at h
def vE(D:Nat->fx)(F:Nat->List l4):Code->Bool
 | .region id ops true=>bif (F id).isEmpty then kK ops.toList (Fx (D id)) true (Array.replicate ops.size false) (D id)&&Nat.ble (mD (D id)) ops.size else Cr (F id) (ops.toList.map (sN ops))&&(mX ops.toList.length (F id) 0 (D id)&&Nat.ble (mD (D id)) ops.size)
 | .seq x y=>vE D F x&&vE D F y
 | .cond _ x y=>vE D F x&&vE D F y
 | .block _ c=>vE D F c
 | .loop c=>vE D F c
 |_=>true
theorem ada{D:Nat->fx}{F:Nat->List l4}:∀(c:Code),vE D F c=true->iW D c=true:=by
 intro c
 induction c with
 |region id ops draw=>
  cases draw with
  |false=>intro _;rfl
  |true=>
   intro h
   simp only[vE] at h
   cases gY:F id with
   |nil=>rw[gY] at h;exact h
   |cons p L=>
    rw[gY] at h
    simp only[List.isEmpty_cons,cond_false,e3] at h
    obtain⟨au,O,V⟩:=h
    simp only[iW,e3]
    refine⟨?_,V⟩
    rw[akl (LK O)]
    have:=adK (ops:=ops.toList) (p::L) (by simpa using Rm au) (D id) 0 (Array.replicate ops.toList.length false) re.zero O
    simpa using this
 |seq x y rH o8=>intro h;simp only[vE,iW,e3] at*;exact⟨rH h.1,o8 h.2⟩
 |cond c x y rH o8=>intro h;simp only[vE,iW,e3] at*;exact⟨rH h.1,o8 h.2⟩
 |block id c cy=>exact fun h=>cy h
 |loop c cy=>exact fun h=>cy h
 |_=>exact fun _=>rfl
end
def fo(l:List Nat)(i:c5):List (Nat×c5):=l.map fun t=>(t,i)
structure P9 (a:List (Nat×c5)) where
 v:List (Nat×c5)
 h:a=v
def adG{a v:List (Nat×c5)}(h:a=v:=by simp only[fo,vn,List.map_nil,zW,Eh,List.append_nil];exact rfl):P9 a:=⟨v,h⟩
theorem bg{P:Program}{t:TypeId}{n:Nat}{z:Value}{d:j7}{l:List (Nat×c5)}(ai:gO P l)(a:d.full=true:=by decide)(b:(P.info? t).map (·.size)=some n:=by kernel_rfl)(c:(P.info? t).bind (·.zero)=some z:=by kernel_rfl)(e:(P.underlying t).map (j7.of P)=some d:=by kernel_rfl):gO P ((t,⟨n,z,d,[]⟩)::l):= .cons ⟨a,b,c,e,.inl rfl⟩ ai
theorem nf{P:Program}{t:TypeId}{n:Nat}{z:Value}{d:j7}{k:List r5}{l:List (Nat×c5)}(ai:gO P l)(a:d.full=true:=by decide)(b:(P.info? t).map (·.size)=some n:=by kernel_rfl)(c:(P.info? t).bind (·.zero)=some z:=by kernel_rfl)(e:(P.underlying t).map (j7.of P)=some d:=by kernel_rfl)(f:vL P 5 t=some k:=by kernel_rfl)(g:(match P.underlying t with|some (.struct _)=>true|_=>false)=true:=by kernel_rfl)(h:P.eqGuardType P.depth t=false:=by kernel_rfl):gO P ((t,⟨n,z,d,k⟩)::l):= .cons ⟨a,b,c,e,.inr ⟨f,g,h⟩⟩ ai
def aru:P9 (fo [1,37,38,51,52,53,54,56,58,66,69,70,79,81,83,86,87,88,89,90,91,92,93,94,95,96,97,98,99,102,104,105,110,111,112,114,115,118,119,120,121,122,123,124,125,126,127,130,131,134,141,143,147,149,150,151,152,153,154,155,156,157,160,162,163,164,165,166,167,168,169,171,172,173,175,176,177,178,179,180,182,183,186,188,189,190,191,193,195,198,199,203,204,205,207,210,214,215,217,218,219,220,224,225,232,234,237,238,241,242,243,254,255,256,258,259,262,263,264,265,266,267,268,270,271,272,273,274,275,276,277,278,279,280,281,283,284,285,286,289,290,291,292,298,299,300,302,304,306,307,308,310,311,312,314,315,316,317,318,320,321,324,325,331,333,338,339,341,342,343,346,351,352,353,355,360,361,369] ⟨1,.nilFunc,.other,[]⟩++fo [2,3,27] ⟨1,.int .i64 0,.int .i64,[]⟩++fo [4] ⟨1,.bool false,.other,[]⟩++fo [5] ⟨1,.int .u8 0,.int .u8,[]⟩++fo [9] ⟨1,.string ⟨#[]⟩,.str,[]⟩++fo [12,202,269] ⟨1,.int .u64 0,.int .u64,[]⟩++fo [15,16,17,80,216,229,247,293,305,309,344,345,370] ⟨1,.pointer none,.other,[]⟩++fo [20] ⟨1,.nilIface,.other,[]⟩++fo [21] ⟨1,.int .i32 0,.int .i32,[]⟩++fo [22,26,28] ⟨1,.slice none 0 0,.eN (some 3),[]⟩++fo [23,31,45] ⟨1,.slice none 0 0,.eN (some 1),[]⟩++fo [25] ⟨6,.agg #[.slice none 0 0,.slice none 0 0,.int .i64 0,.int .i64 0,.int .i64 0,.int .i64 0],.st [(0,some 1),(1,some 1),(2,some 1),(3,some 1),(4,some 1),(5,some 1)],[]⟩++fo [29,44,47] ⟨1,.slice none 0 0,.eN (some 10),[]⟩++fo [30] ⟨1,.slice none 0 0,.eN (some 5),[]⟩++fo [33] ⟨11,.agg #[.int .i64 0,.int .i64 0,.slice none 0 0,.slice none 0 0,.slice none 0 0,.slice none 0 0,.slice none 0 0,.slice none 0 0,.int .i64 0,.int .i64 0,.slice none 0 0],.st [(0,some 1),(1,some 1),(2,some 1),(3,some 1),(4,some 1),(5,some 1),(6,some 1),(7,some 1),(8,some 1),(9,some 1),(10,some 1)],[]⟩++fo [35] ⟨9,.agg #[.int .i64 0,.int .i64 0,.int .i64 0,.int .i64 0,.int .i64 0,.int .i64 0,.int .i64 0,.int .i64 0,.int .i64 0],.st [(0,some 1),(1,some 1),(2,some 1),(3,some 1),(4,some 1),(5,some 1),(6,some 1),(7,some 1),(8,some 1)],[some .i64,some .i64,some .i64,some .i64,some .i64,some .i64,some .i64,some .i64,some .i64]⟩++fo [40] ⟨25,.agg #[.int .i64 0,.int .i64 0,.int .i64 0,.int .i64 0,.int .i64 0,.int .i64 0,.int .i64 0,.int .i64 0,.int .i64 0,.int .i64 0,.int .i64 0,.int .i64 0,.int .i64 0,.int .i64 0,.int .i64 0,.int .i64 0,.int .i64 0,.int .i64 0,.int .i64 0,.int .i64 0,.int .i64 0,.int .i64 0,.int .i64 0,.int .i64 0,.int .i64 0],.st [(0,some 9),(9,some 1),(10,some 1),(11,some 1),(12,some 1),(13,some 1),(14,some 1),(15,some 1),(16,some 1),(17,some 1),(18,some 1),(19,some 1),(20,some 1),(21,some 1),(22,some 1),(23,some 1),(24,some 1)],[some .i64,some .i64,some .i64,some .i64,some .i64,some .i64,some .i64,some .i64,some .i64,some .i64,some .i64,some .i64,some .i64,some .i64,some .i64,some .i64,some .i64,some .i64,some .i64,some .i64,some .i64,some .i64,some .i64,some .i64,some .i64]⟩++fo [42] ⟨1,.agg #[.slice none 0 0],.st [(0,some 1)],[]⟩++fo [43] ⟨1,.slice none 0 0,.eN (some 19),[]⟩++fo [46] ⟨1,.slice none 0 0,.eN (some 8),[]⟩++fo [49] ⟨41,.agg #[.int .i64 0,.int .i64 0,.int .i64 0,.int .i64 0,.int .i64 0,.int .i64 0,.int .i64 0,.int .i64 0,.int .i64 0,.int .i64 0,.int .i64 0,.int .i64 0,.int .i64 0,.int .i64 0,.int .i64 0,.int .i64 0,.int .i64 0,.int .i64 0,.int .i64 0,.int .i64 0,.int .i64 0,.int .i64 0,.int .i64 0,.int .i64 0,.int .i64 0,.slice none 0 0,.slice none 0 0,.int .i64 0,.int .i64 0,.int .i64 0,.int .i64 0,.slice none 0 0,.slice none 0 0,.slice none 0 0,.slice none 0 0,.slice none 0 0,.slice none 0 0,.slice none 0 0,.bool false,.int .i64 0,.int .i64 0],.st [(0,some 25),(25,some 6),(31,some 1),(32,some 1),(33,some 1),(34,some 1),(35,some 1),(36,some 1),(37,some 1),(38,some 1),(39,some 1),(40,some 1)],[]⟩++fo [60,72,136] ⟨4,.agg #[.int .i64 0,.int .i64 0,.int .i64 0,.int .i64 0],.st [(0,some 1),(1,some 1),(2,some 1),(3,some 1)],[some .i64,some .i64,some .i64,some .i64]⟩++fo [61,170] ⟨1,.slice none 0 0,.eN (some 4),[]⟩++fo [63] ⟨3,.agg #[.int .i64 0,.int .i64 0,.slice none 0 0],.st [(0,some 1),(1,some 1),(2,some 1)],[]⟩++fo [65] ⟨3,.agg #[.int .i64 0,.int .i64 0,.int .i64 0],.st [(0,some 1),(1,some 1),(2,some 1)],[some .i64,some .i64,some .i64]⟩++fo [68] ⟨8,.agg #[.int .i64 0,.int .i64 0,.slice none 0 0,.slice none 0 0,.slice none 0 0,.slice none 0 0,.int .i64 0,.slice none 0 0],.st [(0,some 1),(1,some 1),(2,some 1),(3,some 1),(4,some 1),(5,some 1),(6,some 1),(7,some 1)],[]⟩++fo [74] ⟨8,.agg #[.int .i64 0,.int .i64 0,.int .i64 0,.int .i64 0,.int .i64 0,.int .i64 0,.int .i64 0,.slice none 0 0],.st [(0,some 1),(1,some 1),(2,some 1),(3,some 4),(7,some 1)],[]⟩++fo [75,76,106,319] ⟨1,.slice none 0 0,.eN (some 2),[]⟩++fo [78] ⟨19,.agg #[.int .i64 0,.int .i64 0,.int .i64 0,.int .i64 0,.int .i64 0,.int .i64 0,.int .i64 0,.int .i64 0,.int .i64 0,.int .i64 0,.slice none 0 0,.int .i64 0,.int .i64 0,.int .i64 0,.int .i64 0,.slice none 0 0,.slice none 0 0,.slice none 0 0,.int .i64 0],.st [(0,some 1),(1,some 1),(2,some 1),(3,some 8),(11,some 4),(15,some 1),(16,some 1),(17,some 1),(18,some 1)],[]⟩++fo [85] ⟨41,.agg #[.int .i64 0,.int .i64 0,.int .i64 0,.int .i64 0,.int .i64 0,.int .i64 0,.int .i64 0,.int .i64 0,.int .i64 0,.int .i64 0,.int .i64 0,.int .i64 0,.int .i64 0,.int .i64 0,.int .i64 0,.int .i64 0,.int .i64 0,.int .i64 0,.int .i64 0,.int .i64 0,.int .i64 0,.int .i64 0,.int .i64 0,.int .i64 0,.int .i64 0,.slice none 0 0,.slice none 0 0,.int .i64 0,.int .i64 0,.int .i64 0,.int .i64 0,.slice none 0 0,.slice none 0 0,.slice none 0 0,.slice none 0 0,.slice none 0 0,.slice none 0 0,.slice none 0 0,.bool false,.int .i64 0,.int .i64 0],.st [(0,some 41)],[]⟩++fo [101] ⟨10,.agg #[.int .i64 0,.slice none 0 0,.int .i64 0,.int .i64 0,.int .i64 0,.int .i64 0,.int .i64 0,.int .i64 0,.int .i64 0,.bool false],.st [(0,some 1),(1,some 1),(2,some 1),(3,some 1),(4,some 4),(8,some 1),(9,some 1)],[]⟩++fo [108] ⟨10,.agg #[.int .i64 0,.slice none 0 0,.int .i64 0,.int .i64 0,.slice none 0 0,.slice none 0 0,.slice none 0 0,.int .i64 0,.int .i64 0,.bool false],.st [(0,some 1),(1,some 1),(2,some 1),(3,some 1),(4,some 1),(5,some 1),(6,some 1),(7,some 1),(8,some 1),(9,some 1)],[]⟩++fo [117] ⟨3,.agg #[.int .i64 0,.slice none 0 0,.slice none 0 0],.st [(0,some 1),(1,some 1),(2,some 1)],[]⟩++fo [129] ⟨2,.agg #[.int .i64 0,.bool false],.st [(0,some 1),(1,some 1)],[some .i64,none]⟩++fo [133] ⟨10,.agg #[.int .i64 0,.int .i64 0,.int .i64 0,.int .i64 0,.int .i64 0,.int .i64 0,.bool false,.int .i64 0,.int .i64 0,.int .i64 0],.st [(0,some 1),(1,some 4),(5,some 1),(6,some 1),(7,some 1),(8,some 1),(9,some 1)],[some .i64,some .i64,some .i64,some .i64,some .i64,some .i64,none,some .i64,some .i64,some .i64]⟩++fo [138] ⟨8,.agg #[.int .i64 0,.int .i64 0,.int .i64 0,.int .i64 0,.int .i64 0,.int .i64 0,.int .i64 0,.bool false],.st [(0,some 1),(1,some 1),(2,some 4),(6,some 2)],[some .i64,some .i64,some .i64,some .i64,some .i64,some .i64,some .i64,none]⟩++fo [139,140,240,297] ⟨1,.map none,.other,[]⟩++fo [145] ⟨5,.agg #[.int .i64 0,.bool false,.int .i64 0,.int .i64 0,.slice none 0 0],.st [(0,some 1),(1,some 1),(2,some 1),(3,some 1),(4,some 1)],[]⟩++fo [159] ⟨12,.agg #[.int .i64 0,.int .i64 0,.slice none 0 0,.slice none 0 0,.slice none 0 0,.slice none 0 0,.slice none 0 0,.slice none 0 0,.int .i64 0,.int .i64 0,.slice none 0 0,.int .i64 0],.st [(0,some 11),(11,some 1)],[]⟩++fo [185] ⟨24,.agg #[.int .i64 0,.int .i64 0,.int .i64 0,.int .i64 0,.int .i64 0,.int .i64 0,.int .i64 0,.int .i64 0,.int .i64 0,.int .i64 0,.slice none 0 0,.int .i64 0,.int .i64 0,.int .i64 0,.int .i64 0,.slice none 0 0,.slice none 0 0,.slice none 0 0,.int .i64 0,.slice none 0 0,.int .i64 0,.bool false,.int .i64 0,.int .i64 0],.st [(0,some 19),(19,some 1),(20,some 1),(21,some 1),(22,some 1),(23,some 1)],[]⟩++fo [187] ⟨2,.agg #[.int .i64 0,.int .i64 0],.pF 2 (some 1),[]⟩++fo [197] ⟨5,.agg #[.int .i64 0,.int .i64 0,.int .i64 0,.int .i64 0,.int .i64 0],.st [(0,some 1),(1,some 1),(2,some 1),(3,some 1),(4,some 1)],[some .i64,some .i64,some .i64,some .i64,some .i64]⟩++fo [200] ⟨3,.agg #[.int .i64 0,.int .i64 0,.int .i64 0],.pF 3 (some 1),[]⟩++fo [201] ⟨24,.agg #[.int .i64 0,.int .i64 0,.int .i64 0,.int .i64 0,.int .i64 0,.int .i64 0,.int .i64 0,.int .i64 0,.int .i64 0,.int .i64 0,.int .i64 0,.int .i64 0,.int .i64 0,.int .i64 0,.int .i64 0,.int .i64 0,.int .i64 0,.int .i64 0,.int .i64 0,.int .i64 0,.int .i64 0,.int .i64 0,.int .i64 0,.int .i64 0],.pF 8 (some 3),[]⟩++fo [209] ⟨27,.agg #[.slice none 0 0,.slice none 0 0,.int .i64 0,.int .i64 0,.int .i64 0,.int .i64 0,.int .i64 0,.int .i64 0,.slice none 0 0,.int .i64 0,.slice none 0 0,.int .i64 0,.int .i64 0,.slice none 0 0,.slice none 0 0,.slice none 0 0,.int .i64 0,.int .i64 0,.bool false,.int .i64 0,.int .i64 0,.int .i64 0,.int .i64 0,.int .i64 0,.int .i64 0,.int .i64 0,.slice none 0 0],.st [(0,some 6),(6,some 3),(9,some 10),(19,some 8)],[]⟩++fo [212] ⟨1,.agg #[.nilFunc],.st [(0,some 1)],[]⟩++fo [213] ⟨20,.agg #[.nilFunc,.nilFunc,.nilFunc,.nilFunc,.nilFunc,.nilFunc,.nilFunc,.nilFunc,.nilFunc,.nilFunc,.nilFunc,.nilFunc,.nilFunc,.nilFunc,.nilFunc,.nilFunc,.nilFunc,.nilFunc,.nilFunc,.nilFunc],.pF 20 (some 1),[]⟩++fo [222] ⟨3,.agg #[.int .i64 0,.int .i64 0,.nilFunc],.st [(0,some 1),(1,some 1),(2,some 1)],[]⟩++fo [223] ⟨9,.agg #[.int .i64 0,.int .i64 0,.nilFunc,.int .i64 0,.int .i64 0,.nilFunc,.int .i64 0,.int .i64 0,.nilFunc],.pF 3 (some 3),[]⟩++fo [227,236,323,329,337,359] ⟨4,.agg #[.int .i64 0,.int .i64 0,.int .i64 0,.int .i64 0],.st [(0,some 4)],[some .i64,some .i64,some .i64,some .i64]⟩++fo [231] ⟨28,.agg #[.int .i64 0,.int .i64 0,.int .i64 0,.int .i64 0,.int .i64 0,.int .i64 0,.int .i64 0,.int .i64 0,.int .i64 0,.int .i64 0,.int .i64 0,.int .i64 0,.int .i64 0,.int .i64 0,.int .i64 0,.int .i64 0,.int .i64 0,.int .i64 0,.int .i64 0,.int .i64 0,.int .i64 0,.int .i64 0,.int .i64 0,.int .i64 0,.int .i64 0,.int .i64 0,.slice none 0 0,.int .i64 0],.st [(0,some 25),(25,some 1),(26,some 1),(27,some 1)],[]⟩++fo [233] ⟨3,.agg #[.nilFunc,.nilFunc,.nilFunc],.pF 3 (some 1),[]⟩++fo [245,252,288] ⟨2,.agg #[.int .i64 0,.int .i64 0],.st [(0,some 1),(1,some 1)],[some .i64,some .i64]⟩++fo [249] ⟨59,.agg #[.slice none 0 0,.slice none 0 0,.int .i64 0,.int .i64 0,.int .i64 0,.int .i64 0,.int .i64 0,.int .i64 0,.int .i64 0,.int .i64 0,.int .i64 0,.int .i64 0,.int .i64 0,.int .i64 0,.int .i64 0,.int .i64 0,.int .i64 0,.int .i64 0,.int .i64 0,.int .i64 0,.int .i64 0,.int .i64 0,.int .i64 0,.int .i64 0,.int .i64 0,.int .i64 0,.int .i64 0,.int .i64 0,.int .i64 0,.int .i64 0,.int .i64 0,.int .i64 0,.int .i64 0,.int .i64 0,.int .i64 0,.int .i64 0,.int .i64 0,.int .i64 0,.int .i64 0,.int .i64 0,.int .i64 0,.slice none 0 0,.int .i64 0,.int .i64 0,.int .i64 0,.int .i64 0,.slice none 0 0,.slice none 0 0,.slice none 0 0,.int .i64 0,.slice none 0 0,.int .i64 0,.int .i64 0,.int .i64 0,.bool false,.int .i64 0,.int .i64 0,.slice none 0 0,.int .i64 0],.st [(0,some 6),(6,some 25),(31,some 19),(50,some 1),(51,some 1),(52,some 1),(53,some 5),(58,some 1)],[]⟩++fo [250] ⟨6,.agg #[.nilFunc,.nilFunc,.nilFunc,.nilFunc,.nilFunc,.nilFunc],.pF 6 (some 1),[]⟩++fo [261] ⟨3,.agg #[.int .i64 0,.bool false,.int .i64 0],.st [(0,some 1),(1,some 1),(2,some 1)],[some .i64,none,some .i64]⟩++fo [295] ⟨30,.agg #[.int .i64 0,.int .i64 0,.int .i64 0,.int .i64 0,.int .i64 0,.int .i64 0,.int .i64 0,.int .i64 0,.int .i64 0,.int .i64 0,.int .i64 0,.int .i64 0,.int .i64 0,.int .i64 0,.int .i64 0,.int .i64 0,.int .i64 0,.int .i64 0,.int .i64 0,.int .i64 0,.int .i64 0,.int .i64 0,.int .i64 0,.int .i64 0,.int .i64 0,.int .i64 0,.slice none 0 0,.int .i64 0,.slice none 0 0,.int .i64 0],.st [(0,some 25),(25,some 1),(26,some 1),(27,some 1),(28,some 1),(29,some 1)],[]⟩++fo [327,335,357] ⟨32,.agg #[.int .i64 0,.int .i64 0,.int .i64 0,.int .i64 0,.int .i64 0,.int .i64 0,.int .i64 0,.int .i64 0,.int .i64 0,.int .i64 0,.int .i64 0,.int .i64 0,.int .i64 0,.int .i64 0,.int .i64 0,.int .i64 0,.int .i64 0,.int .i64 0,.int .i64 0,.int .i64 0,.int .i64 0,.int .i64 0,.int .i64 0,.int .i64 0,.int .i64 0,.int .i64 0,.slice none 0 0,.int .i64 0,.int .i64 0,.int .i64 0,.int .i64 0,.nilFunc],.st [(0,some 25),(25,some 1),(26,some 1),(27,some 1),(28,some 3),(31,some 1)],[]⟩++fo [348] ⟨5,.agg #[.bool false,.int .i64 0,.int .i64 0,.int .i64 0,.int .i64 0],.st [(0,some 1),(1,some 1),(2,some 1),(3,some 1),(4,some 1)],[none,some .i64,some .i64,some .i64,some .i64]⟩++fo [350] ⟨7,.agg #[.pointer none,.bool false,.int .i64 0,.int .i64 0,.int .i64 0,.int .i64 0,.int .i64 0],.st [(0,some 1),(1,some 5),(6,some 1)],[]⟩++fo [354] ⟨1,.int .u32 0,.int .u32,[]⟩++fo [364] ⟨0,.agg #[],.pF 0 (some 1),[]⟩):=adG
def wv:List (Nat×c5):=aru.v
theorem e8:gO Tryz.prog wv:=bg<|bg<|bg<|bg<|bg<|bg<|bg<|bg<|bg<|bg<|bg<|bg<|bg<|bg<|bg<|bg<|bg<|bg<|bg<|bg<|bg<|bg<|bg<|bg<|bg<|bg<|bg<|bg<|bg<|bg<|bg<|bg<|bg<|bg<|bg<|bg<|bg<|bg<|bg<|bg<|bg<|bg<|bg<|bg<|bg<|bg<|bg<|bg<|bg<|bg<|bg<|bg<|bg<|bg<|bg<|bg<|bg<|bg<|bg<|bg<|bg<|bg<|bg<|bg<|bg<|bg<|bg<|bg<|bg<|bg<|bg<|bg<|bg<|bg<|bg<|bg<|bg<|bg<|bg<|bg<|bg<|bg<|bg<|bg<|bg<|bg<|bg<|bg<|bg<|bg<|bg<|bg<|bg<|bg<|bg<|bg<|bg<|bg<|bg<|bg<|bg<|bg<|bg<|bg<|bg<|bg<|bg<|bg<|bg<|bg<|bg<|bg<|bg<|bg<|bg<|bg<|bg<|bg<|bg<|bg<|bg<|bg<|bg<|bg<|bg<|bg<|bg<|bg<|bg<|bg<|bg<|bg<|bg<|bg<|bg<|bg<|bg<|bg<|bg<|bg<|bg<|bg<|bg<|bg<|bg<|bg<|bg<|bg<|bg<|bg<|bg<|bg<|bg<|bg<|bg<|bg<|bg<|bg<|bg<|bg<|bg<|bg<|bg<|bg<|bg<|bg<|bg<|bg<|bg<|bg<|bg<|bg<|bg<|bg<|bg<|bg<|bg<|bg<|bg<|bg<|bg<|bg<|bg<|bg<|bg<|bg<|bg<|bg<|bg<|bg<|bg<|bg<|bg<|bg<|bg<|bg<|bg<|bg<|bg<|bg<|bg<|bg<|bg<|bg<|bg<|bg<|bg<|bg<|bg<|bg<|bg<|bg<|bg<|bg<|nf<|nf<|bg<|bg<|bg<|bg<|nf<|nf<|nf<|bg<|bg<|bg<|nf<|bg<|bg<|bg<|bg<|bg<|bg<|bg<|bg<|bg<|bg<|bg<|nf<|nf<|nf<|bg<|bg<|bg<|bg<|bg<|bg<|bg<|bg<|nf<|bg<|bg<|bg<|bg<|bg<|bg<|bg<|nf<|nf<|nf<|nf<|nf<|nf<|bg<|bg<|nf<|nf<|nf<|bg<|bg<|nf<|bg<|bg<|bg<|bg<|nf<|bg<|bg<|bg<|gO.nil _
theorem i6:Tryz.prog.follows .mixedOrders=true:=by kernel_rfl
end Go.Proofs.YtcflcebplhdcpaaGreat
