/- Lemmas, part 14; each states its own conditions. -/
import Derived.Test.YtcflcebplhdcpaaGreatL13
namespace Go.Proofs.YtcflcebplhdcpaaGreat
open Go.RowKit
set_option linter.unusedSimpArgs false
set_option linter.unusedVariables false
set_option maxRecDepth 100000
set_option maxHeartbeats 16000000
section
variable{P:Program}{C:an}{K:Value->Prop}
theorem NR{t:TypeId}{i:c5}(hi:e7 P t i)(dX:i.d.agg=false){a:Addr}(v:Value)(aP:∀w,C.R w->w.cell? a=some v)(h:K v):ih P C (Instr.loadAt t (.pointer (some a))) K:=
 ⟨v,fun w au=>by simp[Instr.loadAt,Instr.sureAddr,loadVar,hi.rR,dX,load,Sem.run,aP w au],h⟩
theorem T2{t:TypeId}{i:c5}(hi:e7 P t i)(dX:i.d.agg=true){b off:Nat}(l:List Value)(ai:l.length=i.size)(aP:∀w,C.R w->∀j v,l[j]?=some v->w.cell? ⟨b,off+j,none⟩=some v)(h:K (.agg l.toArray)):ih P C (Instr.loadAt t (.pointer (some ⟨b,off,none⟩))) K:=by
 refine⟨.agg l.toArray,fun w au=>?_,h⟩
 have O:(loadCells ⟨b,off,none⟩ l.length).run P w= .ok l.toArray w:=run_loadCells_list w _ l fun j v a9=>by rw[Ag];exact aP w au j v a9
 rw[ai] at O
 simp[Instr.loadAt,Instr.sureAddr,loadVar,hi.rR,dX,hi.u0,O]
end
section
variable{H w0:World}{X:Nat->Prop}{M:aw}{K:Value->Prop}
abbrev ud(H w0:World)(X:Nat->Prop)(M:aw)(m:Sem Value)(K:Value->Prop):Prop:=ih Tryz.prog (Y H w0 X M) m K
theorem gE{b:Nat}{t0:TypeId}{l:List Value}{off:Nat}{v:Value}(ad:(ae b,aY.cs t0 l)∈M){t:TypeId}{c2:c5}(hi:e7 Tryz.prog t c2)(dX:c2.d.agg=false)(ah:l[off]?=some v)(h:K v):ud H w0 X M (Instr.loadAt t (.pointer (some ⟨b,off,none⟩))) K:=
 NR hi dX v (fun w au=>by rw[(dJ.cs au ad).cell off];simpa using ah) h
theorem p0{b:Nat}{t0:TypeId}{l:List Value}{off:Nat}(ad:(ae b,aY.cs t0 l)∈M){t:TypeId}{c2:c5}(hi:e7 Tryz.prog t c2)(dX:c2.d.agg=true)(h:km ((l.drop off).take c2.size) fun vs=>jO (Nat.beq vs.length c2.size) (K (.agg vs.toArray))):ud H w0 X M (Instr.loadAt t (.pointer (some ⟨b,off,none⟩))) K:=by
 rw[mI] at h
 obtain⟨ai,h⟩:=oj h
 exact T2 hi dX _ (mA ai) (fun w au j v a9=>by
  rw[(dJ.cs au ad).cell (off+j)]
  have sy:=(l0.1 a9).1
  rw[py,if_pos (by simp at sy;omega),qo] at a9
  simpa using a9) h
theorem TX{b n cap:Nat}{t0:TypeId}{sz:Nat}{l:List Value}{off:Nat}{v:Value}(ad:(Value.slice (some ⟨b,0,none⟩) n cap,aY.row t0 sz l)∈M){t:TypeId}{c2:c5}(hi:e7 Tryz.prog t c2)(dX:c2.d.agg=false)(ah:l[off]?=some v)(h:K v):ud H w0 X M (Instr.loadAt t (.pointer (some ⟨b,off,none⟩))) K:=
 NR hi dX v (fun w au=>dJ.rowAt au ad ah) h
theorem uT{a:Addr}{v:Value}(ah:H.cell? a=some v){t:TypeId}{c2:c5}(hi:e7 Tryz.prog t c2)(dX:c2.d.agg=false)(h:K v):ud H w0 X M (Instr.loadAt t (.pointer (some a))) K:=
 NR hi dX v (fun w au=>dJ.xG au ah) h
theorem tC{b off:Nat}(vs:List Value)(ah:∀j v,vs[j]?=some v->H.cell? ⟨b,off+j,none⟩=some v){t:TypeId}{c2:c5}(hi:e7 Tryz.prog t c2)(dX:c2.d.agg=true)(ai:vs.length=c2.size)(h:K (.agg vs.toArray)):ud H w0 X M (Instr.loadAt t (.pointer (some ⟨b,off,none⟩))) K:=
 T2 hi dX vs ai (fun w au j v a9=>dJ.xG au (ah j v a9)) h
theorem IS{b:Nat}{t0:TypeId}{l:List Value}{off:Nat}{v:Value}{t:TypeId}{c2:c5}(h:K v)(ad:(ae b,aY.cs t0 l)∈M:=by repeat(first|exact List.Mem.head _|refine dr _ ?_))(hi:e7 Tryz.prog t c2:=by exact e8 _ _ W)(dX:c2.d.agg=false:=by rfl)(ah:l[off]?=some v:=by rfl):ud H w0 X M (Instr.loadAt t (.pointer (some ⟨b,off,none⟩))) K:=gE ad hi dX ah h
theorem NM{b:Nat}{t0:TypeId}{l:List Value}{off:Nat}{t:TypeId}{c2:c5}(h:km ((l.drop off).take c2.size) fun vs=>jO (Nat.beq vs.length c2.size) (K (.agg vs.toArray)))(ad:(ae b,aY.cs t0 l)∈M:=by repeat(first|exact List.Mem.head _|refine dr _ ?_))(hi:e7 Tryz.prog t c2:=by exact e8 _ _ W)(dX:c2.d.agg=true:=by rfl):ud H w0 X M (Instr.loadAt t (.pointer (some ⟨b,off,none⟩))) K:=p0 ad hi dX h
end
def mZ(k:Int):List MapEntry->Nat->Option (Nat×Value)
 |[],_=>none
 |e::l,i=>match e.key with
  | .int _ k'=>bif decide (k=k') then some (i,e.val) else mZ k l (i+1)
  |_=>mZ k l (i+1)
def RI(f:Option (Nat×Value))(z:Value):Value:=match f with
 |some x=>x.2
 |none=>z
def vA:List MapEntry->Bool
 |[]=>true
 |e::l=>match e.key with
  | .int .i64 _=>vA l
  |_=>false
theorem Ru{kH:IntKind}{k:Int}:∀{dW:List MapEntry} {i:Nat},vA dW=true->Instr.findNow (.int kH) (J k) dW i=some (mZ k dW i)
 |[],_,_=>rfl
 |e::l,i,h=>by
  simp only[vA] at h
  split at h
  ·rename_i k' U
   simp only[Instr.findNow,mZ,U,Instr.sameNow,dm]
   by_cases hJ:k=k'
   ·subst hJ;simp
   ·have e2:(k==k')=false:=by simp[hJ]
    simp[hJ,e2,Ru h]
  ·cases h
section
variable{P:Program}
theorem aph(n:Nat){w:World}{b:Bool}{t:TypeId}{kH:IntKind}{k:Int}(U:P.underlying t=some (.int kH)):(Instr.checkKey b (n+1) t (J k)).run P w= .ok () w:=by
 simp[Instr.checkKey,run_underlying U]
theorem OY{w:World}{b:Bool}{t:TypeId}{kH:IntKind}{k:Int}(U:P.underlying t=some (.int kH)):(Instr.checkKey b 10000 t (J k)).run P w= .ok () w:=aph 9999 U
theorem OZ{w:World}{t:TypeId}{kH:IntKind}{k:Int}{dW:List MapEntry}(U:P.underlying t=some (.int kH))(a8:vA dW=true):(Instr.findKey t (J k) dW).run P w= .ok (mZ k dW 0) w:=by
 simp[Instr.findKey,run_underlying U,Ru a8]
theorem Wc{w:World}{b:Nat}{t kt et:TypeId}{kH:IntKind}{k:Int}{dW:List MapEntry}{clock:Nat}{mW:c5}(aS:P.underlying t=some (.map kt et))(U:P.underlying kt=some (.int kH))(af:e7 P et mW)(a8:vA dW=true)(ab:w.heap[b]?=some (.map dW.toArray clock))(c:Bool):
  (Instr.lookup t (.map (some b)) (J k) c).run P w= .ok (match c with|true=> .tuple #[(match mZ k dW 0 with|some x=>x.2|none=>mW.lX),.bool (mZ k dW 0).isSome]|false=>match mZ k dW 0 with|some x=>x.2|none=>mW.lX) w:=by
 have O:(getObj b).run P w= .ok (.map dW.toArray clock) w:=by simp[getObj,Sem.run,ab]
 simp only[Instr.lookup,Sem.run_bind,run_underlying aS,Result.andThen_ok,O,Sem.run_pure,OY U,OZ U a8]
 cases aK:mZ k dW 0 with
 |none=>cases c<;>simp[af.Jq]
 |some x=>cases c<;>simp
theorem Wa{w:World}{b:Nat}{t kt et:TypeId}{kH:IntKind}{k:Int}{v:Value}{dW:List MapEntry}{clock:Nat}(aS:P.underlying t=some (.map kt et))(U:P.underlying kt=some (.int kH))(a8:vA dW=true)(ab:w.heap[b]?=some (.map dW.toArray clock))(aB:(mZ k dW 0).isNone=true):
  (Instr.mapUpdate t (.map (some b)) (J k) v).run P w= .ok () {w with heap:=w.heap.setIfInBounds b (.map (dW++[(⟨J k,v,clock⟩:MapEntry)]).toArray (clock+1))}:=by
 have O:(getObj b).run P w= .ok (.map dW.toArray clock) w:=by simp[getObj,Sem.run,ab]
 have V:mZ k dW 0=none:=by cases e:mZ k dW 0 with|none=>rfl|some x=>rw[e] at aB;cases aB
 simp only[Instr.mapUpdate,Sem.run_bind,run_underlying aS,Result.andThen_ok,O,Sem.run_pure,OY U,OZ U a8,V]
 have aa:b<w.heap.size:=(oI.1 ab).1
 simp[setObj,Sem.run,ab]
end
section
variable{H w0:World}{X:Nat->Prop}{M:aw}{K:Value->an->Prop}{Z:bF}{ao:Operand->Value}{o:Oper}
theorem IY{t:TypeId}(aU:o.op= .makeMap t none)(h:∀b,K (.map (some b)) (Y H w0 X ((.map (some b),.map [] 0)::M))):ff Tryz.prog (Y H w0 X M) (execOp ao o) K Z:=by
 constructor
 intro w au
 refine .inl ⟨.map (some w.heap.size),w.alloc (.map #[] 0),Y H w0 X ((.map (some w.heap.size),.map [] 0)::M),?_,?_,?_,h _⟩
 ·simp[execOp,aU,Instr.makeMap]
 ·exact(FG (v:= .map (some w.heap.size)) (d:= .map [] 0) (w':=w.alloc (.map #[] 0)) au rfl rfl rfl (by simp) (fun k U=>Below.heap_alloc w _ k U) ⟨_,rfl,heap_alloc_new w _⟩ (fun b ab=>by simp only[fH,pD] at ab;omega)).1
 ·exact(FG (v:= .map (some w.heap.size)) (d:= .map [] 0) (w':=w.alloc (.map #[] 0)) au rfl rfl rfl (by simp) (fun k U=>Below.heap_alloc w _ k U) ⟨_,rfl,heap_alloc_new w _⟩ (fun b ab=>by simp only[fH,pD] at ab;omega)).2
theorem T4 {t:TypeId} {m k v:Operand} {b:Nat} {fW:Int} {dW:List MapEntry} {clock i:Nat} {kt et:TypeId} {kH:IntKind} (aU:o.op= .insert t m k v\/o.op= .mapUpdate t m k v) (ad:ao m= .map (some b)) (nV:ao k= J fW) (aS:h8 M i (.map (some b)) (.map dW clock)) (vV:Tryz.prog.underlying t=some (.map kt et)) (U:Tryz.prog.underlying kt=some (.int kH)) (a8:vA dW=true) (aB:(mZ fW dW 0).isNone=true)
  (h:Hw (ao v) fun x=>qc M i (.map (some b),.map (dW++[(⟨J fW,x,clock⟩:MapEntry)]) (clock+1)) fun aE=>K undef (Y H w0 X aE)):ff Tryz.prog (Y H w0 X M) (execOp ao o) K Z:=by
 rw[LV,wq] at h
 constructor
 intro w au
 obtain⟨cu,dQ,aZ⟩:=au.new _ aS.mem
 cases dQ
 have cc:b<w.heap.size:=(oI.1 aZ).1
 have fI:=Wa (P:=Tryz.prog) (v:=ao v) vV U a8 aZ aB
 obtain⟨V,aa⟩:=yS au (aS.fm (.map (some b)) (.map (dW++[(⟨J fW,ao v,clock⟩:MapEntry)]) (clock+1))) (w':={w with heap:=w.heap.setIfInBounds b (.map (dW++[(⟨J fW,ao v,clock⟩:MapEntry)]).toArray (clock+1))}) rfl rfl rfl (by simp) (fun k ir kr=>by
   have:b≠k:=fun e=>kr (by rw[e];rfl)
   simp[D1,this]) ⟨b,rfl,by simp[D1,cc]⟩ (fun cu dQ=> .inl dQ)
 refine .inr (.inl ⟨_,_,?_,V,aa,h⟩)
 rcases aU with aU|aU<;>simp[execOp,aU,ad,nV,fI]
theorem v3 {t:TypeId} {m k:Operand} {b:Nat} {fW:Int} {dW:List MapEntry} {clock:Nat} {kt et:TypeId} {kH:IntKind} {mW:c5} (aU:o.op= .lookup t m k true) (ad:ao m= .map (some b)) (nV:ao k= J fW) (aS:(Value.map (some b),aY.map dW clock)∈M) (vV:Tryz.prog.underlying t=some (.map kt et)) (U:Tryz.prog.underlying kt=some (.int kH)) (af:e7 Tryz.prog et mW) (a8:vA dW=true) (f:Option (Nat×Value)) (aK:mZ fW dW 0=f)
  (h:Hw (RI f mW.lX) fun x=>K (.tuple #[x,.bool f.isSome]) (Y H w0 X M)):ff Tryz.prog (Y H w0 X M) (execOp ao o) K Z:=by
 rw[LV] at h
 subst aK
 constructor
 intro w au
 obtain⟨cu,dQ,aZ⟩:=au.new _ aS
 cases dQ
 have fI:=Wc (P:=Tryz.prog) (k:=fW) vV U af a8 aZ true
 exact .inl ⟨_,w,_,by simp[execOp,aU,ad,nV,fI,RI],iJ.refl _ _,au,h⟩
end
theorem ea {A B:Prop} (k:B) (h:B->A:=by
 intro k
 first
 |(show bk _ _ _ _;first|exact uS k|exact IM k|exact h2 _ rfl k|exact hT aD _ rfl k)
 |(show eB _ _ _ _;exact st k)
 |(show ih _ _ _ _;first|exact IS k|exact NM k)
 |(show gN _ _ _;first|exact gN.mk (ie.refl _) k|exact gN.mk (ie.imp (aJ.sub (yk _ _))) k|exact gN.mk (ie.imp (aJ.sub (.cons _ (yk _ _)))) k)
 |(show eS _ _;exact eS.go k)
 |(show hy _ _ _ _ _ _ _ _;exact hy.go k)
 |(show pE _ _ _ _ _ _ _ _;exact pE.go k)
 |(show _/\_;exact⟨by rfl,k⟩)):A:=h k
theorem gs {A B C:Prop} (k:B) (l:C) (h:B->C->A:=by
 intro k l
 first
 |(show _/\_;exact⟨k,l⟩)
 |exact ba.dec k l
 |exact ba.v7 k l
 |exact ba.Uz k l
 |exact ba.sk k l
 |exact ba.sM k l
 |exact ba.intro k l):A:=h k l
theorem lV{H w0 be:World}{X bM:Nat->Prop}{M:aw}{K:Value->an->Prop}{b cu:Bool}(U:K (.bool cu) (Y H w0 X M))(h:b=cu):cd H w0 X be bM K (.bool b) (Y H be bM M):=cA (h▸U)
section
variable{P:Program}{H w0:World}{X:Nat->Prop}{M:aw}{K:Value->an->Prop}{Z:bF}
theorem IZ{C:an}{at_:Array TypeId}{ty:TypeId}{k:IntKind}{a b:Int}(h:K (.int k (if b>a then b else a)) C):bk P C (Builtin.max_ at_ ty #[.int k a,.int k b]) K:=
 nc (fun w=>by simp[Builtin.max_,Builtin.max2]) h
theorem api(w:World){t t2 ty e:TypeId}{sz:Nat}{dG:List Value}(a2:iF P t e sz dG){A b4:Option Addr}{n cap m c:Nat}{l src:List Value}(aL:aY.ok (.row e sz l) (.slice A n cap) w)(ar:dU w w.heap.size b4 src)(ai:src.length=m*sz)(O:∀u∈src,u.oneCell'=true):
  ∃w',(Builtin.copy_ #[t,t2] ty #[.slice A n cap,.slice b4 m c]).run P w= .ok (goInt (Nat.min m n:Nat)) w'/\w'.os=w.os/\w'.tape=w.tape/\w'.output=w.output/\w.heap.size<=w'.heap.size/\(∀k,k<w.heap.size->fH (.slice A n cap)≠some k->w'.heap[k]?=w.heap[k]?)/\aY.ok (.row e sz (src.take (Nat.min m n*sz)++l.drop (Nat.min m n*sz))) (.slice A n cap) w':=by
 obtain⟨i,z,hi,b3,nw,xj,uP⟩:=a2.parts
 have C1:=a2.pos
 obtain⟨aR,dT,fD,af,afV,aB,ad,aP⟩:=aL
 injection af with e1 e2 cR
 subst e1 e2 cR
 by_cases aT:Nat.min m n=0
 ·refine⟨w,?_,rfl,rfl,rfl,Nat.le_refl _,fun _ _ _=>rfl,?_⟩
  ·have sC:∀(x:Addr),(loadCells x 0).run P w= .ok #[] w:=fun x=>by simpa using run_loadCells_list (P:=P) w x [] (by simp)
   cases A<;>cases b4<;>simp[Builtin.copy_,run_underlying a2.eN,Builtin.lenOf,Builtin.firstCells,sizeOf,typeInfo,hi,nw,aT,storeCells,sC]
  ·rw[aT];simp only[ym,List.take_zero,List.drop_zero,Eh];exact⟨A,n,cap,rfl,afV,aB,ad,aP⟩
 ·have CZ:Nat.min m n<=m/\Nat.min m n<=n:=⟨Nat.min_le_left m n,Nat.min_le_right m n⟩
  have U:Nat.min m n*sz<=m*sz:=pC _ CZ.1
  have lk:Nat.min m n*sz<=n*sz:=pC _ CZ.2
  have Ss:0<Nat.min m n*sz:=Nat.mul_pos S C1
  rcases aP with aP|⟨b,rfl,mi,cur,aZ,jV,o2⟩
  ·omega
  ·rcases ar with rfl|⟨jt,off,rfl,avU,gw⟩
   ·simp at ai;omega
   ·have o6:∀j v,(src.take (Nat.min m n*sz))[j]?=some v->w.cell? ((⟨jt,off,none⟩:Addr).add j)=some v:=fun j v ah=>by
     rw[Addr.add_lit]
     refine gw j v ?_
     rw[py] at ah
     split at ah
     ·exact ah
     ·cases ah
    have hlen:(src.take (Nat.min m n*sz)).length=Nat.min m n*sz:=by simp;omega
    have St:=run_loadCells_list (P:=P) w ⟨jt,off,none⟩ _ o6
    rw[hlen] at St
    have afb:n*sz<=cap*sz:=pC _ aB
    have gg:=run_storeCells_at P b 0 e (src.take (Nat.min m n*sz)) 0 cur w aZ (by rw[hlen];omega) (fun v ah=>O v (List.mem_of_mem_take ah))
    have Mh:fH (Value.slice (some ⟨b,0,none⟩) n cap)=some b:=by
     have aj:¬cap=0:=by omega
     simp[fH,aj]
    refine⟨w.setRow b (cur.toList.take (0+0)++src.take (Nat.min m n*sz)++cur.toList.drop (0+0+(src.take (Nat.min m n*sz)).length)).toArray,by simp[Builtin.copy_,run_underlying a2.eN,Builtin.lenOf,Builtin.firstCells,sizeOf,typeInfo,hi,nw,St,gg],rfl,rfl,rfl,by simp,fun k _ kr=>setRow_other w _ k _ (fun Ls=>kr (by rw[Ls];exact Mh)),⟨_,n,cap,rfl,?_,aB,ad,.inr ⟨b,rfl,mi,_,setRow_heap w _ _ _ _ _ aZ,?_,?_⟩⟩⟩
    ·simp;omega
    ·simp;omega
    ·simp only[vq,List.take_zero,Eh,hlen,vp]
     rw[<-o2]
     simp only[List.drop_take]
     rw[List.take_append,hlen,rb (l:=List.take _ src) S]
theorem Rd {t t2 ty e:TypeId} {sz:Nat} {dG:List Value} (a2:iF P t e sz dG) {A b4:Option Addr} {n cap m c:Nat} {l:List Value} (src:List Value) (ar:∀w,dJ H w0 X M w->dU w w.heap.size b4 src) (ai:src.length=m*sz) (O:∀u∈src,u.oneCell'=true) {i:Nat} (aS:h8 M i (.slice A n cap) (.row e sz l))
  (h:qc M i (.slice A n cap,.row e sz (src.take (Nat.min m n*sz)++l.drop (Nat.min m n*sz))) fun aE=>K (J (Nat.min m n:Nat)) (Y H w0 X aE)):bk P (Y H w0 X M) (Builtin.copy_ #[t,t2] ty #[.slice A n cap,.slice b4 m c]) K:=by
 constructor
 intro w au
 obtain⟨w',fI,aU,bs,bh,b3,gx,aC⟩:=api (t2:=t2) (ty:=ty) (c:=c) w a2 (au.new _ aS.mem) (ar w au) ai O
 obtain⟨V,aa⟩:=yS au (aS.fm _ _) aU bs bh b3 gx aC (fun b ab=> .inl ab)
 rw[wq] at h
 exact⟨_,w',_,fI,V,aa,h⟩
theorem NY {t e:TypeId} {sz:Nat} {dG:List Value} (a2:iF P t e sz dG) {iY hV:IntKind} {c:Int} (n:Nat) (aj:c=(n:Int)) (U:n<=1000000000) {K:Value->an->Prop}
  (h:∀b,K (.slice (some ⟨b,0,none⟩) n n) (Y H w0 X ((.slice (some ⟨b,0,none⟩) n n,.row e sz (List.replicate n dG).flatten)::M))):bk P (Y H w0 X M) (Instr.makeSlice t (.int iY c) (.int hV c)) K:=by
 subst aj
 exact alo a2 S S (fun b=>by simpa using h b)
theorem SY{b n:Nat}{i:Int}{sz:Nat}{K:Value->Prop}(j:Nat)(hi:i=(j:Int))(a9:j<n)(U:K (.pointer (some ⟨b,j*sz,none⟩))):gn (some ⟨b,0,none⟩) n i sz K:=by
 subst hi
 refine⟨_,rfl,by omega,by omega,?_⟩
 rw[Addr.add_lit]
 simpa using U
theorem eD{i:Nat}(h:i<9000000000000000000):cD.v (J (IntKind.i64.wrap ((i:Int)+1)))=cD.v (J ((i+1:Nat):Int)):=by
 rw[show IntKind.i64.wrap ((i:Int)+1)=((i+1:Nat):Int) from(cK S).trans S]
theorem jL {t e:TypeId} {sz:Nat} {dG:List Value} (a2:iF P t e sz dG) {A:Option Addr} {n cap:Nat} {l:List Value} {x:Value} {m:Nat} {news:List Value} {x0:Value×aY} (ar:fy P H w0 X (x0::M) sz t x m news) {i:Nat} (aS:h8 M i (.slice A n cap) (.row e sz l)) (U:n+m<=1000000000) {ty:TypeId} {K:Value->an->Prop}
  (h:∀aR fD,n+m<=fD->(0<fD->∃b,aR=some ⟨b,0,none⟩)->qc M i (.slice aR (n+m) fD,.row e sz (l++news)) fun aE=>K (.slice aR (n+m) fD) (Y H w0 X aE)):bk P (Y H w0 X (x0::M)) (Builtin.append_ #[t,t] ty #[.slice A n cap,x]) K:=by
 constructor
 intro w au
 obtain⟨aR,fD,w',fI,aC,aj,b0,aU,bs,bh,b3,gx,ab⟩:=OX (ty:=ty) a2 (au.new _ (.tail _ aS.mem)) (ar.out w au) U
 have sF:dJ H w0 X M w:=au.drop (yk _ _)
 obtain⟨V,aa⟩:=yS sF (aS.fm _ _) aU bs bh b3 gx aC ab
 have ir:=h aR fD aj fun aT=>by
  obtain⟨b,ag|ag⟩:=b0 aT
  ·exact⟨b,ag⟩
  ·omega
 rw[wq] at ir
 exact⟨_,w',_,fI,V.imp (aJ.sub (yk _ _)),aa,ir⟩
theorem dJ.VG{w:World}(au:dJ H w0 X M w){A:Option Addr}{xs:List Value}(aP:dU H H.heap.size A xs):dU w w.heap.size A xs:=by
 rcases aP with rfl|⟨b,off,rfl,ab,aj⟩
 ·exact .inl rfl
 ·cases xs with
  |nil=>exact .inl rfl
  |cons x xs=>exact .inr ⟨b,off,rfl,World.block_lt_of_cell? w _ (dJ.xG au (aj 0 x rfl)),fun j u aS=>dJ.xG au (aj j u aS)⟩
end
theorem Gt {P:Prop} (h:P:=by
 repeat'((first
  |(show ay _ _ _ _ _ _;first|(refine Wk aB (fun o0 o1 aQ bl aU=>?_))|(refine Pw ?_))
  |(show gn _ _ _ _ _;first|(refine xx a3.l 10 a3.xB S aK.rd ai (task-1).toNat ((cK S).trans S) S (fun cu fX b0 gw=>?_))|(refine Iv aK i.toNat S S (fun cu fX b0 gw=>?_))|(refine SY (task-1) ((cK S).trans S) S ?_))
  |(show bk _ _ _ _;first|(refine iZ (a3.l _) av aD W W ?_)|(refine mo (gw 0 _ rfl) aD W ?_)|(refine IZ ?_;rw[jX])|(refine NY Lt n rfl S (fun b=>?_))|(refine Rd Lt (fs.flatMap a3.l) (fun w au=>dJ.VG au aK.rd) (by rw[tj a3.l 10 a3.xB];omega) (ad9 fs) mw ?_))
  |(show eB _ _ _ _;first|(refine Gf aD ((kh fs task f).flatMap a3.l) mw W (jr (show(task-1)*10+10<=n*10 by omega) (Nat.le_of_eq (anU ai (by subst aB;split<;>omega)).symm)) (by show 0<10;omega) W (anT ai aT.1 (by subst aB;split<;>omega) f) ?_))
  |(refine cd.imp (K:=K) (dy {t with bS:=some ⟨_,0,none⟩,aX:=n,bb:=n} bO ((.slice (some ⟨_,0,none⟩) n n,.row 108 10 ((kh fs task f).flatMap a3.l))::M)) (aJ.perm (kO _ _ _)) (U _ n aB))
  |(refine ia.drop (Z:=Z) (dy t bO M) cn (V S))
  |(refine cd.drop (K:=K) (dy {t with s:=rm t.s 4 at_ ⟨15,0,_,0⟩} bO M) (List.Sublist.refl _) (O i.toNat S S))
  |(refine cd.drop (K:=K) (dy t bO M) cn (O (task-1).toNat S S))
  |(refine cd.drop (K:=K) (dy {t with s:=rm t.s dE at_ ⟨o0,o1,aQ,bl⟩} bO M) cn U)
  |(refine cd.drop (K:=K) (dy {t with s:=xS t.s _ ⟨_,_,_,_⟩} bO M) cn (U _ _ _ _ _ (by simp only[rl,cB];first|exact(if_pos S).symm|exact(if_neg S).symm) av))
  |refine eg ?_
  |(refine eh ?_ ?_<;>(try with_reducible intro ab))
  |with_reducible intro r)<;>(try conv=>whnf))):P:=h
theorem uF{ck:Type}(fZ:ck->List Value)(k:Nat)(U:∀a,(fZ a).length=k):∀(l:List ck) (i:Nat) (h:i<l.length),((l.flatMap fZ).drop (i*k)).take k=fZ l[i]
 |a::l,0,h=>by
  simp only[qn,ym,List.drop_zero,List.getElem_cons_zero]
  rw[List.take_append_of_le_length (by rw[U];exact Nat.le_refl _),rb (by rw[U];exact Nat.le_refl _)]
 |a::l,i+1,h=>by
  have e:(i+1)*k=(fZ a).length+i*k:=by rw[U,z5,Nat.add_comm]
  simp only[qn,GR]
  rw[e,List.drop_append]
  simp only[show(fZ a).length+i*k-(fZ a).length=i*k from by omega]
  rw[List.drop_of_length_le S,Eh]
  exact uF fZ k U l i (by simpa using h)
theorem tj{ck:Type}(fZ:ck->List Value)(k:Nat)(U:∀a,(fZ a).length=k):∀(l:List ck),(l.flatMap fZ).length=l.length*k
 |[]=>by simp
 |a::l=>by simp only[qn,gC,U,tj fZ k U l,oM,z5];omega
theorem xx{H:World}{ck:Type}(fZ:ck->List Value)(k:Nat)(U:∀a,(fZ a).length=k)(bh:0<k){A:Option Addr}{n:Nat}{xs:List ck}(rC:dU H H.heap.size A (xs.flatMap fZ))(aB:n=xs.length){i:Int}(j:Nat)(hi:i=j)(a9:j<xs.length){K:Value->Prop}(h:∀b off,A=some ⟨b,off,none⟩->(∀q v,(fZ xs[j])[q]?=some v->H.cell? ⟨b,off+j*k+q,none⟩=some v)->K (.pointer (some ⟨b,off+j*k,none⟩))):gn A n i k K:=by
 have key:∀q v,(fZ xs[j])[q]?=some v->(xs.flatMap fZ)[j*k+q]?=some v:=fun q v ah=>by
  rw[<-uF fZ k U xs j a9] at ah
  have bd:=(l0.1 ah).1
  rw[py,if_pos (by simp at bd;omega),qo] at ah
  exact ah
 have aT:∃v,(fZ xs[j])[0]?=some v:=⟨_,List.getElem?_eq_getElem (by rw[U];exact bh)⟩
 obtain⟨axG,aT⟩:=aT
 obtain⟨b,off,b0,ab,_⟩:=rC.at_ (key 0 _ aT)
 refine⟨_,b0,by omega,by omega,?_⟩
 rw[Addr.add_lit,hi]
 simp only[r8]
 refine h b off b0 fun q v ah=>?_
 obtain⟨cu,FK,fE,_,aj⟩:=rC.at_ (key q v ah)
 rw[b0] at fE
 injection fE with fE
 injection fE with e1 e2
 subst e1 e2
 rw[yl]
 exact aj
theorem a3.xB(f:a3):f.l.length=10:=rfl
theorem Vi:∀(xs fT vs:List Value) (o:Nat),hf (xs++fT) (xs.length+o) vs=xs++hf fT o vs
 |xs,fT,[],o=>by rw[xN,xN]
 |xs,fT,v::vs,o=>by
  rw[xM,xM,List.set_append_right _ _ S]
  simp only[show xs.length+o-xs.length=o from by omega]
  rw[yl]
  exact Vi xs _ vs (o+1)
theorem anN:∀(xs fT vs:List Value),xs.length=vs.length->hf (xs++fT) 0 vs=vs++fT:=by
 have key:∀(pre xs fT vs:List Value),xs.length=vs.length->hf (pre++(xs++fT)) pre.length vs=pre++(vs++fT):=by
  intro pre xs
  induction xs generalizing pre with
  |nil=>intro fT vs h;have:vs=[]:=q8 (by simpa using h.symm);subst this;rw[xN]
  |cons x xs cy=>
   intro fT vs h
   cases vs with
   |nil=>simp at h
   |cons v vs=>
    rw[xM,List.set_append_right _ _ S]
    simp only[Nat.sub_self,zW,Ej]
    have:=cy (pre++[v]) fT vs (by simpa using h)
    simpa using this
 intro xs fT vs h
 exact key [] xs fT vs h
theorem OG{ck:Type}(fZ:ck->List Value)(k:Nat)(U:∀a,(fZ a).length=k):∀(xs:List ck) (i:Nat) (y:ck),i<xs.length->hf (xs.flatMap fZ) (i*k) (fZ y)=(xs.set i y).flatMap fZ
 |x::xs,0,y,h=>by
  simp only[ym,qn,Ej]
  exact anN _ _ _ (by rw[U,U])
 |x::xs,i+1,y,h=>by
  simp only[qn,List.set_cons_succ]
  rw[show(i+1)*k=(fZ x).length+i*k from by rw[U,z5,Nat.add_comm],Vi,OG fZ k U xs i y (by simpa using h)]
def r2:a3:=⟨0,none,0,0,[],0,0,none,0,0,[],none,0,0,[],none,0,0,[],0,0,false⟩
theorem P1:∀n,(List.replicate n r2.l).flatten=(List.replicate n r2).flatMap a3.l
 |0=>rfl
 |n+1=>by rw[Ei,Ei,List.flatten_cons,qn,P1 n]
def kh(fs:List a3)(task:Nat)(f:a3):List a3:=(fs++List.replicate (task-fs.length) r2).set (task-1) f
theorem a3.akp(f:a3):∀u∈f.l,u.oneCell'=true:=by
 intro u aS
 simp only[a3.l,mz,sa,or_false] at aS
 rcases aS with rfl|rfl|rfl|rfl|rfl|rfl|rfl|rfl|rfl|rfl<;>rfl
theorem ad9(fs:List a3):∀u∈fs.flatMap a3.l,u.oneCell'=true:=by
 intro u aS
 obtain⟨f,_,aK⟩:=List.mem_flatMap.1 aS
 exact f.akp u aK
theorem anU{fs:List a3}{n m:Nat}(aB:n=fs.length)(CZ:n<=m):(List.take (Nat.min n m*10) (fs.flatMap a3.l)++List.drop (Nat.min n m*10) (List.replicate m r2.l).flatten).length=m*10:=by
 rw[P1,show Nat.min n m=n from z4 CZ,gC,r9,yh,tj a3.l 10 a3.xB,tj a3.l 10 a3.xB,List.length_replicate]
 omega
theorem anT{fs:List a3}{n task m:Nat}(aB:n=fs.length)(aT:1<=task)(ad:m=(if n>task then n else task))(f:a3):hf (List.take (Nat.min n m*10) (fs.flatMap a3.l)++List.drop (Nat.min n m*10) (List.replicate m r2.l).flatten) ((task-1)*10) f.l=(kh fs task f).flatMap a3.l:=by
 have CZ:Nat.min n m=n:=z4 (by split at ad<;>omega)
 have e1:List.take (n*10) (fs.flatMap a3.l)=fs.flatMap a3.l:=rb (by rw[tj a3.l 10 a3.xB];omega)
 have e2:List.drop (n*10) (List.replicate m r2.l).flatten=(List.replicate (task-fs.length) r2).flatMap a3.l:=by
  rw[P1]
  have:List.replicate m r2=List.replicate n r2++List.replicate (m-n) r2:=by rw[List.replicate_append_replicate];congr 1;split at ad<;>omega
  rw[this,zX,List.drop_left' (by rw[tj a3.l 10 a3.xB];simp)]
  congr 2
  split at ad<;>omega
 rw[CZ,e1,e2,<-zX,OG a3.l 10 a3.xB _ _ _ (by simp;omega)]
 rfl
structure gM(w:World)(A:Option Addr)(n c:Nat)(fs:List a3):Prop where
 rd:dU w w.heap.size A (fs.flatMap a3.l)
 len:n=fs.length
 cap:n<=c
 dB:n<=1000000
 each:∀f∈fs,i1 w f
abbrev FP(e v:Int):Value:= .iface 245 (.agg #[J e,J v])
abbrev lQ(e v:Int):List PanicEntry:=[{v:=FP e v,recovered:=false}]
def rm(s:cm)(phase at_:Int)(p:dp):cm:={s with phase:=phase,at_:=at_,o0:=p.o0,o1:=p.o1,aQ:=p.aQ,bl:=p.bl,bK:=none,aM:=0,bD:=0,b4:=none,ns:=0,cs:=0}
def xS(s:cm)(at_:Int)(p:dp):cm:=⟨0,at_,0,0,0,0,0,0,0,0,none,0,0,p.o0,p.o1,p.aQ,p.bl,none,0,0,none,0,0,s.ho,s.ew,s.h3,0⟩
def rl(n at_:Int):Int:=if cB (cB (2*n)-1)<=at_ then 0 else at_
section
variable{H w0:World}{X:Nat->Prop}{M:aw}{K:Value->an->Prop}{Z:bF}
variable{t:l8}{bO:Nat}
theorem JT{at_:Int}(aB:1<=t.la.bt/\t.la.bt<=8)(U:∀ei o0 o1 aQ bl,ei=rl t.la.bt at_->qY t.la.bt t.a1 t.dP ei=⟨o0,o1,aQ,bl⟩->K (.tuple #[]) (Y H w0 X (dy {t with s:=xS t.s ei ⟨o0,o1,aQ,bl⟩} bO M))):ay Tryz.prog (Y H w0 X (dy t bO M)) 217 #[ae bO,J at_] K Z:=by
 refine a7 aid ?_
 intro az aF
 conv=>whnf
 exact Gt
theorem Pw{dE at_ o0 o1 aQ bl:Int}(U:K (.tuple #[]) (Y H w0 X (dy {t with s:=rm t.s dE at_ ⟨o0,o1,aQ,bl⟩} bO M))):ay Tryz.prog (Y H w0 X (dy t bO M)) 218 #[ae bO,J dE,J at_,.agg #[J o0,J o1,J aQ,J bl]] K Z:=by
 refine a7 aie ?_
 intro az aF
 conv=>whnf
 exact Gt
theorem u9{task:Int}{fs:List a3}(aK:gM H t.bS t.aX t.bb fs)(O:∀i (h:i<fs.length),task=(i:Int)+1->K (.agg fs[i].l.toArray) (Y H w0 X (dy t bO M)))(V:¬(1<=task/\task<=fs.length)->Z (lQ 1 0) (Y H w0 X (dy t bO M))):ay Tryz.prog (Y H w0 X (dy t bO M)) 219 #[ae bO,J task] K Z:=by
 have ai:=aK.len
 have ar:=aK.dB
 refine a7 aif ?_
 intro az aF
 conv=>whnf
 exact Gt
theorem JQ{f:a3}{i at_:Int}(aK:vr H f.bq f.a5 f.bZ f.kids)(aT:0<=i)(O:∀j (h:j<f.kids.length),i=(j:Int)->K (.tuple #[]) (Y H w0 X (dy {t with s:=rm t.s 4 at_ ⟨15,0,f.kids[j].task,0⟩} bO M)))(V:f.kids.length<=i->Z (lQ 1 0) (Y H w0 X (dy t bO M))):ay Tryz.prog (Y H w0 X (dy t bO M)) 225 #[ae bO,.agg f.l.toArray,J i,J at_] K Z:=by
 have ai:=aK.len
 have ar:=aK.dB
 refine a7 aik ?_
 intro az aF
 conv=>whnf
 exact Gt
theorem ar2{task:Nat}{f:a3}{fs:List a3}(aK:gM H t.bS t.aX t.bb fs)(aT:1<=task/\task<=1000)(U:∀b n,n=(if t.aX>task then t.aX else task)->K (.tuple #[]) (Y H w0 X (dy {t with bS:=some ⟨b,0,none⟩,aX:=n,bb:=n} bO ((.slice (some ⟨b,0,none⟩) n n,.row 108 10 ((kh fs task f).flatMap a3.l))::M)))):
  ay Tryz.prog (Y H w0 X (dy t bO M)) 223 #[ae bO,J (task:Int),.agg f.l.toArray] K Z:=by
 have ai:=aK.len
 have ar:=aK.dB
 obtain⟨n,aB⟩:∃n,n=(if t.aX>task then t.aX else task):=⟨_,rfl⟩
 have jX:(if(t.aX:Int)>(task:Int) then(t.aX:Int) else(task:Int))=(n:Int):=by subst aB;split<;>split<;>omega
 have vU:n<=1000000/\task<=n:=by subst aB;split<;>omega
 refine a7 Tq ?_
 intro az aF
 conv=>whnf
 exact Gt
end
def tD(k:Int):List (Int×Value)->Option Value
 |[]=>none
 |e::m=>bif decide (k=e.1) then some e.2 else tD k m
def vf(k:Int)(v:Value):List (Int×Value)->List (Int×Value)
 |[]=> [(k,v)]
 |e::m=>bif decide (k=e.1) then(k,v)::m else e::vf k v m
def l1:List MapEntry->List (Int×Value)->Prop
 |[],[]=>True
 |e::dW,p::m=>e.key= J p.1/\e.val=p.2/\l1 dW m
 |_,_=>False
theorem l1.fW:∀{dW:List MapEntry} {m:List (Int×Value)},l1 dW m->vA dW=true
 |[],_,_=>rfl
 |e::dW,[],h=>h.elim
 |e::dW,p::m,⟨O,V,aa⟩=>by simp only[vA,O];exact aa.fW
theorem l1.len:∀{dW:List MapEntry} {m:List (Int×Value)},l1 dW m->dW.length=m.length
 |[],[],_=>rfl
 |[],_::_,h=>h.elim
 |e::dW,[],h=>h.elim
 |e::dW,p::m,⟨_,_,aa⟩=>by simp only[oM,aa.len]
theorem l1.snoc{k:Int}{v:Value}{c:Nat}:∀{dW:List MapEntry} {m:List (Int×Value)},l1 dW m->l1 (dW++[⟨J k,v,c⟩]) (m++[(k,v)])
 |[],[],_=>⟨rfl,rfl,trivial⟩
 |[],_::_,h=>h.elim
 |e::dW,[],h=>h.elim
 |e::dW,p::m,⟨O,V,aa⟩=>⟨O,V,aa.snoc⟩
theorem l1.find{k:Int}{v:Value}:∀{dW:List MapEntry} {m:List (Int×Value)} (j:Nat),l1 dW m->match mZ k dW j with
  |some (i,x)=>tD k m=some x/\j<=i/\i-j<dW.length/\(dW[i-j]?.map (·.key))=some (J k)/\l1 (dW.modify (i-j) fun e=>{e with key:= J k,val:=v}) (vf k v m)
  |none=>tD k m=none/\vf k v m=m++[(k,v)]
 |[],[],_,_=>⟨rfl,rfl⟩
 |[],_::_,_,h=>h.elim
 |e::dW,[],_,h=>h.elim
 |e::dW,p::m,j,⟨O,V,aa⟩=>by
  simp only[mZ,O]
  by_cases U:k=p.1
  ·simp only[U,decide_true,cond_true,tD,vf,Nat.sub_self]
   exact⟨by rw[V],Nat.le_refl _,Nat.succ_pos _,by simp[O],rfl,rfl,aa⟩
  ·simp only[U,decide_false,cond_false,tD,vf]
   have cy:=l1.find (k:=k) (v:=v) (j+1) aa
   cases aK:mZ k dW (j+1) with
   |none=>rw[aK] at cy;exact⟨cy.1,by rw[cy.2];rfl⟩
   |some x=>
    obtain⟨i,y⟩:=x
    rw[aK] at cy
    obtain⟨gX,gr,kT,lI,Ax⟩:=cy
    have e1:i-j=(i-(j+1))+1:=by omega
    refine⟨gX,by omega,by rw[e1];simpa using kT,by rw[e1];simpa using lI,?_⟩
    rw[e1]
    simp only[List.modify_succ_cons]
    exact⟨O,V,Ax⟩
section
variable{H w0:World}{X:Nat->Prop}{M:aw}{K:Value->an->Prop}{Z:bF}{ao:Operand->Value}{o:Oper}
theorem T5 {t:TypeId} {m k:Operand} {b:Nat} {fW:Int} {dW:List MapEntry} {lO:List (Int×Value)} {clock:Nat} {kt et:TypeId} {mW:c5} {c:Bool} (aU:o.op= .lookup t m k c) (ad:ao m= .map (some b)) (nV:ao k= J fW) (aS:(Value.map (some b),aY.map dW clock)∈M) (c3:l1 dW lO) (vV:Tryz.prog.underlying t=some (.map kt et)) (U:Tryz.prog.underlying kt=some (.int .i64)) (af:e7 Tryz.prog et mW) (x:Value) (aW:(tD fW lO).getD mW.lX=x)
  (h:K (bif c then .tuple #[x,.bool (tD fW lO).isSome] else x) (Y H w0 X M)):ff Tryz.prog (Y H w0 X M) (execOp ao o) K Z:=by
 subst aW
 constructor
 intro w au
 obtain⟨cu,dQ,aZ⟩:=au.new _ aS
 cases dQ
 have fI:=Wc (P:=Tryz.prog) (k:=fW) vV U af c3.fW aZ c
 have aK:=c3.find (k:=fW) (v:= .bool true) 0
 refine .inl ⟨_,w,_,?_,iJ.refl _ _,au,h⟩
 cases e:mZ fW dW 0 with
 |none=>rw[e] at aK fI;rw[aK.1];cases c<;>simp[execOp,aU,ad,nV,fI]
 |some y=>rw[e] at aK fI;obtain⟨i,y⟩:=y;rw[aK.1];cases c<;>simp[execOp,aU,ad,nV,fI]
theorem T6 {t:TypeId} {m k v:Operand} {b:Nat} {fW:Int} {dW:List MapEntry} {lO:List (Int×Value)} {clock i:Nat} {kt et:TypeId} (aU:o.op= .mapUpdate t m k v) (ad:ao m= .map (some b)) (nV:ao k= J fW) (aS:h8 M i (.map (some b)) (.map dW clock)) (c3:l1 dW lO) (vV:Tryz.prog.underlying t=some (.map kt et)) (U:Tryz.prog.underlying kt=some (.int .i64)) (x:Value) (aW:ao v=x)
  (h:∀w6 Ap,l1 w6 (vf fW x lO)->qc M i (.map (some b),.map w6 Ap) fun aE=>K undef (Y H w0 X aE)):ff Tryz.prog (Y H w0 X M) (execOp ao o) K Z:=by
 subst aW
 constructor
 intro w au
 obtain⟨cu,dQ,aZ⟩:=au.new _ aS.mem
 cases dQ
 have cc:b<w.heap.size:=(oI.1 aZ).1
 have aK:=c3.find (k:=fW) (v:=ao v) 0
 have O:(getObj b).run Tryz.prog w= .ok (.map dW.toArray clock) w:=by simp[getObj,Sem.run,aZ]
 obtain⟨w6,Ap,xg,fI⟩:∃w6 Ap,l1 w6 (vf fW (ao v) lO)/\(Instr.mapUpdate t (.map (some b)) (J fW) (ao v)).run Tryz.prog w= .ok () {w with heap:=w.heap.setIfInBounds b (.map w6.toArray Ap)}:=by
  cases e:mZ fW dW 0 with
  |none=>
   rw[e] at aK
   exact⟨_,_,by rw[aK.2];exact c3.snoc (c:=clock),Wa (P:=Tryz.prog) (v:=ao v) vV U c3.fW aZ (by rw[e];rfl)⟩
  |some y=>
   obtain⟨i,y⟩:=y
   rw[e] at aK
   obtain⟨gX,gr,kT,lI,Ax⟩:=aK
   rw[Nat.sub_zero] at kT lI Ax
   refine⟨_,clock,Ax,?_⟩
   have ar:Instr.keyThatStays (((dW.toArray[i]?).map (·.key)).getD (J fW)) (J fW)=pure (J fW):=by
    have:(dW.toArray[i]?).map (·.key)=some (J fW):=by simpa using lI
    rw[this]
    simp[Instr.keyThatStays,Instr.sameBits]
   simp only[Instr.mapUpdate,Sem.run_bind,run_underlying vV,Result.andThen_ok,O,Sem.run_pure,OY U,OZ U c3.fW,e,ar]
   simp[setObj,Sem.run,aZ]
 have h:=h w6 Ap xg
 rw[wq] at h
 obtain⟨V,aa⟩:=yS au (aS.fm (.map (some b)) (.map w6 Ap)) (w':={w with heap:=w.heap.setIfInBounds b (.map w6.toArray Ap)}) rfl rfl rfl (by simp) (fun k ir kr=>by
   have:b≠k:=fun e=>kr (by rw[e];rfl)
   simp[D1,this]) ⟨b,rfl,by simp[D1,cc]⟩ (fun cu dQ=> .inl dQ)
 exact .inr (.inl ⟨_,_,by simp[execOp,aU,ad,nV,fI],V,aa,h⟩)
theorem alb{t ty:TypeId}{b:Nat}{dW:List MapEntry}{lO:List (Int×Value)}{clock:Nat}{kt et:TypeId}(aS:(Value.map (some b),aY.map dW clock)∈M)(c3:l1 dW lO)(vV:Tryz.prog.underlying t=some (.map kt et))(h:K (J (lO.length:Int)) (Y H w0 X M)):bk Tryz.prog (Y H w0 X M) (Builtin.len_ #[t] ty #[.map (some b)]) K:=by
 constructor
 intro w au
 obtain⟨cu,dQ,aZ⟩:=au.new _ aS
 cases dQ
 have O:(getObj b).run Tryz.prog w= .ok (.map dW.toArray clock) w:=by simp[getObj,Sem.run,aZ]
 refine⟨_,w,_,?_,iJ.refl _ _,au,h⟩
 simp[Builtin.len_,Sem.run_bind,run_underlying vV,O,c3.len,goInt]
end
section
variable{P:Program}{H w0:World}{X:Nat->Prop}{M aE:aw}
theorem ff.imp{m:Sem Next}{K:Value->an->Prop}{Z:bF}(ar:aJ M aE)(h:ff P (Y H w0 X aE) m K Z):ff P (Y H w0 X M) m K Z:=⟨fun w au=>by
 rcases h.out w (ar.on _ _ _ _ au) with⟨v,w',aG,O,V,aa⟩|⟨w',aG,O,V,aa⟩|⟨v,w',aG,O,V,aa⟩
 ·exact .inl ⟨v,w',aG,O,V.imp ar,aa⟩
 ·exact .inr (.inl ⟨w',aG,O,V.imp ar,aa⟩)
 ·exact .inr (.inr ⟨v,w',aG,O,V.imp ar,aa⟩)⟩
theorem je{ck:Type}{A:Option Addr}{n sz B:Nat}{l:List ck}(fZ:ck->List Value)(af:∀a,(fZ a).length=sz)(aP:dU H B A (l.flatMap fZ))(aB:n=l.length){i:Int}(j:Nat)(hi:i=(j:Int))(a9:j<l.length)(b3:0<sz){K:Value->Prop}(U:∀b o,(∀q v,(fZ l[j])[q]?=some v->H.cell? ⟨b,o+j*sz+q,none⟩=some v)->K (.pointer (some ⟨b,o+j*sz,none⟩))):gn A n i sz K:=by
 subst hi aB
 have aT:(fZ l[j]).length=sz:=af _
 have kE:=uF fZ sz af l j a9
 have im:∀q v,(fZ l[j])[q]?=some v->(l.flatMap fZ)[j*sz+q]?=some v:=fun q v ah=>by
  rw[<-kE,py] at ah
  split at ah
  ·rw[qo] at ah;exact ah
  ·cases ah
 have agA:(fZ l[j])[0]?=some (fZ l[j])[0]:=List.getElem?_eq_getElem S
 obtain⟨b,o,b0,_,_⟩:=aP.at_ (im 0 _ agA)
 refine⟨_,b0,by omega,by omega,?_⟩
 rw[Addr.add_lit]
 have:=U b o fun q v ah=>by
  obtain⟨cu,fX,fE,_,aj⟩:=aP.at_ (im q v ah)
  rw[b0] at fE
  injection fE with fE
  injection fE with O V
  subst O V
  rw[yl]
  exact aj
 simpa using this
end
def jE(i:fe):Int:=if i.op=3\/i.op=5\/i.op=12\/i.op=16\/i.op=17\/i.op=18 then 1 else if i.op=6\/i.op=7\/i.op=8\/i.op=9\/i.op=10\/i.op=19 then 2 else if i.op=11 then i.c else if i.op=13 then i.b else 0
def qS(i:fe):Int:=if i.op=1\/i.op=2\/i.op=4\/i.op=6\/i.op=7\/i.op=8\/i.op=9\/i.op=10\/i.op=11\/i.op=19 then 1 else 0
def lP(i:fe)(at_:Int):List Int:=if i.op=15 then [i.a] else if i.op=16 then [at_+1,i.a] else if i.op=17 then [] else [at_+1]
theorem OE(i:fe):0<=qS i/\qS i<=1:=by unfold qS;split<;>omega
theorem UJ(i:fe)(a:Int):(lP i a).length<=2:=by unfold lP;split<;>(try split)<;>(try split)<;>simp
def Kj(ins:List fe)(out:List Int)(k:Nat):Prop:=out.getD k 0<0\/∃i,ins[k]?=some i/\0<=jE i/\jE i<=out.getD k 0/\∀t∈lP i k,0<=t/\t<ins.length/\out.getD t.toNat 0=out.getD k 0-jE i+qS i
def wJ(ins:List fe)(out:List Int):Prop:=∀k,k<ins.length->Kj ins out k
def lg(out:List Int):Nat:=out.countP fun x=>decide (0<=x)
structure q6(ins:List fe)(out:List Int):Prop where
 len:out.length=ins.length
 z:out[0]?=some 0
 el:∀x∈out, -1<=x/\x<lg out
theorem yR{l:List Int}{k:Nat}(h:k<l.length):l.getD k 0=l[k]:=by simp[List.getD,h]
theorem K9{out:List Int}:∀{t:Nat} {h:Int},t<out.length->out.getD t 0<0->0<=h->lg (out.set t h)=lg out+1:=by
 induction out with
 |nil=>intro t h bs;exact absurd bs (En _)
 |cons x l cy=>
  intro t h bs aB eb
  cases t with
  |zero=>
   have aW:x<0:=aB
   simp only[lg,Ej,List.countP_cons]
   simp[eb,show ¬0<=x by omega]
  |succ t=>
   have:=cy (t:=t) (h:=h) (by simpa using bs) (by simpa[List.getD] using aB) eb
   simp only[lg,List.set_cons_succ,List.countP_cons] at this|-
   omega
theorem K8(out:List Int):lg out<=out.length:=List.countP_le_length
section
variable{ins:List fe}{out n3 n4:List Int}{k:Nat}{h:Int}
theorem q6.get(hi:q6 ins out)(U:k<ins.length): -1<=out.getD k 0/\out.getD k 0<lg out:=by
 have ai:=hi.len
 rw[yR S]
 exact hi.el _ (fM _)
theorem q6.set(hi:q6 ins out){t:Nat}(bs:t<ins.length)(aB:out.getD t 0<0)(aT:0<=h)(O:h<=lg out):q6 ins (out.set t h):=by
 have ai:=hi.len
 have aj:=K9 (out:=out) (t:=t) (h:=h) S aB aT
 refine⟨by rw[nJ];exact ai,?_,fun x aW=>?_⟩
 ·have b3:=hi.z
  have V:t≠0:=fun e=>by
   subst e
   rw[List.getElem?_eq_getElem S] at b3
   injection b3 with b3
   rw[yR S,b3] at aB
   omega
  rw[zY V]
  exact b3
 ·rcases List.mem_or_eq_of_mem_set aW with aW|rfl
  ·have:=hi.el x aW
   omega
  ·omega
structure uj(ins:List fe)(n4:List Int)(k:Nat)(h:Int)(fl:List Int)(j:Nat)(out:List Int):Prop where
 pT:q6 ins out
 mono:lg n4<=lg out
 Bh:(out=n4/\∀t∈fl.take j,0<=t/\t<ins.length/\n4.getD t.toNat 0=h)\/(lg n4<lg out/\¬Kj ins n4 k)
structure sc(ins:List fe)(n3:List Int)(k:Nat)(out:List Int):Prop where
 pT:q6 ins out
 mono:lg n3<=lg out
 Hh:wJ ins n3->out=n3
 Bh:(out=n3/\∀k',k'<k->Kj ins n3 k')\/lg n3<lg out
theorem sc.start(hi:q6 ins out):sc ins out 0 out:=⟨hi,Nat.le_refl _,fun _=>rfl,.inl ⟨rfl,fun k' h=>absurd h (En _)⟩⟩
theorem sc.skip(aP:sc ins n3 k out)(aB:out.getD k 0<0):sc ins n3 (k+1) out:=⟨aP.pT,aP.mono,aP.Hh,aP.Bh.imp (fun⟨O,V⟩=>⟨O,fun k' ir=>by
 rcases pB k' k with aa|aa
 ·exact V k' aa
 ·have:k'=k:=by omega
  subst this
  rw[O] at aB
  exact .inl aB⟩) id⟩
theorem sc.arA(aP:sc ins n3 k out){fl:List Int}:uj ins out k h fl 0 out:=⟨aP.pT,Nat.le_refl _,.inl ⟨rfl,fun t bs=>by simp at bs⟩⟩
theorem uj.same{fl:List Int}{j:Nat}(bs:uj ins n4 k h fl j out)(a9:j<fl.length)(aT:0<=fl[j]/\fl[j]<ins.length)(af:out.getD fl[j].toNat 0=h):uj ins n4 k h fl (j+1) out:=⟨bs.pT,bs.mono,bs.Bh.imp (fun⟨O,V⟩=>⟨O,fun t tt=>by
 rw[ue a9] at tt
 rcases iw.1 tt with aa|aa
 ·exact V t aa
 ·rw[nK] at aa
  subst aa
  rw[O] at af
  exact⟨aT.1,aT.2,af⟩⟩) id⟩
theorem uj.set{i:fe}{j:Nat}(bs:uj ins n4 k h (lP i k) j out)(hi:ins[k]?=some i)(ai:0<=n4.getD k 0)(O:h=n4.getD k 0-jE i+qS i)(V:0<=jE i/\jE i<=n4.getD k 0)(a9:j<(lP i k).length)(aT:0<=(lP i k)[j]/\(lP i k)[j]<ins.length)(aB:out.getD (lP i k)[j].toNat 0<0)(ab:n4.getD k 0<lg n4):uj ins n4 k h (lP i k) (j+1) (out.set (lP i k)[j].toNat h):=by
 have bh:=OE i
 have ad:=bs.mono
 have aj:=K9 (out:=out) (t:=(lP i k)[j].toNat) (h:=h) (by have:=bs.pT.len;omega) aB S
 refine⟨bs.pT.set S aB S S,by omega,.inr ⟨by omega,?_⟩⟩
 rcases bs.Bh with⟨aa,_⟩|⟨_,aa⟩
 ·subst aa
  rintro(ag|⟨Iq,o4,a6,bU,dh⟩)
  ·omega
  ·rw[hi] at o4
   injection o4 with o4
   subst o4
   have:=(dh _ (fM a9)).2.2
   omega
 ·exact aa
theorem uj.done{i:fe}(bs:uj ins n4 k h (lP i k) (lP i k).length out)(aP:sc ins n3 k n4)(hi:ins[k]?=some i)(O:h=n4.getD k 0-jE i+qS i)(V:0<=jE i/\jE i<=n4.getD k 0):sc ins n3 (k+1) out:=by
 have sA:k<ins.length:=(l0.1 hi).1
 have mJ:=bs.mono
 have nW:=aP.mono
 rcases bs.Bh with⟨aa,ag⟩|⟨aa,ag⟩
 ·subst aa
  refine⟨aP.pT,aP.mono,aP.Hh,aP.Bh.imp (fun⟨a6,bU⟩=>⟨a6,fun k' ir=>?_⟩) id⟩
  rcases pB k' k with dh|dh
  ·exact bU k' dh
  ·have:k'=k:=by omega
   subst this
   rw[<-a6]
   refine .inr ⟨i,hi,V.1,V.2,fun t agv=>?_⟩
   rw[Ek] at ag
   have:=ag t agv
   exact⟨this.1,this.2.1,this.2.2.trans O⟩
 ·refine⟨bs.pT,by omega,fun aj=>?_,.inr S⟩
  have:=aP.Hh aj
  subst this
  exact absurd (aj k sA) ag
theorem sc.next{again:Nat}(aP:sc ins n3 ins.length out)(aT:wJ ins n3\/again+1<=lg n3):wJ ins out\/again+2<=lg out:=by
 rcases aP.Bh with⟨O,V⟩|O
 ·subst O
  exact .inl fun k U=>V k U
 ·rcases aT with aT|aT
  ·have:=aP.Hh aT
   subst this
   exact .inl aT
  ·exact .inr S
theorem q6.closed(hi:q6 ins out)(h:wJ ins out\/ins.length+2<=lg out):wJ ins out:=h.resolve_right fun h=>by
 have:=K8 out
 have:=hi.len
 omega
theorem afE{n:Nat}(aB:ins.length=n+1):q6 ins ((List.replicate (n+1) (-1)).set 0 0)/\1<=lg ((List.replicate (n+1) (-1:Int)).set 0 0):=by
 have aj:lg ((List.replicate (n+1) (-1:Int)).set 0 0)=lg (List.replicate (n+1) (-1:Int))+1:=K9 (by simp) (by simp[List.getD]) (my _)
 refine⟨⟨by simp[aB],by simp,fun x aW=>?_⟩,by omega⟩
 rcases List.mem_or_eq_of_mem_set aW with aW|rfl
 ·have:=List.eq_of_mem_replicate aW
  omega
 ·omega
end
end Go.Proofs.YtcflcebplhdcpaaGreat
