/- Lemmas, part 16; each states its own conditions. -/
import Derived.Test.YtcflcebplhdcpaaGreatL11
import Derived.Test.YtcflcebplhdcpaaGreatL14
import Derived.Test.YtcflcebplhdcpaaGreatL15
namespace Go.Proofs.YtcflcebplhdcpaaGreat
open Go.RowKit
set_option linter.unusedSimpArgs false
set_option linter.unusedVariables false
set_option maxRecDepth 100000
set_option maxHeartbeats 16000000
theorem iy {f:FuncId} {fn:Func} {n:Nat} {ix:List Nat} {D:Nat->fx} (k:vl Tryz.prog f fn n ix D) {args:List Value} (hlen:Nat.ble args.length n=true) {w:World} {R:Ending->World->Prop} (C:an) (c3:C.R w)
  (h:hv Tryz.prog wv {n:=n,esc:=mG ix} D (fn.body.getD .skip) C ⟨g1 args,jA⟩ (Eu Tryz.prog wv fn R) (KU Tryz.prog wv fn R)):Calls Tryz.prog f args.toArray w R:=
 aca e8 i6 n (mG ix) k.mh k.jt k.ec k.oo hlen C c3 h
def cQ(z:dk)(G eo:bY)(w0:World):an where
 rn k:=(∃x,G k=some x)\/k<w0.heap.size
 R w:=er z G w/\gU eo w0 G w
 lt w h k U:=by
  rcases U with⟨x,aW⟩|U
  ·exact h.1.lt aW
  ·exact lB U h.2.size
 wt w w' h ar b3 O V aa:=by
  refine⟨h.1.same fun b x ab=>ar b (.inl ⟨x,ab⟩),?_⟩
  exact⟨O.trans h.2.os,V.trans h.2.tape,aa.trans h.2.output,jr h.2.size b3,h.2.le,h.2.new,fun k U aB=>(ar k (.inr U)).trans (h.2.block k U aB)⟩
theorem cQ.start{z:dk}{G:bY}{w:World}(eA:er z G w):(cQ z G G w).R w:=⟨eA,gU.refl G w⟩
section
variable{P:Program}{Z:bF}{z dt:dk}{G bG eo:bY}{w0 w w':World}
theorem Ay(h:er z G w/\gU eo w0 G w)(ef:er dt bG w')(ex:gU G w bG w'):iJ (cQ z G eo w0) w (cQ dt bG eo w0) w'/\(cQ dt bG eo w0).R w':=by
 refine⟨⟨ex.size,fun k U aB=>ex.block k U ?_,fun k U=>?_⟩,ef,h.2.trans ex⟩
 ·cases e:G k with
  |none=>rfl
  |some x=>exact absurd (.inl ⟨x,e⟩) aB
 ·rcases U with⟨x,aW⟩|U
  ·rcases ex.new k x aW with O|O
   ·exact .inl (.inl ⟨x,O⟩)
   ·exact .inr O
  ·exact .inl (.inr U)
def lb(z:dk)(G:bY)(w:World)(hn:dk->bY->Value->Prop)(e:Ending)(w':World):Prop:=∃dt bG v,e= .returned v/\er dt bG w'/\gU G w bG w'/\hn dt bG v
theorem ay.ku{Z:bF}{f:FuncId}(args:List Value){vs:Array Value}{K:Value->an->Prop}(af:oa P f)(hn:dk->bY->Value->Prop)(aj:∀w,er z G w->gU eo w0 G w->Calls P f args.toArray w (lb z G w hn))(h:∀dt bG v,G.le bG->hn dt bG v->K v (cQ dt bG eo w0))(ox:vs=args.toArray:=by rfl):ay P (cQ z G eo w0) f vs K Z:=by
 constructor
 subst ox
 refine⟨af,fun w au=>(aj w au.1 au.2).mono fun e w' ⟨dt,bG,v,O,V,aa,ag⟩=>?_⟩
 obtain⟨a6,bU⟩:=Ay au V aa
 exact .inl ⟨v,_,O,a6,bU,h _ _ _ aa.le ag⟩
theorem zh{A:Option Addr}{n:Nat}{i:Int}{sz:Nat}{K:Value->Prop}{b off:Nat}(b0:A=some ⟨b,off,none⟩)(k:Nat)(hi:i=k)(U:k<n)(h:K (.pointer (some ⟨b,off+k*sz,none⟩))):gn A n i sz K:=by
 constructor
 subst hi
 refine⟨_,b0,by omega,by omega,?_⟩
 simpa[Ag] using h
theorem acN(r:eT){A:Option Addr}{n c:Nat}{h:Int}{K:Value->Prop}(ar:bL G r A n c)(m:Nat)(eb:h=m)(ad:m<=c)(U:∀aR,bL G r aR m c->K (.slice aR m c)):kN A n c r.size none (some h) K:=by
 constructor
 subst eb
 refine⟨by simp,by simp,by simpa using ad,?_⟩
 have:=U _ (ar.cut (k:=0) (m:=m) (cY _) ad)
 simpa using this
theorem acP(r:eT){A:Option Addr}{n c:Nat}{l:Int}{K:Value->Prop}(ar:bL G r A n c)(k:Nat)(ai:l=k)(ad:k<=n)(U:∀aR aN,bL G r aR (n-k) aN->K (.slice aR (n-k) aN)):kN A n c r.size (some l) none K:=by
 constructor
 subst ai
 have aj:=ar.kl
 refine⟨by simp,by simpa using ad,by simp,?_⟩
 have:=U _ _ (ar.cut (k:=k) (m:=n) ad aj.1)
 simpa using this
theorem T1{t:TypeId}{i:c5}(hi:e7 P t i)(dX:i.d.agg=false){b off:Nat}{K:Value->an->Prop}(aP:∀w,er z G w->∃n,w.cell? ⟨b,off,none⟩=some (J n))(h:∀n,K (J n) (cQ z G eo w0)):bk P (cQ z G eo w0) (Instr.loadAt t (.pointer (some ⟨b,off,none⟩))) K:=by
 constructor
 intro w au
 obtain⟨n,aB⟩:=aP w au.1
 exact⟨J n,w,_,by simp[Instr.loadAt,Instr.sureAddr,loadVar,hi.rR,dX,load,Sem.run,aB],iJ.refl _ _,au,h n⟩
theorem IU{C:an}{t:TypeId}{i:c5}(hi:e7 P t i)(dX:i.d.agg=false){a:Addr}{K:Value->an->Prop}(hn:Value->Prop)(aP:∀w,C.R w->∃v,w.cell? a=some v/\hn v)(h:∀v,hn v->K v C):bk P C (Instr.loadAt t (.pointer (some a))) K:=by
 constructor
 intro w au
 obtain⟨v,ah,bh⟩:=aP w au
 exact⟨v,w,_,by simp[Instr.loadAt,Instr.sureAddr,loadVar,hi.rR,dX,load,Sem.run,ah],iJ.refl _ _,au,h v bh⟩
theorem IT{C:an}{t:TypeId}{i:c5}(hi:e7 P t i)(dX:i.d.agg=true){b off:Nat}{K:Value->an->Prop}(hn:List Value->Prop)(aP:∀w,C.R w->∃l:List Value,l.length=i.size/\(∀j v,l[j]?=some v->w.cell? ⟨b,off+j,none⟩=some v)/\hn l)(h:∀l,hn l->K (.agg l.toArray) C):bk P C (Instr.loadAt t (.pointer (some ⟨b,off,none⟩))) K:=by
 constructor
 intro w au
 obtain⟨l,ai,ah,bh⟩:=aP w au
 have O:(loadCells ⟨b,off,none⟩ l.length).run P w= .ok l.toArray w:=run_loadCells_list w _ l fun j v a9=>by rw[Ag];exact ah j v a9
 rw[ai] at O
 exact⟨.agg l.toArray,w,_,by simp[Instr.loadAt,Instr.sureAddr,loadVar,hi.rR,dX,hi.u0,O],iJ.refl _ _,au,h l bh⟩
end
section
variable{z:dk}{G eo:bY}{w0:World}
theorem g3 (r:eT) {nM:Array TypeId} {ty:TypeId} {vs:Array Value} {K:Value->an->Prop} {A:Option Addr} {n c:Nat} (ar:bL G r A n c) {aR:Option Addr} {dT aN:Nat} (kG:bL G r aR dT aN) (m:Nat) (ad:m=n+dT) (aB:m<=1000000000)
  (h:∀bG lY mb,G.le bG->bL bG r lY m mb->K (.slice lY m mb) (cQ z bG eo w0)) (xi:nM=#[r.eN,r.eN]:=by rfl) (ox:vs=#[.slice A n c,.slice aR dT aN]:=by rfl):bk Tryz.prog (cQ z G eo w0) (Builtin.append_ nM ty vs) K:=by
 constructor
 subst xi ox ad
 intro w au
 obtain⟨news,af,o6⟩:=kG.src au.1 (zM r)
 obtain⟨i,hi,aT,O,V⟩:=info_parts (C8 r)
 have:=r.QZ
 have ab:(n+dT)*r.bytes<=1000000000*96:=Nat.mul_le_mul aB this
 obtain⟨lY,mb,w',bG,fI,aa,ag,a6⟩:=V5 au.1 r.eN r.eN ty r i r.zero r.bytes (zM r) hi aT O V (P4 r) (Yg z G r) A n c ar _ dT news af o6 S S
 obtain⟨bU,dh⟩:=Ay au aa ag
 exact⟨_,w',_,fI,bU,dh,h bG lY mb ag.le a6⟩
theorem Hc (r:eT) (n:Nat) {ps:List (Nat×Value)} (cs:List Value) {K:Value->an->Prop} (fI:∀w,(Instr.buildSlice r.eN n ps.toArray).run Tryz.prog w= .ok (.slice (some ⟨w.heap.size,0,none⟩) n n) (w.alloc (.cells cs.toArray r.id))) (af:iG z G r n cs) (aB:n<=1000000)
  (h:∀bG A,G.le bG->bL bG r A n n->K (.slice A n n) (cQ z bG eo w0)):bk Tryz.prog (cQ z G eo w0) (Instr.buildSlice r.eN n ps.toArray) K:=by
 constructor
 intro w au
 obtain⟨O,V⟩:=au.1.Jp r n cs af
 obtain⟨bU,dh⟩:=Ay au O V
 refine⟨_,_,_,fI w,bU,dh,h _ _ V.le (.inr ⟨w.heap.size,0,n,by simp,by simp[bY.fm],by omega,Nat.le_refl _,by omega⟩)⟩
theorem OR{ck:Type}(n:Nat)(f:Nat->ck):(Array.range n).map f=((List.range n).map f).toArray:=by apply oH;simp
theorem V6(r:eT)(w:World):(Instr.buildSlice r.eN 0 #[]).run Tryz.prog w= .ok (.slice (some ⟨w.heap.size,0,none⟩) 0 0) (w.alloc (.cells #[] r.id)):=by
 obtain⟨i,hi,aT,O,V⟩:=info_parts (C8 r)
 simp[Instr.buildSlice,run_underlying (zM r),sizeOf,typeInfo,hi,Instr.fill,newRow,newObj,Sem.run,OR]
theorem td(r:eT){t:TypeId}{ps:Array (Nat×Value)}{K:Value->an->Prop}(h:∀bG A,G.le bG->bL bG r A 0 0->K (.slice A 0 0) (cQ z bG eo w0))(bs:t=r.eN:=by rfl)(pV:ps=#[]:=by rfl):bk Tryz.prog (cQ z G eo w0) (Instr.buildSlice t 0 ps) K:=by
 subst bs pV
 exact Hc r 0 (ps:=[]) [] (fun w=>V6 r w) (iG.nil z G r) S h
theorem adV(n:Nat)(cs:Array Value)(h:n=cs.size)(f:Nat->Value):Instr.fill (fun i=>some (i*n,n)) ((Array.range n).map f) [(0,Value.agg cs)]=some cs:=by
 subst h
 have O:=LO cs.toList ((List.range cs.size).map f) 0 0
 have e:(Array.range cs.size).map f=((List.range cs.size).map f).toArray:=by apply oH;simp
 have V:(hf ((List.range cs.size).map f) 0 cs.toList)=cs.toList:=by
  rw[OF _ _ _ (by simp)]
  simp
 simp only[Instr.fill,Value.cells,ym,vq]
 rw[if_neg (by simp)]
 rw[e]
 simp only[vq] at O
 rw[V] at O
 rw[<-Array.foldl_toList,Array.toList_zipIdx]
 rw[O]
theorem yB(r:eT)(cs:Array Value){K:Value->an->Prop}(ar:cs.size=r.size)(af:iG z G r 1 cs.toList)(h:∀bG A,G.le bG->bL bG r A 1 1->K (.slice A 1 1) (cQ z bG eo w0)){t:TypeId}{ps:Array (Nat×Value)}(bs:t=r.eN:=by rfl)(pV:ps=#[(0,.agg cs)]:=by rfl):bk Tryz.prog (cQ z G eo w0) (Instr.buildSlice t 1 ps) K:=by
 subst bs pV
 refine Hc r 1 (ps:=[(0,.agg cs)]) cs.toList (fun w=>?_) af S h
 obtain⟨i,hi,aT,O,V⟩:=info_parts (C8 r)
 have bh:=r.size_pos
 have m3:r.size<=10:=by cases r<;>decide
 have b3:=P4 r
 have:=adV r.size cs ar.symm (fun x=>r.zero.cells[x%r.zero.cells.size]!)
 simp[Instr.buildSlice,run_underlying (zM r),sizeOf,typeInfo,hi,zeroValue,aT,O,newRow,newObj,Sem.run,this,show ¬16777216<r.size by omega,show r.size≠0 by omega,ar]
def A8:List Value->Nat->List (Nat×Value)
 |[],_=> []
 |v::l,i=>(i,v)::A8 l (i+1)
theorem adW(l:List Int):∀(cs:List Value) (i:Nat),i+l.length<=cs.length->Instr.fill (fun i=>some (i,1)) cs.toArray (A8 (is l) i)=some (hf cs i (is l)).toArray:=by
 induction l with
 |nil=>intro cs i _;simp[is,A8,Instr.fill,xN]
 |cons x l cy=>
  intro cs i h
  simp only[oM] at h
  have e:is (x::l)= J x::is l:=rfl
  rw[e,xM]
  have V:=cy (cs.set i (J x)) (i+1) (by simp;omega)
  rw[<-V]
  simp[A8,Instr.fill,Value.cells,show ¬cs.length<i+1 by omega]
theorem oh(xs:List Int){K:Value->an->Prop}(aB:xs.length<=1000){t:TypeId}{n:Nat}{ps:Array (Nat×Value)}(h:∀bG A,G.le bG->bL bG .int A n n->K (.slice A n n) (cQ z bG eo w0))(bs:t=23:=by rfl)(ai:n=xs.length:=by rfl)(pV:ps=(A8 (is xs) 0).toArray:=by rfl):bk Tryz.prog (cQ z G eo w0) (Instr.buildSlice t n ps) K:=by
 subst bs ai pV
 refine Hc .int xs.length (ps:=A8 (is xs) 0) (is xs) (fun w=>?_) (Lu z G xs) S h
 obtain⟨i,hi,aT,O,V⟩:=info_parts (C8 .int)
 have O:i.size=1:=O
 have hi:(Tryz.prog).info? 3=some i:=hi
 have aK:∀f:Nat->Value,Instr.fill (fun i=>some (i,1)) ((List.range xs.length).map f).toArray (A8 (is xs) 0)=some (is xs).toArray:=fun f=>by
  rw[adW xs _ 0 (by simp),OF _ _ _ (by simp)]
  simp
 have aW:¬16777216<xs.length:=by omega
 by_cases CI:xs.length=0
 ·have:xs=[]:=q8 CI
  subst this
  exact V6 .int w
 ·have b3:i.zero=some (J 0):=aT
  simp[Instr.buildSlice,run_underlying Tryz.underlying23,sizeOf,typeInfo,hi,zeroValue,b3,O,newRow,newObj,Sem.run,eT.eN,eT.id,aW,CI]
  rw[OR,aK]
  rfl
end
def pw(G:bY)(r:eT)(b off:Nat):Prop:=∃cap i,G b=some (r,cap)/\off=i*r.size/\i<cap
section
variable{z:dk}{G bG eo:bY}{w0 w:World}{r:eT}{b off:Nat}
theorem pw.mono(h:pw G r b off)(ai:G.le bG):pw bG r b off:=by
 obtain⟨cap,i,O,V,aa⟩:=h
 exact⟨cap,i,ai _ _ O,V,aa⟩
theorem pw.mg(h:pw G r b off)(eA:er z G w):k6 z G r (fun j=>w.cell? ⟨b,off+j,none⟩):=by
 obtain⟨cap,i,O,V,aa⟩:=h
 subst V
 exact eA.mg b r cap O i aa
theorem bL.adt{A:Option Addr}{n c:Nat}(h:bL G r A n c){k:Nat}(U:k<n):∃b off,A=some ⟨b,off,none⟩/\pw G r b (off+k*r.size):=by
 rcases h with⟨_,rfl,_⟩|⟨b,o,cap,rfl,ab,O,V,_⟩
 ·omega
 ·exact⟨b,o*r.size,rfl,cap,o+k,ab,by rw[kA],by omega⟩
theorem kc(r:eT){A:Option Addr}{n c:Nat}{i:Int}{K:Value->Prop}(ar:bL G r A n c)(k:Nat)(hi:i=k)(U:k<n)(h:∀b off,pw G r b off->K (.pointer (some ⟨b,off,none⟩))):gn A n i r.size K:=by
 obtain⟨b,off,O,V⟩:=ar.adt U
 exact zh O k hi U (h _ _ V)
theorem rJ(h:pw G .int b off){t:TypeId}{K:Value->an->Prop}(U:∀n,K (J n) (cQ z G eo w0))(bs:t=3:=by rfl):bk Tryz.prog (cQ z G eo w0) (Instr.loadAt t (.pointer (some ⟨b,off,none⟩))) K:=by
 subst bs
 exact T1 (e8 3 _ W) rfl (fun w eA=>h.mg eA) U
theorem akD(h:pw G r b off)(j:Nat)(a9:∀f,k6 z G r f->∃n,f j=some (J n)){t:TypeId}{a:Addr}{K:Value->an->Prop}(U:∀n,K (J n) (cQ z G eo w0))(bs:t=3:=by rfl)(a8:a=⟨b,off+j,none⟩:=by rfl):bk Tryz.prog (cQ z G eo w0) (Instr.loadAt t (.pointer (some a))) K:=by
 subst bs a8
 exact T1 (e8 3 _ W) rfl (fun w eA=>a9 _ (h.mg eA)) U
theorem akE(h:pw G .ints b off){t:TypeId}{K:Value->an->Prop}(U:∀A n c,bL G .int A n c->K (.slice A n c) (cQ z G eo w0))(bs:t=23:=by rfl):bk Tryz.prog (cQ z G eo w0) (Instr.loadAt t (.pointer (some ⟨b,off,none⟩))) K:=by
 subst bs
 refine IU (e8 23 _ W) rfl (fun v=> ∃A n c,v= .slice A n c/\bL G .int A n c) (fun w au=>?_) (fun v ⟨A,n,c,ah,ar⟩=>ah▸U A n c ar)
 obtain⟨A,n,c,O,V⟩:=h.mg au.1
 exact⟨_,O,A,n,c,rfl,V⟩
theorem akG(h:pw G .content b off){t:TypeId}{a:Addr}{K:Value->an->Prop}(U:∀A n c,bL G .int A n c->K (.slice A n c) (cQ z G eo w0))(bs:t=23:=by rfl)(a8:a=⟨b,off+2,none⟩:=by rfl):bk Tryz.prog (cQ z G eo w0) (Instr.loadAt t (.pointer (some a))) K:=by
 subst bs a8
 refine IU (e8 23 _ W) rfl (fun v=> ∃A n c,v= .slice A n c/\bL G .int A n c) (fun w au=>?_) (fun v ⟨A,n,c,ah,ar⟩=>ah▸U A n c ar)
 obtain⟨k,A,n,c,aR,dT,aN,O,V,aa,ag,a6,_⟩:=h.mg au.1
 exact⟨_,aa,aR,dT,aN,rfl,a6⟩
theorem NF(h:pw G .content b off){t:TypeId}{K:Value->an->Prop}(U:∀k A n c aR dT aN,zT G k A n c aR dT aN->dT<=z.m->K (.agg #[J k,.slice A n c,.slice aR dT aN]) (cQ z G eo w0))(bs:t=117:=by rfl):bk Tryz.prog (cQ z G eo w0) (Instr.loadAt t (.pointer (some ⟨b,off,none⟩))) K:=by
 subst bs
 refine IT (e8 117 _ W) rfl (fun l=> ∃k A n c aR dT aN,l=[J k,.slice A n c,.slice aR dT aN]/\zT G k A n c aR dT aN/\dT<=z.m) (fun w au=>?_) (fun l ⟨k,A,n,c,aR,dT,aN,ai,aj,ad⟩=>ai▸U k A n c aR dT aN aj ad)
 obtain⟨k,A,n,c,aR,dT,aN,O,V,aa,ag,a6,bU,dh,cT⟩:=h.mg au.1
 refine⟨_,rfl,fun j v ah=>?_,k,A,n,c,aR,dT,aN,rfl,⟨ag,a6,bU,dh⟩,cT⟩
 match j,ah with
 |0,ah=>cases ah;exact O
 |1,ah=>cases ah;exact V
 |2,ah=>cases ah;exact aa
theorem WS(r:eT)(h:pw G r b off){t:TypeId}{v:Value}(bs:t=r.id){i:c5}(hi:e7 Tryz.prog r.id i)(rF:i.size=r.size)(af:iG z G r 1 v.cells.toList)(O:∀u∈v.cells.toList,u.oneCell'=true){K:an->Prop}(U:K (cQ z G eo w0)):eB Tryz.prog (cQ z G eo w0) (Instr.storeAt t (.pointer (some ⟨b,off,none⟩)) v) K:=by
 subst bs
 obtain⟨cap,k,ab,rfl,cc⟩:=h
 constructor
 intro w au
 obtain⟨cur,aj,ar⟩:=au.1.row b r cap ab
 have ai:=af.1
 rw[Nat.one_mul] at ai
 have CS:k*r.size+v.cells.toList.length<=cur.size:=by
  have:(k+1)*r.size<=cap*r.size:=pC _ S
  rw[kA] at this
  omega
 have gg:=run_storeCells_at Tryz.prog b (k*r.size) r.id v.cells.toList 0 cur w aj (by simpa using CS) O
 simp only[vp] at gg
 have ef:=au.1.Vo ab aj ar (o:=k) af S
 have ex:gU G w G (w.setRow b (cur.toList.take (k*r.size)++v.cells.toList++cur.toList.drop (k*r.size+v.cells.toList.length)).toArray):=⟨rfl,rfl,rfl,by simp,bY.le_refl _,fun _ _ h=> .inl h,fun q bd aB=>setRow_other w b q _ (fun e=>by rw[e,ab] at aB;cases aB)⟩
 obtain⟨bU,dh⟩:=Ay au ef ex
 have kG:v.cells.size=i.size:=by rw[rF];simpa using ai
 refine⟨_,_,?_,bU,dh,U⟩
 simp[Instr.storeAt,Instr.sureAddr,storeVar,hi.u0,kG,gg]
theorem Pj(h:pw G .int b off){t:TypeId}{x:Int}{K:an->Prop}(U:K (cQ z G eo w0))(bs:t=3:=by rfl):eB Tryz.prog (cQ z G eo w0) (Instr.storeAt t (.pointer (some ⟨b,off,none⟩)) (J x)) K:=
 WS .int h bs (e8 3 _ W) rfl (Lu z G [x]) (by simp[Value.cells,Value.oneCell']) U
theorem aqM(h:pw G .content b off){t:TypeId}{k:Int}{A aR:Option Addr}{n c dT aN:Nat}(aj:zT G k A n c aR dT aN)(ad:dT<=z.m){K:an->Prop}(U:K (cQ z G eo w0))(bs:t=117:=by rfl):eB Tryz.prog (cQ z G eo w0) (Instr.storeAt t (.pointer (some ⟨b,off,none⟩)) (.agg #[J k,.slice A n c,.slice aR dT aN])) K:=
 WS .content h bs (e8 117 _ W) rfl (iG.one rfl ⟨k,A,n,c,aR,dT,aN,rfl,rfl,rfl,aj.jk,aj.h7,aj.same,aj.le,ad⟩) (by simp[Value.cells,Value.oneCell']) U
end
abbrev GW(z:dk)(G:bY)(hn:Value->Prop):dk->bY->Value->Prop:=fun dt bG v=>dt=z/\bG=G/\hn v
abbrev tw(v:Value):Prop:=∃b,v= .bool b
abbrev i3(v:Value):Prop:=∃n,v= J n
theorem ay.same{Z:bF}{P:Program}{z:dk}{G eo:bY}{w0:World}{f:FuncId}(args:List Value){vs:Array Value}{K:Value->an->Prop}(af:oa P f)(hn:Value->Prop)(aj:∀w,er z G w->Calls P f args.toArray w (lb z G w (GW z G hn)))(h:∀v,hn v->K v (cQ z G eo w0))(ox:vs=args.toArray:=by rfl):ay P (cQ z G eo w0) f vs K Z:=
 ay.ku args af (GW z G hn) (fun w eA _=>aj w eA) (fun dt bG v _ ⟨O,V,aa⟩=>by subst O V;exact h v aa) ox
theorem ba.eq{a b:Int}{A B:Prop}(O:a=b->A)(V:a≠b->B):ba (a==b) A B:=by
 by_cases h:a=b
 ·subst h;simpa[ba] using O rfl
 ·have:(a==b)=false:=by simpa using h
  rw[this];exact V h
theorem ba.ne{a b:Int}{A B:Prop}(O:a≠b->A)(V:a=b->B):ba (a !=b) A B:=by
 by_cases h:a=b
 ·subst h
  have:(a !=a)=false:=by simp
  rw[this];exact V rfl
 ·have:(a !=b)=true:=by simpa using h
  rw[this];exact O h
theorem ba.not{b:Bool}{A B:Prop}(O:b=false->A)(V:b=true->B):ba (!b) A B:=by
 cases b with
 |true=>exact V rfl
 |false=>exact O rfl
def hF(w0:World):an where
 rn k:=k<w0.heap.size
 R w:=Below w0.heap.size w0 w
 lt w h k U:=lB U h.size
 wt w w' h ar b3 O V aa:=⟨O.trans h.os,V.trans h.tape,aa.trans h.output,jr h.size b3,fun k U=>(ar k U).trans (h.block k U)⟩
theorem hF.start(w:World):(hF w).R w:=Below.refl _ _
section
variable{P:Program}{w0:World}{z:dk}{G:bY}
theorem Ha{w w':World}{B:Nat}(h:Below B w w'){a:Addr}(a8:a.block<B):w'.cell? a=w.cell? a:=World.cell?_of_block (h.block _ a8)
theorem A3{t:TypeId}{i:c5}(hi:e7 P t i)(dX:i.d.agg=false){b off:Nat}{v:Value}(aj:w0.cell? ⟨b,off,none⟩=some v)(ab:b<w0.heap.size){K:Value->an->Prop}(h:K v (hF w0)){a:Addr}(a8:a=⟨b,off,none⟩:=by rfl):bk P (hF w0) (Instr.loadAt t (.pointer (some a))) K:=by
 subst a8
 exact IU hi dX (fun u=>u=v) (fun w au=>⟨v,(Ha au ab).trans aj,rfl⟩) (fun u aS=>aS▸h)
theorem akz{t:TypeId}{i:c5}(hi:e7 P t i)(dX:i.d.agg=true){b off:Nat}(l:List Value)(ai:l.length=i.size)(aj:∀j v,l[j]?=some v->w0.cell? ⟨b,off+j,none⟩=some v)(ab:b<w0.heap.size){K:Value->an->Prop}(h:K (.agg l.toArray) (hF w0)):bk P (hF w0) (Instr.loadAt t (.pointer (some ⟨b,off,none⟩))) K:=
 IT hi dX (fun u=>u=l) (fun w au=>⟨l,ai,fun j v ah=>(Ha au ab).trans (aj j v ah),rfl⟩) (fun u aS=>aS▸h)
def lC(w:World)(hn:Value->Prop)(e:Ending)(w':World):Prop:=∃v,e= .returned v/\Below w.heap.size w w'/\hn v
theorem ay.n2{Z:bF}{f:FuncId}(args:List Value){vs:Array Value}{K:Value->an->Prop}(af:oa P f)(hn:Value->Prop)(aj:∀w,Below w0.heap.size w0 w->Calls P f args.toArray w (lC w hn))(h:∀v,hn v->K v (hF w0))(ox:vs=args.toArray:=by rfl):ay P (hF w0) f vs K Z:=by
 constructor
 subst ox
 refine⟨af,fun w au=>(aj w au).mono fun e w' ⟨v,O,V,aa⟩=>?_⟩
 have au:Below w0.heap.size w0 w:=au
 exact .inl ⟨v,_,O,⟨V.size,fun k U _=>V.block k U,fun k U=> .inl U⟩,au.trans (V.mono au.size),h v aa⟩
theorem ay.ph{Z:bF}{eo:bY}{f:FuncId}(args:List Value){vs:Array Value}{K:Value->an->Prop}(af:oa P f)(hn:Value->Prop)(aj:∀w,er z G w->gU eo w0 G w->Calls P f args.toArray w (lC w hn))(h:∀v,hn v->K v (cQ z G eo w0))(ox:vs=args.toArray:=by rfl):ay P (cQ z G eo w0) f vs K Z:=
 ay.ku args af (fun dt bG v=>dt=z/\bG=G/\hn v) (fun w eA ex=>(aj w eA ex).mono fun e w' ⟨v,O,V,aa⟩=>⟨z,G,v,O,eA.below V,gU.FJ V,rfl,rfl,aa⟩) (fun dt bG v _ ⟨O,V,aa⟩=>by subst O V;exact h v aa) ox
def an.u2(C:an)(be:World):an where
 rn:=C.rn
 R w:=C.R w/\∀k,C.rn k->w.heap[k]?=be.heap[k]?
 lt w h k U:=C.lt w h.1 k U
 wt w w' h ar b3 O V aa:=⟨C.wt w w' h.1 ar b3 O V aa,fun k U=>(ar k U).trans (h.2 k U)⟩
theorem ay.Gr{Z:bF}{C:an}{be:World}{f:FuncId}{vs:Array Value}{K:Value->an->Prop}(h:ay P C f vs K Z):ay P (C.u2 be) f vs K Z:=by
 constructor;replace h:=h.out
 exact⟨h.1,fun w au=>(h.2 w au.1).mono fun e w' eb=>by
  rcases eb with⟨v,aG,O,V,aa,ag⟩|⟨v,aG,O,V,aa,ag⟩
  ·exact .inl ⟨v,aG,O,⟨V.size,V.block,V.new⟩,aa,ag⟩
  ·exact .inr ⟨v,aG,O,⟨V.size,V.block,V.new⟩,aa,ag⟩⟩
theorem bk.Gr{C:an}{be:World}{m:Sem Value}{K:Value->an->Prop}(h:bk P C m K):bk P (C.u2 be) m K:=by
 constructor;replace h:=h.out
 intro w au
 obtain⟨v,w',aG,O,V,aa,ag⟩:=h w au.1
 exact⟨v,w',aG,O,⟨V.size,V.block,V.new⟩,aa,ag⟩
end
theorem Tf(n:Int)(w:World):Calls Tryz.prog 226 #[J n] w (lC w tw):=by
 refine iy PZ W (hF w) (hF.start w) ?_
 conv=>whnf
 repeat'((first
  |(refine ay.n2 [_,_] BN.dg i3 (fun w _=>DN _ _ w) ?_;rintro v ⟨n,rfl⟩)
  |(refine ay.n2 [_] zR.dg i3 (fun w _=>BM _ w) ?_;rintro v ⟨n,rfl⟩)
  |refine ea ?_
  |(refine gs ?_ ?_<;>(try with_reducible intro ab))
  |with_reducible intro r)<;>(try conv=>whnf))
 all_goals first
  |exact⟨_,rfl,by assumption,_,rfl⟩
  |exact absurd ‹_› bC
theorem ake(n:Int)(w:World):Calls Tryz.prog 231 #[J n] w (lC w i3):=by
 refine iy X6 W (hF w) (hF.start w) ?_
 conv=>whnf
 repeat'((first
  |(refine ay.n2 [_,_] BN.dg i3 (fun w _=>DN _ _ w) ?_;rintro v ⟨n,rfl⟩)
  |(refine ay.n2 [_] zR.dg i3 (fun w _=>BM _ w) ?_;rintro v ⟨n,rfl⟩)
  |refine ea ?_
  |(refine gs ?_ ?_<;>(try with_reducible intro ab))
  |with_reducible intro r)<;>(try conv=>whnf))
 all_goals first
  |exact⟨_,rfl,by assumption,_,rfl⟩
  |exact absurd ‹_› bC
theorem BM(n:Int)(w:World):Calls Tryz.prog 236 #[J n] w (lC w i3):=by
 refine iy zR W (hF w) (hF.start w) ?_
 conv=>whnf
 repeat'((first
  |(refine ay.n2 [_,_] BN.dg i3 (fun w _=>DN _ _ w) ?_;rintro v ⟨n,rfl⟩)
  |(refine ay.n2 [_] zR.dg i3 (fun w _=>BM _ w) ?_;rintro v ⟨n,rfl⟩)
  |refine ea ?_
  |(refine gs ?_ ?_<;>(try with_reducible intro ab))
  |with_reducible intro r)<;>(try conv=>whnf))
 all_goals first
  |exact⟨_,rfl,by assumption,_,rfl⟩
  |exact absurd ‹_› bC
theorem ama(n:Int)(w:World):Calls Tryz.prog 232 #[J n] w (lC w i3):=by
 refine iy J8 W (hF w) (hF.start w) ?_
 conv=>whnf
 repeat'((first
  |(refine ay.n2 [_,_] BN.dg i3 (fun w _=>DN _ _ w) ?_;rintro v ⟨n,rfl⟩)
  |(refine ay.n2 [_] zR.dg i3 (fun w _=>BM _ w) ?_;rintro v ⟨n,rfl⟩)
  |refine ea ?_
  |(refine gs ?_ ?_<;>(try with_reducible intro ab))
  |with_reducible intro r)<;>(try conv=>whnf))
 all_goals first
  |exact⟨_,rfl,by assumption,_,rfl⟩
  |exact absurd ‹_› bC
theorem DN(a b:Int)(w:World):Calls Tryz.prog 289 #[J a,J b] w (lC w i3):=by
 refine iy BN W (hF w) (hF.start w) ?_
 conv=>whnf
 repeat'((first
  |(refine ay.n2 [_,_] BN.dg i3 (fun w _=>DN _ _ w) ?_;rintro v ⟨n,rfl⟩)
  |(refine ay.n2 [_] zR.dg i3 (fun w _=>BM _ w) ?_;rintro v ⟨n,rfl⟩)
  |refine ea ?_
  |(refine gs ?_ ?_<;>(try with_reducible intro ab))
  |with_reducible intro r)<;>(try conv=>whnf))
 all_goals first
  |exact⟨_,rfl,by assumption,_,rfl⟩
  |exact absurd ‹_› bC
theorem amF(op a b:Int)(w:World):Calls Tryz.prog 230 #[J op,J a,J b] w (lC w i3):=by
 refine iy X5 W (hF w) (hF.start w) ?_
 conv=>whnf
 repeat'((first
  |(refine ay.n2 [_,_] BN.dg i3 (fun w _=>DN _ _ w) ?_;rintro v ⟨n,rfl⟩)
  |(refine ay.n2 [_] zR.dg i3 (fun w _=>BM _ w) ?_;rintro v ⟨n,rfl⟩)
  |refine ea ?_
  |(refine gs ?_ ?_<;>(try with_reducible intro ab))
  |with_reducible intro r)<;>(try conv=>whnf))
 all_goals first
  |exact⟨_,rfl,by assumption,_,rfl⟩
  |exact absurd ‹_› bC
theorem qi(k:Nat)(h:k<=1000000000):IntKind.i64.wrap ((k:Int)+1)=((k+1:Nat):Int):=by rw[IntKind.wrap_i64];omega
structure fQ where
 task:Int
 bW:Option Addr
 np:Nat
 bI:Nat
 fn:Int
 aA:Int
 bK:Option Addr
 aM:Nat
 bD:Nat
 b4:Option Addr
 ns:Nat
 cs:Nat
 bq:Option Addr
 a5:Nat
 bZ:Nat
 many:Int
 aH:Int
 fail:Bool
def fQ.val(f:fQ):Value:= .agg #[J f.task,.slice f.bW f.np f.bI,J f.fn,J f.aA,.slice f.bK f.aM f.bD,.slice f.b4 f.ns f.cs,.slice f.bq f.a5 f.bZ,J f.many,J f.aH,.bool f.fail]
def fQ.zero:fQ:=⟨0,none,0,0,0,0,none,0,0,none,0,0,none,0,0,0,0,false⟩
structure fQ.gf(f:fQ)(G:bY):Prop where
 p:bL G .int f.bW f.np f.bI
 l:bL G .int f.bK f.aM f.bD
 s:bL G .int f.b4 f.ns f.cs
 k:bL G .ny f.bq f.a5 f.bZ
theorem fQ.gf.mono{f:fQ}{G bG:bY}(h:f.gf G)(ai:G.le bG):f.gf bG:=⟨h.p.mono ai,h.l.mono ai,h.s.mono ai,h.k.mono ai⟩
structure hx where
 bS:Option Addr
 aX:Nat
 bb:Nat
 fY:Option Addr
 bB:Nat
 dD:Nat
 maps:Int
 dj:Int
 cF:Int
 main:Int
def hx.val(c:hx):Value:= .agg #[.slice c.bS c.aX c.bb,.slice c.fY c.bB c.dD,J c.maps,J c.dj,J c.cF,J c.main]
structure iE where
 args:Int
 locals:Int
 A:Option Addr
 n:Nat
 c:Nat
def iE.val(b:iE):Value:= .agg #[J b.args,J b.locals,.slice b.A b.n b.c]
def iE.k8(b:iE)(G:bY)(w:World):Prop:=∀j,j<b.n->∃g o,b.A=some ⟨g,o,none⟩/\g<w.heap.size/\G g=none/\∃x0 x1 fL bT,∀i v,[J x0,J x1,J fL,J bT][i]?=some v->w.cell? ⟨g,o+j*4+i,none⟩=some v
structure hx.k8(c:hx)(B:Nat->iE)(G:bY)(w:World):Prop where
 f:∀k,k<c.aX->∃g o,c.bS=some ⟨g,o,none⟩/\g<w.heap.size/\G g=none/\∀i v,[J (B k).args,J (B k).locals,.slice (B k).A (B k).n (B k).c][i]?=some v->w.cell? ⟨g,o+k*3+i,none⟩=some v
 b:∀k,k<c.aX->(B k).k8 G w
 c:∀j,j<c.bB->∃g o x,c.fY=some ⟨g,o,none⟩/\g<w.heap.size/\G g=none/\w.cell? ⟨g,o+j,none⟩=some (J x)
theorem iE.k8.ex{b:iE}{G bG:bY}{w w':World}(h:b.k8 G w)(e:gU G w bG w'):b.k8 bG w':=fun j a9=>by
 obtain⟨g,o,O,V,aa,x0,x1,fL,bT,ag⟩:=h j a9
 exact⟨g,o,O,lB V e.size,e.none V aa,x0,x1,fL,bT,fun i v ah=>(e.cell V aa).trans (ag i v ah)⟩
theorem hx.k8.ex{c:hx}{B:Nat->iE}{G bG:bY}{w w':World}(h:c.k8 B G w)(e:gU G w bG w'):c.k8 B bG w':=by
 refine⟨fun k U=>?_,fun k U=>(h.b k U).ex e,fun j a9=>?_⟩
 ·obtain⟨g,o,O,V,aa,ag⟩:=h.f k U
  exact⟨g,o,O,lB V e.size,e.none V aa,fun i v ah=>(e.cell V aa).trans (ag i v ah)⟩
 ·obtain⟨g,o,x,O,V,aa,ag⟩:=h.c j a9
  exact⟨g,o,x,O,lB V e.size,e.none V aa,(e.cell V aa).trans ag⟩
theorem hx.k8.below{c:hx}{B:Nat->iE}{G:bY}{w w':World}(h:c.k8 B G w)(e:Below w.heap.size w w'):c.k8 B G w':=h.ex (gU.FJ e)
def hx.many(c:hx)(a:Int):Int:=if a=1\/a=2\/a=3 then c.maps else if a=4\/a=5 then c.dj else if a=6\/a=7 then c.cF else 0
def oJ(w:World)(A:Option Addr)(n:Nat)(x:Int):Prop:=∃i g o,i<n/\A=some ⟨g,o,none⟩/\w.cell? ⟨g,o+i*2+1,none⟩=some (J x)
theorem QT(z:dk)(G:bY)(w:World)(eA:er z G w)(f:fQ)(U:bL G .ny f.bq f.a5 f.bZ)(aB:f.a5<=1000000)(x:Int):
  Calls Tryz.prog 228 #[f.val,J x] w (lC w fun v=> ∃b,v= .bool b/\(b=true↔oJ w f.bq f.a5 x)):=by
 refine iy P0 W (hF w) (hF.start w) ?_
 conv=>whnf
 refine c9.on (X:=Nat) (fun k=> [(1,.v (J x)),(2,.p 2 0),(5,.v (J k))]) (fun _=> [(2,108,[J f.task,.slice f.bW f.np f.bI,J f.fn,J f.aA,.slice f.bK f.aM f.bD,.slice f.b4 f.ns f.cs,.slice f.bq f.a5 f.bZ,J f.many,J f.aH,.bool f.fail])]) (fun _=>hF w) (fun k=>k<=f.a5/\∀i g o,i<k->f.bq=some ⟨g,o,none⟩->w.cell? ⟨g,o+i*2+1,none⟩≠some (J x)) (fun k=>f.a5-k) 0 ⟨cY _,fun i _ _ h=>by omega⟩ ⟨rfl,rfl,rfl,trivial⟩ ⟨rfl,trivial⟩ ?_
 intro k r ⟨ou,lk⟩
 conv=>whnf
 refine ba.dec (fun aj=>?_) (fun aj=>?_)
 ·have cc:k<f.a5:=by omega
  obtain⟨b,off,b0,yX,_,a,d,aT,O⟩:=U.at_ eA cc
  simp only[eT.size] at aT O
  conv=>whnf
  refine zh b0 k rfl cc ?_
  conv=>whnf
  refine A3 (e8 3 _ W) rfl O yX ?_
  conv=>whnf
  refine ba.eq (fun af=>?_) (fun af=>?_)
  ·conv=>whnf
   intro w' bj
   exact⟨_,rfl,bj,true,rfl,fun _=>⟨k,b,off,cc,b0,by rw[af] at O;exact O⟩,fun _=>rfl⟩
  ·conv=>whnf
   refine cC (k+1) S ⟨by omega,fun i g o hi aZ im=>?_⟩ ⟨rfl,rfl,by show _=_;rw[<-qi k S];rfl,trivial⟩ ⟨rfl,trivial⟩
   by_cases e:i=k
   ·subst e
    rw[b0] at aZ
    injection aZ with aZ
    injection aZ with rz kF
    subst rz kF
    rw[O] at im
    injection im with im
    injection im with _ im
    exact af im
   ·exact lk i g o S aZ im
 ·have rB:k=f.a5:=by omega
  conv=>whnf
  intro w' bj
  refine⟨_,rfl,bj,false,rfl,Iff.intro (fun h=>?_) (fun h=>?_)⟩
  ·cases h
  ·obtain⟨i,g,o,O,V,aa⟩:=h
   exact absurd aa (lk i g o S V)
theorem amM(z:dk)(G:bY)(w:World)(eA:er z G w)(f:fQ)(ar:bL G .int f.b4 f.ns f.cs)(sX:Nat)(bs:sX<=f.ns)(A:Option Addr)(n c:Nat)(ai:bL G .int A n c)(ab:f.ns+n<=1000000):
  Calls Tryz.prog 229 #[f.val,J sX,.slice A n c] w
   (lb z G w fun dt bG v=>dt=z/\∃aR aN,v=fQ.val {f with aA:=IntKind.i64.wrap (f.aA+1),b4:=aR,ns:=f.ns-sX+n,cs:=aN,aH:=IntKind.i64.wrap (f.aH+1)}/\bL bG .int aR (f.ns-sX+n) aN):=by
 refine iy X4 W (cQ z G G w) (cQ.start eA) ?_
 conv=>whnf
 refine td .int ?_
 intro fw br gb s1
 conv=>whnf
 refine acN .int (ar.mono gb) (f.ns-sX) (by rw[IntKind.wrap_i64];omega) (by have:=ar.kl;omega) ?_
 intro bf aV
 conv=>whnf
 refine g3 .int s1 aV (f.ns-sX) S S ?_
 intro j5 da c7 dN bu
 conv=>whnf
 refine g3 .int bu ((ai.mono gb).mono dN) (f.ns-sX+n) S S ?_
 intro iI eJ fa dA cw
 conv=>whnf
 intro w' bj
 exact⟨z,iI,_,rfl,bj.1,bj.2,rfl,eJ,fa,rfl,cw⟩
theorem acj(z:dk)(G:bY)(w:World)(eA:er z G w)(f:fQ)(bh:bL G .int f.bW f.np f.bI)(ab:f.np<=1000000):
  Calls Tryz.prog 156 #[f.val] w (lb z G w fun dt bG v=>dt=z/\∃aR aN,v= .slice aR (f.np+1) aN/\bL bG .int aR (f.np+1) aN):=by
 refine iy X1 W (cQ z G G w) (cQ.start eA) ?_
 conv=>whnf
 try(refine eS.go ?_;conv=>whnf)
 refine⟨?_,?_⟩
 ·refine td .int ?_
  intro fw br gb s1
  conv=>whnf
  try(refine eS.go ?_;conv=>whnf)
  refine⟨?_,?_⟩
  ·refine g3 .int s1 (bh.mono gb) f.np S S ?_
   intro gV bf bA dd aV
   conv=>whnf
   refine oh [f.many] (by simp) ?_
   intro j5 da dN bu
   conv=>whnf
   refine g3 .int (aV.mono dN) bu (f.np+1) S S ?_
   intro iI eJ fa dA cw
   conv=>whnf
   intro w' bj
   exact⟨z,iI,_,rfl,bj.1,bj.2,rfl,eJ,fa,rfl,cw⟩
  ·conv=>whnf
   refine oh [f.many] (by simp) ?_
   intro j5 da dN bu
   conv=>whnf
   refine g3 .int (s1.mono dN) ((bh.mono gb).mono dN) f.np S S ?_
   intro gV bf bA dd aV
   conv=>whnf
   refine g3 .int aV (bu.mono dd) (f.np+1) S S ?_
   intro iI eJ fa dA cw
   conv=>whnf
   intro w' bj
   exact⟨z,iI,_,rfl,bj.1,bj.2,rfl,eJ,fa,rfl,cw⟩
 ·conv=>whnf
  refine oh [f.many] (by simp) ?_
  intro fw br gb s1
  conv=>whnf
  refine td .int ?_
  intro gV bf dd aV
  conv=>whnf
  refine g3 .int aV ((bh.mono gb).mono dd) f.np S S ?_
  intro j5 da c7 dN bu
  conv=>whnf
  refine g3 .int bu ((s1.mono dd).mono dN) (f.np+1) S S ?_
  intro iI eJ fa dA cw
  conv=>whnf
  intro w' bj
  exact⟨z,iI,_,rfl,bj.1,bj.2,rfl,eJ,fa,rfl,cw⟩
theorem asA(k o a b val:Int)(GB:Bool)(w:World):Calls Tryz.prog 155 #[.agg #[J k,J o,J a,J b],J val,.bool GB] w (lC w i3):=by
 refine iy X0 W (hF w) (hF.start w) ?_
 conv=>whnf
 repeat'(first
  |(refine eS.go ?_;conv=>whnf)
  |(refine ba.dec (fun h=>?_) (fun h=>?_)<;>conv=>whnf)
  |(refine ba.eq (fun h=>?_) (fun h=>?_)<;>conv=>whnf)
  |(refine ba.not (fun h=>?_) (fun h=>?_)<;>conv=>whnf)
  |(refine ay.n2 [J _] zR.dg i3 (fun w _=>BM _ w) ?_;rintro v ⟨n,rfl⟩;conv=>whnf))
 all_goals
  intro w' bj
  exact⟨_,rfl,bj,_,rfl⟩
theorem ab3(c:hx)(agL It M6 ag7:Int)(w:World):Calls Tryz.prog 288 #[c.val,.agg #[J agL,J It,J M6,J ag7]] w (lC w fun v=> ∃n,v= J n/\(n= -1\/(0<=n/\n<=2/\1<=It/\It<=7/\0<=M6/\M6<c.many It))):=by
 refine iy X7 W (hF w) (hF.start w) ?_
 conv=>whnf
 repeat'(first
  |(refine eS.go ?_;conv=>whnf)
  |(refine ba.dec (fun h=>?_) (fun h=>?_)<;>first|(exfalso;omega)|conv=>whnf)
  |(refine ba.eq (fun h=>?_) (fun h=>?_)<;>first|(exfalso;omega)|conv=>whnf)
  |(refine ba.ne (fun h=>?_) (fun h=>?_)<;>first|(exfalso;omega)|conv=>whnf)
  |(refine ba.not (fun h=>?_) (fun h=>?_)<;>conv=>whnf))
 all_goals
  intro w' bj
  first
   |exact⟨_,rfl,bj,_,rfl,.inl rfl⟩
   |exact⟨_,rfl,bj,_,rfl,.inr ⟨by omega,by omega,by omega,by omega,by omega,by unfold hx.many;(repeat' split)<;>omega⟩⟩
structure nn(w:World)(c:hx)(B:Nat->iE)(f:fQ)(ins:Nat)(op a b d n:Int):Prop where
 pos:0<=n
 iY:op=1->n=0
 hV:op=2->n=0/\0<=a/\a<f.aM
 oy:op=3->0<=a/\a<f.aM/\(oJ w f.bq f.a5 a/\n=0\/¬oJ w f.bq f.a5 a/\n=1)
 nY:op=4->n=0/\0<=a/\a<c.bB
 rI:op=5->n=1/\0<=a/\a<c.bB
 oz:op=6\/op=7\/op=8\/op=9\/op=10\/op=19->n=2
 Nn:op=11->n<=2/\1<=a/\a<=7/\0<=b/\b<c.many a
 ID:op=12\/op=18->n=1
 No:op=13->0<=a/\a<c.aX/\ -1<=d/\d<f.aM/\n=b/\b=(B a.toNat).args
 Np:op=14->n=0
 Nr:op=15->n=0/\0<=a/\a<ins
 Ns:op=16->n=1/\0<=a/\a<ins
 Nu:op=17->(0<f.a5/\n=0\/f.a5=0/\n=1)
 all:1<=op/\op<=19
theorem oJ.below{G:bY}{w w':World}{z:dk}(eA:er z G w){A:Option Addr}{n c:Nat}(U:bL G .ny A n c)(h:Below w.heap.size w w')(x:Int):oJ w' A n x↔oJ w A n x:=by
 have key:∀i g o,i<n->A=some ⟨g,o,none⟩->w'.cell? ⟨g,o+i*2+1,none⟩=w.cell? ⟨g,o+i*2+1,none⟩:=fun i g o hi b0=>by
  obtain⟨b,off,fE,ab,_⟩:=U.at_ eA hi
  rw[b0] at fE
  injection fE with fE
  injection fE with O V
  subst O
  exact Ha h ab
 constructor
 ·rintro⟨i,g,o,O,V,aa⟩;exact⟨i,g,o,O,V,(key i g o O V).symm.trans aa⟩
 ·rintro⟨i,g,o,O,V,aa⟩;exact⟨i,g,o,O,V,(key i g o O V).trans aa⟩
section
variable{w:World}{c:hx}{B:Nat->iE}{f:fQ}{ins:Nat}{op a b d:Int}
theorem arB(h:op=1):nn w c B f ins op a b d 0:=by subst h;constructor<;>omega
theorem va(h:op=2)(aT:0<=a)(O:a<f.aM)(n:Int)(aB:n=0):nn w c B f ins op a b d n:=by subst h aB;constructor<;>omega
theorem arK(h:op=3)(aT:0<=a)(O:a<f.aM)(a8:oJ w f.bq f.a5 a):nn w c B f ins op a b d 0:=by
 subst h;constructor<;>first|omega|exact fun _=>⟨aT,O,.inl ⟨a8,rfl⟩⟩
theorem arL(h:op=3)(aT:0<=a)(O:a<f.aM)(a8:¬oJ w f.bq f.a5 a)(n:Int)(aB:n=1):nn w c B f ins op a b d n:=by
 subst h aB;constructor<;>first|omega|exact fun _=>⟨aT,O,.inr ⟨a8,rfl⟩⟩
theorem arM(h:op=4)(aT:0<=a)(O:a<c.bB)(n:Int)(aB:n=0):nn w c B f ins op a b d n:=by subst h aB;constructor<;>omega
theorem arN(h:op=5)(aT:0<=a)(O:a<c.bB)(n:Int)(aB:n=1):nn w c B f ins op a b d n:=by subst h aB;constructor<;>omega
theorem arO(h:op=6\/op=7\/op=8\/op=9\/op=10\/op=19):nn w c B f ins op a b d 2:=by constructor<;>omega
theorem arC(h:op=11)(n:Int)(aB:0<=n/\n<=2/\1<=a/\a<=7/\0<=b/\b<c.many a):nn w c B f ins op a b d n:=by subst h;constructor<;>omega
theorem arD(h:op=12\/op=18):nn w c B f ins op a b d 1:=by constructor<;>omega
theorem arE(h:op=13)(aT:0<=a)(O:a<c.aX)(V: -1<=d)(aa:d<f.aM)(ag:b=(B a.toNat).args)(ab:0<=b):nn w c B f ins op a b d b:=by subst h;constructor<;>omega
theorem arF(h:op=14):nn w c B f ins op a b d 0:=by subst h;constructor<;>omega
theorem arG(h:op=15)(aT:0<=a)(O:a<ins)(n:Int)(aB:n=0):nn w c B f ins op a b d n:=by subst h aB;constructor<;>omega
theorem arH(h:op=16)(aT:0<=a)(O:a<ins)(n:Int)(aB:n=1):nn w c B f ins op a b d n:=by subst h aB;constructor<;>omega
theorem arI(h:op=17)(aT:0<f.a5):nn w c B f ins op a b d 0:=by subst h;constructor<;>omega
theorem arJ(h:op=17)(aT:f.a5=0):nn w c B f ins op a b d 1:=by subst h;constructor<;>omega
end
theorem vc{a:Int}{n:Nat}(aT:¬a<0)(O:¬a>=n):a.toNat<n:=by omega
theorem vb{a:Int}(aT:¬a<0):a=(a.toNat:Int):=by omega
theorem Iw{c:hx}{B:Nat->iE}{G:bY}{w:World}(aj:c.k8 B G w){i:Int}{k:Nat}(U:k<c.aX)(hi:i=k){K:Value->Prop}(h:∀g o,g<w.heap.size->G g=none->(∀j v,[J (B k).args,J (B k).locals,.slice (B k).A (B k).n (B k).c][j]?=some v->w.cell? ⟨g,o+j,none⟩=some v)->K (.pointer (some ⟨g,o,none⟩))):gn c.bS c.aX i 3 K:=by
 obtain⟨g,o,O,V,aa,ag⟩:=aj.f k U
 exact zh O k hi U (h g (o+k*3) V aa ag)
theorem DU(op k:Int)(h:op=k\/op=k+1)(U:0<=k/\k<=100):IntKind.i64.wrap (op-k)=op-k:=by rw[IntKind.wrap_i64];omega
theorem arX(z:dk)(G:bY)(w:World)(eA:er z G w)(c:hx)(B:Nat->iE)(aj:c.k8 B G w)(f:fQ)(U:bL G .ny f.bq f.a5 f.bZ)(aB:f.a5<=1000000)(Sh:0<=f.fn)(qA:f.fn<c.aX)(op a b d:Int):
  Calls Tryz.prog 227 #[c.val,f.val,.agg #[J op,J a,J b,J d]] w (lC w fun v=> ∃n,v= J n/\(n<0\/nn w c B f (B f.fn.toNat).n op a b d n)):=by
 obtain⟨g,o,O,V,aa,ag⟩:=aj.f f.fn.toNat S
 refine iy X3 W (hF w) (hF.start w) ?_
 conv=>whnf
 refine zh O f.fn.toNat S S ?_
 conv=>whnf
 refine A3 (e8 61 _ W) rfl (ag 2 _ rfl) V ?_
 conv=>whnf
 repeat'(first
  |(refine eS.go ?_;conv=>whnf)
  |(refine ba.dec (fun h=>?_) (fun h=>?_)<;>first|(exfalso;omega)|conv=>whnf)
  |(refine ba.eq (fun h=>?_) (fun h=>?_)<;>first|(exfalso;omega)|conv=>whnf)
  |(refine ba.ne (fun h=>?_) (fun h=>?_)<;>first|(exfalso;omega)|conv=>whnf)
  |(refine ay.n2 [J _] PZ.dg tw (fun w _=>Tf _ w) ?_;rintro v ⟨n,rfl⟩;conv=>whnf)
  |(refine ay.n2 [c.val,.agg #[J op,J a,J b,J d]] X7.dg (fun v=> ∃n,v= J n/\(n= -1\/(0<=n/\n<=2/\1<=a/\a<=7/\0<=b/\b<c.many a))) (fun w' _=>ab3 c op a b d w') ?_
    rintro v ⟨n,rfl,aB⟩
    conv=>whnf)
  |(refine ay.n2 [f.val,J a] P0.dg (fun v=> ∃b,v= .bool b/\(b=true↔oJ w f.bq f.a5 a)) (fun w' bj=>(QT z G w' (eA.below bj) f U aB a).mono fun e axJ ⟨v,O,V,b,aa,ag⟩=>⟨v,O,V,b,aa,ag.trans (oJ.below eA U bj a)⟩) ?_
    rintro v ⟨cu,rfl,dQ⟩
    conv=>whnf)
  |(refine ba.not (fun h=>?_) (fun h=>?_)<;>conv=>whnf)
  |(refine ba.intro (fun h=>?_) (fun h=>?_)<;>conv=>whnf)
  |(intro w' bj;refine⟨_,rfl,bj,_,rfl,?_⟩))
 all_goals try(exact .inl bC)
 all_goals try exact .inr (arB av)
 all_goals try exact .inr (arF av)
 all_goals try exact .inr (arO S)
 all_goals try exact .inr (arD S)
 all_goals try exact .inr (arI av S)
 all_goals try exact .inr (arJ av S)
 all_goals try exact .inr (arK av S S (dQ.1 h))
 all_goals try exact .inr (va av S S _ rfl)
 all_goals try exact .inr (va av S S _ (by rw[DU op 2 S S];omega))
 all_goals try exact .inr (arL av S S (fun b0=>absurd (dQ.2 b0) (by simp[h])) _ (by rw[DU op 2 S S];omega))
 all_goals try exact .inr (arM av S S _ (by rw[DU op 4 S S];omega))
 all_goals try exact .inr (arN av S S _ (by rw[DU op 4 S S];omega))
 all_goals try exact .inr (arG av S S _ (by rw[DU op 15 S S];omega))
 all_goals try exact .inr (arH av S S _ (by rw[DU op 15 S S];omega))
 all_goals try exact aB.elim (fun aB=> .inl S) (fun aB=> .inr (arC av _ aB))
 have a8:a.toNat<c.aX:=vc av av
 refine Iw aj a8 (vb av) ?_
 intro bH fX AB E2 yV
 conv=>whnf
 refine A3 (e8 3 _ W) rfl (yV 0 _ rfl) AB ?_
 conv=>whnf
 refine ba.ne (fun h=>?_) (fun h=>?_)
 ·conv=>whnf
  intro w' bj
  exact⟨_,rfl,bj,_,rfl,.inl bC⟩
 ·conv=>whnf
  intro w' bj
  refine⟨_,rfl,bj,_,rfl,?_⟩
  by_cases ab:b<0
  ·exact .inl ab
  ·exact .inr (arE av S S S S h S)
end Go.Proofs.YtcflcebplhdcpaaGreat
