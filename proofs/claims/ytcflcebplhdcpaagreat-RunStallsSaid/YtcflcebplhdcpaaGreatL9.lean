/- Lemmas, part 9; each states its own conditions. -/
import Derived.Laws.MakeOwn
import Derived.Laws.CopyRow
import Derived.Below
import Derived.Test.YtcflcebplhdcpaaGreatL6
import Derived.Test.YtcflcebplhdcpaaGreatL7
namespace Go.Proofs.YtcflcebplhdcpaaGreat
open Go.RowKit
set_option linter.unusedSimpArgs false
set_option linter.unusedVariables false
set_option maxRecDepth 100000
set_option maxHeartbeats 16000000
inductive h8:aw->Nat->Value->aY->Prop where
 |here {M v d}:h8 ((v,d)::M) 0 v d
 |there {M i v d x}:h8 M i v d->h8 (x::M) (i+1) v d
def DF:aw->Nat->Value×aY->aw
 |[],_,_=> []
 |_::M,0,x=>x::M
 |y::M,i+1,x=>y::DF M i x
def qc:aw->Nat->Value×aY->(aw->Prop)->Prop
 |[],_,_,K=>K []
 |_::M,0,x,K=>K (x::M)
 |y::M,i+1,x,K=>qc M i x fun aE=>K (y::aE)
theorem wq:∀(M:aw) (i:Nat) (x:Value×aY) (K:aw->Prop),qc M i x K=K (DF M i x)
 |[],_,_,_=>rfl
 |_::M,0,x,K=>rfl
 |y::M,i+1,x,K=>wq M i x _
theorem h8.fm{M:aw}{i:Nat}{v:Value}{d:aY}(h:h8 M i v d)(dw:Value)(d':aY):uk v d dw d' M (DF M i (dw,d')):=by
 induction h with
 |here=>exact .here
 |there _ cy=>exact .there cy
theorem h8.mem{M:aw}{i:Nat}{v:Value}{d:aY}(h:h8 M i v d):(v,d)∈M:=(h.fm v d).mem
structure iF(P:Program)(t e:TypeId)(sz:Nat)(dG:List Value):Prop where
 eN:P.underlying t=some (.slice e)
 size:(P.info? e).map (·.size)=some sz
 zero:∃z,(P.info? e).bind (·.zero)=some z/\z.cells=dG.toArray
 bytes:((P.info? e).map fun i=>Nat.ble i.bytes 4096)=some true
 len:dG.length=sz
 pos:0<sz
 one:wU dG=true
theorem iF.parts{P:Program}{t e:TypeId}{sz:Nat}{dG:List Value}(h:iF P t e sz dG):∃i z,P.info? e=some i/\i.zero=some z/\i.size=sz/\i.bytes<=4096/\z.cells=dG.toArray:=by
 have O:=h.size
 obtain⟨z,V,aa⟩:=h.zero
 have ag:=h.bytes
 cases hi:P.info? e with
 |none=>rw[hi] at O;cases O
 |some i=>
  rw[hi] at O V ag
  simp only[sb,pD] at O ag
  simp only[Eo] at V
  exact⟨i,z,rfl,V,O,nm ag,aa⟩
section
variable{P:Program}{w w':World}
theorem ao3{A:Option Addr}{e:TypeId}{sz n cap:Nat}{l:List Value}(h:aY.ok (.row e sz l) (.slice A n cap) w)(aj:¬cap=0):w.ownsRow 0 e sz (.slice A n cap) n l:=by
 obtain⟨aR,dT,fD,af,O,V,aa,ag⟩:=h
 injection af with vR xn su
 subst vR xn su
 rcases ag with ag|⟨b,rfl,a6,cur,bU,dh,cT⟩
 ·exact absurd ag aj
 ·exact⟨O,.inr ⟨b,cap,cur,rfl,cY _,bU,V,aa,dh,cT⟩⟩
theorem amB{v:Value}{e:TypeId}{sz n:Nat}{l:List Value}(h:w.ownsRow 0 e sz v n l):∃A cap,v= .slice A n cap/\n<=cap/\cap<=maxLen/\(0<cap->∃b,A=some ⟨b,0,none⟩)/\aY.ok (.row e sz l) (.slice A n cap) w:=by
 rcases h.2 with⟨rfl,rfl⟩|⟨g,cap,cur,rfl,_,O,V,aa,ag,a6⟩
 ·exact⟨none,0,rfl,Nat.le_refl _,cY _,fun h=>absurd h S,none,0,0,rfl,h.1,Nat.le_refl _,cY _,.inl rfl⟩
 ·refine⟨_,cap,rfl,V,aa,fun _=>⟨g,rfl⟩,_,n,cap,rfl,h.1,V,aa,?_⟩
  by_cases aj:cap=0
  ·exact .inl aj
  ·exact .inr ⟨g,rfl,by omega,cur,O,ag,a6⟩
theorem KS{A:Option Addr}{n cap:Nat}{b:Nat}(h:fH (.slice A n cap)=some b):(Value.slice A n cap).ownBlock=some b:=by
 cases A with
 |none=>simp[fH] at h
 |some a=>
  simp only[fH] at h
  split at h
  ·cases h
  ·exact h
theorem UY{A:Option Addr}{n cap:Nat}(aj:¬cap=0):fH (.slice A n cap)=(Value.slice A n cap).ownBlock:=by
 cases A with
 |none=>rfl
 |some a=>simp[fH,Value.ownBlock,aj]
theorem OX{t n7 ty e:TypeId}{sz:Nat}{dG:List Value}(a2:iF P t e sz dG){A:Option Addr}{n cap:Nat}{l:List Value}(aP:aY.ok (.row e sz l) (.slice A n cap) w){x:Value}{m:Nat}{news:List Value}(ar:Src P sz n7 x m news w)(U:n+m<=1000000000):
  ∃aR fD w',(Builtin.append_ #[t,n7] ty #[.slice A n cap,x]).run P w= .ok (.slice aR (n+m) fD) w'/\aY.ok (.row e sz (l++news)) (.slice aR (n+m) fD) w'/\n+m<=fD/\(0<fD->∃b,aR=some ⟨b,0,none⟩\/fD=0)/\
   w'.os=w.os/\w'.tape=w.tape/\w'.output=w.output/\w.heap.size<=w'.heap.size/\(∀k,k<w.heap.size->fH (.slice A n cap)≠some k->w'.heap[k]?=w.heap[k]?)/\(∀b,fH (.slice aR (n+m) fD)=some b->fH (.slice A n cap)=some b\/w.heap.size<=b):=by
 obtain⟨i,z,hi,b3,nw,xj,uP⟩:=a2.parts
 have tu:z.cells.size=sz:=by rw[uP];simpa using a2.len
 have Sa:(n+m)*i.bytes<=140737488355328:=by
  have:=Nat.mul_le_mul U xj
  omega
 by_cases aj:cap=0
 ·have ai:l=[]/\n=0:=by
   obtain⟨aR,dT,fD,af,O,V,_⟩:=aP
   injection af with _ xn su
   subst xn su
   have:n=0:=by omega
   subst this
   exact⟨q8 (by simpa using O),rfl⟩
  obtain⟨rfl,rfl⟩:=ai
  subst aj
  by_cases ad:m=0
  ·subst ad
   have MI:news=[]:=q8 (by simpa using ar.newsLen)
   subst MI
   refine⟨A,0,w,?_,⟨A,0,0,rfl,by simp,Nat.le_refl _,cY _,.inl rfl⟩,Nat.le_refl _,fun h=>absurd h S,rfl,rfl,rfl,Nat.le_refl _,fun _ _ _=>rfl,fun b h=> .inl h⟩
   cases A with
   |none=>rcases ar.kind with⟨hJ,ov⟩|ov<;>simp[Builtin.append_,run_underlying a2.eN,run_underlying ov,sizeOf,typeInfo,hi,ar.len,ar.cells,nw]
   |some a=>rcases ar.kind with⟨hJ,ov⟩|ov<;>simp[Builtin.append_,run_underlying a2.eN,run_underlying ov,sizeOf,typeInfo,hi,ar.len,ar.cells,nw,storeCells]
  ·have hold:(Builtin.firstCells i.size 0 (.slice A 0 0)).run P w.drew= .ok (([]:List Value)).toArray w.drew:=by
    cases A with
    |none=>exact run_firstCells_none w.drew _ _ _ _
    |some a=>exact run_firstCells_some w.drew i.size 0 a 0 0 [] (by simp) (by simp)
   have agi:=run_append_grow_src (P:=P) w t n7 ty e i z a2.eN hi b3 A 0 0 [] hold x m news (by rw[nw];exact ar) S S (growslice_fits S Sa)
   have Sl:=grownCap_ge w (0+m) 0 e
   refine⟨_,_,_,agi,⟨_,_,_,rfl,?_,Sl,grownCap_le_maxLen _ _ _ _ (by simp only[maxLen];omega),.inr ⟨w.heap.size,rfl,by omega,_,heap_alloc_new w.drew _,?_,?_⟩⟩,Sl,fun _=>⟨_,.inl rfl⟩,rfl,rfl,rfl,by simp,fun k ir _=>Below.heap_alloc w.drew _ k ir,fun b ab=>?_⟩
   ·simp[ar.newsLen]
   ·rw[Array.size_append,List.size_toArray,size_zeroCells,tu,Eh,ar.newsLen,<-kA]
    congr 1
    omega
   ·have hlen:([]++news).length=(0+m)*sz:=by simp[ar.newsLen]
    rw[Array.toList_append,<-hlen]
    exact List.take_left
   ·have:=KS ab
    simp only[Value.ownBlock,pD] at this
    right;omega
 ·have AT:=ao3 aP aj
  obtain⟨dw,w',fI,V,aa,ag⟩:=apg (P:=P) w 0 t n7 ty e i z sz i.bytes a2.eN hi b3 nw rfl tu a2.pos _ n l AT x m news ar (by simp only[maxLen];omega) Sa (cY _)
  obtain⟨aR,fD,rfl,a6,bU,dh,cT⟩:=amB V
  refine⟨aR,fD,w',fI,cT,a6,fun h=>by obtain⟨b,ab⟩:=dh h;exact⟨b,.inl ab⟩,aa.os,aa.tape,aa.output,aa.size,fun k ir ab=>aa.block k ir fun e=>ab (by rw[UY aj];exact e.symm),fun b ab=>?_⟩
  have dQ:=KS ab
  rcases ag with ag|ag
  ·left;rw[UY aj,<-ag];exact dQ
  ·right
   rw[ag] at dQ
   simp only[vp,pD] at dQ
   omega
end
section
variable{P:Program}{H w0:World}{X:Nat->Prop}{M aE:aw}
theorem dJ.cs{w:World}(h:dJ H w0 X M w){b:Nat}{t0:TypeId}{l:List Value}(ad:(ae b,aY.cs t0 l)∈M):iT w b t0 l.toArray:=by
 obtain⟨cu,af,ab⟩:=h.new _ ad
 injection af with af
 injection af with af
 injection af with af
 subst af
 exact ab
theorem dJ.row{w:World}(h:dJ H w0 X M w){b:Nat}{t0:TypeId}{sz n cap:Nat}{l:List Value}(ad:(Value.slice (some ⟨b,0,none⟩) n cap,aY.row t0 sz l)∈M):l.length=n*sz/\n<=cap/\cap<=maxLen/\(0<cap->∃cur:Array Value,iT w b t0 cur/\cur.size=cap*sz/\cur.toList.take (n*sz)=l):=by
 obtain⟨A,dT,fD,af,O,V,aa,ag⟩:=h.new _ ad
 injection af with vR xn su
 subst vR xn su
 refine⟨O,V,aa,fun aj=>?_⟩
 rcases ag with ag|⟨cu,af,_,cur,a6,bU,dh⟩
 ·omega
 ·injection af with af
  injection af with af
  subst af
  exact⟨cur,a6,bU,dh⟩
theorem dJ.rowAt{w:World}(h:dJ H w0 X M w){b:Nat}{t0:TypeId}{sz n cap:Nat}{l:List Value}(ad:(Value.slice (some ⟨b,0,none⟩) n cap,aY.row t0 sz l)∈M){j:Nat}{v:Value}(ah:l[j]?=some v):w.cell? ⟨b,j,none⟩=some v:=by
 obtain⟨O,V,_,aa⟩:=h.row ad
 have a9:=(l0.1 ah).1
 have aj:0<cap:=by
  rcases Nat.eq_zero_or_pos cap with aT|aT
  ·have:n=0:=by omega
   rw[this] at O
   omega
  ·exact aT
 obtain⟨cur,ab,ag,a6⟩:=aa aj
 rw[ab.cell j]
 rw[<-a6,py,if_pos (by rw[<-O];exact a9)] at ah
 simpa using ah
theorem fv{b:Nat}{t0:TypeId}{l:List Value}{off:Nat}{v:Value}(ad:(ae b,aY.cs t0 l)∈M){t:TypeId}{c2:c5}(hi:e7 P t c2)(dX:c2.d.agg=false)(ah:l[off]?=some v){K:Value->an->Prop}(h:K v (Y H w0 X M)):bk P (Y H w0 X M) (Instr.loadAt t (.pointer (some ⟨b,off,none⟩))) K:=
 NQ hi dX v (fun w au=>by rw[(dJ.cs au ad).cell off];simpa using ah) h
theorem ke{b:Nat}{t0:TypeId}{l:List Value}{off:Nat}(ad:(ae b,aY.cs t0 l)∈M){t:TypeId}{c2:c5}(hi:e7 P t c2)(dX:c2.d.agg=true){K:Value->an->Prop}(h:km ((l.drop off).take c2.size) fun vs=>jO (Nat.beq vs.length c2.size) (K (.agg vs.toArray) (Y H w0 X M))):bk P (Y H w0 X M) (Instr.loadAt t (.pointer (some ⟨b,off,none⟩))) K:=by
 rw[mI] at h
 obtain⟨ai,h⟩:=oj h
 exact NP hi dX _ (mA ai) (fun w au j v a9=>by
  rw[(dJ.cs au ad).cell (off+j)]
  have sy:=(l0.1 a9).1
  rw[py,if_pos (by simp at sy;omega),qo] at a9
  simpa using a9) h
theorem akC{b n cap:Nat}{t0:TypeId}{sz:Nat}{l:List Value}{off:Nat}{v:Value}(ad:(Value.slice (some ⟨b,0,none⟩) n cap,aY.row t0 sz l)∈M){t:TypeId}{c2:c5}(hi:e7 P t c2)(dX:c2.d.agg=false)(ah:l[off]?=some v){K:Value->an->Prop}(h:K v (Y H w0 X M)):bk P (Y H w0 X M) (Instr.loadAt t (.pointer (some ⟨b,off,none⟩))) K:=
 NQ hi dX v (fun w au=>dJ.rowAt au ad ah) h
theorem zl{b n cap:Nat}{t0:TypeId}{sz:Nat}{l:List Value}{off:Nat}(vs:List Value)(ad:(Value.slice (some ⟨b,0,none⟩) n cap,aY.row t0 sz l)∈M){t:TypeId}{c2:c5}(hi:e7 P t c2)(dX:c2.d.agg=true)(ai:vs.length=c2.size)(ah:(l.drop off).take c2.size=vs){K:Value->an->Prop}(h:K (.agg vs.toArray) (Y H w0 X M)):bk P (Y H w0 X M) (Instr.loadAt t (.pointer (some ⟨b,off,none⟩))) K:=
 NP hi dX vs ai (fun w au j v a9=>by
  rw[<-ah] at a9
  have sy:=(l0.1 a9).1
  rw[py,if_pos (by simp at sy;omega),qo] at a9
  exact dJ.rowAt au ad a9) h
theorem dJ.xG{w:World}(h:dJ H w0 X M w){a:Addr}{v:Value}(ah:H.cell? a=some v):w.cell? a=some v:=by
 have cc:=World.block_lt_of_cell? H a ah
 rw[World.cell?_of_block (h.rj _ (lz.of ah))]
 exact ah
theorem mo{a:Addr}{v:Value}(ah:H.cell? a=some v){t:TypeId}{c2:c5}(hi:e7 P t c2)(dX:c2.d.agg=false){K:Value->an->Prop}(h:K v (Y H w0 X M)):bk P (Y H w0 X M) (Instr.loadAt t (.pointer (some a))) K:=
 NQ hi dX v (fun w au=>dJ.xG au ah) h
theorem iZ{b off:Nat}(vs:List Value)(ah:∀j v,vs[j]?=some v->H.cell? ⟨b,off+j,none⟩=some v){t:TypeId}{c2:c5}(hi:e7 P t c2)(dX:c2.d.agg=true)(ai:vs.length=c2.size){K:Value->an->Prop}(h:K (.agg vs.toArray) (Y H w0 X M)):bk P (Y H w0 X M) (Instr.loadAt t (.pointer (some ⟨b,off,none⟩))) K:=
 NP hi dX vs ai (fun w au j v a9=>dJ.xG au (ah j v a9)) h
theorem tV{b:Nat}{t0:TypeId}{l:List Value}{t:TypeId}{c2:c5}(hi:e7 P t c2){off:Nat}{v:Value}{i:Nat}(aS:h8 M i (ae b) (.cs t0 l)){K:an->Prop}(h:nr v fun vs=>jO (Nat.beq vs.length c2.size&&Nat.ble (off+vs.length) l.length&&wU vs) (km (hf l off vs) fun ib=>qc M i (ae b,.cs t0 ib) fun aE=>K (Y H w0 X aE))):eB P (Y H w0 X M) (Instr.storeAt t (.pointer (some ⟨b,off,none⟩)) v) K:=by
 have h:=An h
 obtain⟨aT,h⟩:=oj h
 simp only[e3] at aT
 rw[mI,wq] at h
 constructor
 intro w au
 have aZ:w.heap[b]?=some (.cells l.toArray t0 (0,0)):=dJ.cs au aS.mem
 have fI:=O1 (off:=off) hi aZ (mA aT.1.1) (nm aT.1.2) (Ce aT.2)
 obtain⟨V,aa⟩:=yS au (aS.fm (ae b) (.cs t0 (hf l off v.cells.toList))) (w':=w.setRow b (hf l off v.cells.toList).toArray) rfl rfl rfl (by simp) (fun k _ U=>setRow_other w _ k _ (fun e=>U (by rw[e];rfl))) ⟨b,rfl,setRow_heap w _ _ _ _ _ aZ⟩ (fun cu h=> .inl h)
 exact⟨_,_,by simp[Instr.storeAt,Instr.sureAddr,fI],V,aa,h⟩
theorem OH:∀(cur:List Value) (k off:Nat) (vs:List Value),off+vs.length<=k->(hf cur off vs).take k=hf (cur.take k) off vs
 |[],k,off,vs,_=>by simp[hf]
 |x::l,0,off,vs,h=>by
  have O:vs=[]:=q8 S
  subst O
  simp[hf]
 |x::l,k+1,off+1,vs,h=>by
  simp only[hf,List.take_succ_cons]
  rw[OH l k off vs S]
 |x::l,k+1,0,[],h=>by simp[hf]
 |x::l,k+1,0,v::vs,h=>by
  simp only[hf,List.take_succ_cons]
  rw[OH l k 0 vs (by simp at h;omega)]
theorem Gf{b n cap:Nat}{t0:TypeId}{sz:Nat}{l:List Value}{t:TypeId}{c2:c5}(hi:e7 P t c2){off:Nat}{v:Value}(ib:List Value){i:Nat}(aS:h8 M i (Value.slice (some ⟨b,0,none⟩) n cap) (.row t0 sz l))(rF:v.cells.toList.length=c2.size)(CS:off+v.cells.toList.length<=l.length)(bh:0<v.cells.toList.length)(O:wU v.cells.toList=true)(H4:hf l off v.cells.toList=ib){K:an->Prop}(h:qc M i (Value.slice (some ⟨b,0,none⟩) n cap,.row t0 sz ib) fun aE=>K (Y H w0 X aE)):eB P (Y H w0 X M) (Instr.storeAt t (.pointer (some ⟨b,off,none⟩)) v) K:=by
 subst H4
 rw[wq] at h
 constructor
 intro w au
 obtain⟨ai,aB,ad,aP⟩:=dJ.row au aS.mem
 have aj:0<cap:=by
  rcases Nat.eq_zero_or_pos cap with aT|aT
  ·have:n=0:=by omega
   rw[this] at ai
   omega
  ·exact aT
 obtain⟨cur,aZ,ar,bs⟩:=aP aj
 have Mk:cur.toList.length=cap*sz:=by simpa using ar
 have afX:l.length<=cur.toList.length:=by rw[Mk,ai];exact pC _ aB
 have afs:w.heap[b]?=some (.cells cur.toList.toArray t0 (0,0)):=by rw[Array.toArray_toList];exact aZ
 have fI:=O1 (off:=off) hi afs rF S (Ce O)
 have hlen:∀(cs:List Value) (o:Nat),(hf cs o v.cells.toList).length=cs.length:=by
  have:∀(vs:List Value) (cs:List Value) (o:Nat),(hf cs o vs).length=cs.length:=by
   intro vs
   induction vs with
   |nil=>intro cs o;rw[xN]
   |cons x vs cy=>intro cs o;rw[xM,cy];simp
  exact this _
 obtain⟨V,aa⟩:=yS au (aS.fm (.slice (some ⟨b,0,none⟩) n cap) (.row t0 sz (hf l off v.cells.toList))) (w':=w.setRow b (hf cur.toList off v.cells.toList).toArray) rfl rfl rfl (by simp) (fun k _ U=>setRow_other w _ k _ (fun e=>U (by rw[e];simp[fH];omega))) ⟨_,n,cap,rfl,by rw[hlen];exact ai,aB,ad,.inr ⟨b,rfl,aj,_,setRow_heap w _ _ _ _ _ aZ,by simp[hlen,ar],by
  show List.take (n*sz) (hf cur.toList off v.cells.toList)=_
  rw[OH _ _ _ _ S,bs]⟩⟩ (fun cu h=> .inl h)
 exact⟨_,_,by simp[Instr.storeAt,Instr.sureAddr,fI],V,aa,h⟩
theorem Up{w:World}(au:dJ H w0 X M w)(t:TypeId)(l:List Value):iJ (Y H w0 X M) w (Y H w0 X ((.pointer (some ⟨w.heap.size,0,none⟩),.cs t l)::M)) (w.alloc (.cells l.toArray t))/\(Y H w0 X ((.pointer (some ⟨w.heap.size,0,none⟩),.cs t l)::M)).R (w.alloc (.cells l.toArray t)):=
 FG au rfl rfl rfl (by simp) (fun k U=>Below.heap_alloc w _ k U) ⟨_,rfl,heap_alloc_new w _⟩ fun b ab=>by
  simp only[fH,pD] at ab
  omega
theorem hT{t:TypeId}{c2:c5}(hi:e7 P t c2){K:Value->an->Prop}(l:List Value)(ai:c2.lX.cells.toList=l)(h:∀b,K (ae b) (Y H w0 X ((ae b,.cs t l)::M))):bk P (Y H w0 X M) (Instr.alloc t true (.tuple #[])) K:=by
 constructor
 intro w au
 subst ai
 obtain⟨O,V⟩:=Up au t c2.lX.cells.toList
 exact⟨_,_,_,by simp[Instr.alloc,hi.Jq,newVar,newRow,newObj,Sem.run],O,V,h _⟩
theorem h2{t:TypeId}{v:Value}{K:Value->an->Prop}(l:List Value)(ai:v.cells.toList=l)(h:∀b,K (ae b) (Y H w0 X ((ae b,.cs t l)::M))):bk P (Y H w0 X M) (Instr.box t v) K:=by
 constructor
 intro w au
 subst ai
 obtain⟨O,V⟩:=Up au t v.cells.toList
 exact⟨_,_,_,by simp[Instr.box,newVar,newRow,newObj,Sem.run],O,V,h _⟩
theorem Jp(w:World)(e:TypeId)(sz n:Nat)(l:List Value)(ai:l.length=n*sz)(aB:n<=maxLen)(w':World)(bj:w'=w.alloc (.cells l.toArray e)):aY.ok (.row e sz l) (.slice (some ⟨w.heap.size,0,none⟩) n n) w':=by
 subst bj
 refine⟨_,n,n,rfl,ai,Nat.le_refl _,aB,?_⟩
 by_cases h:n=0
 ·exact .inl h
 ·exact .inr ⟨_,rfl,by omega,_,heap_alloc_new w _,by simpa using ai,by simp[<-ai]⟩
theorem N1{w:World}(au:dJ H w0 X M w)(e:TypeId)(sz n:Nat)(l:List Value)(ai:l.length=n*sz)(aB:n<=maxLen):iJ (Y H w0 X M) w (Y H w0 X ((.slice (some ⟨w.heap.size,0,none⟩) n n,.row e sz l)::M)) (w.alloc (.cells l.toArray e))/\(Y H w0 X ((.slice (some ⟨w.heap.size,0,none⟩) n n,.row e sz l)::M)).R (w.alloc (.cells l.toArray e)):=
 FG au rfl rfl rfl (by simp) (fun k U=>Below.heap_alloc w _ k U) (Jp w e sz n l ai aB _ rfl) fun b ab=>by
  have:=KS ab
  simp only[Value.ownBlock,pD] at this
  omega
theorem hb {t e:TypeId} {sz:Nat} {dG:List Value} (a2:iF P t e sz dG) {n:Nat} {ps:Array (Nat×Value)} (ad:Nat.ble (n*sz) 1000000=true) {K:Value->an->Prop}
  (h:km ((List.range (n*sz)).map fun x=>dG[x%sz]!) fun acF=>EV sz acF ps.toList fun cs=>Nat.beq cs.length (n*sz)=true/\∀b,K (.slice (some ⟨b,0,none⟩) n n) (Y H w0 X ((.slice (some ⟨b,0,none⟩) n n,.row e sz cs)::M))):bk P (Y H w0 X M) (Instr.buildSlice t n ps) K:=by
 rw[mI] at h
 obtain⟨cs,O,ai,V⟩:=LN h
 have ai:=mA ai
 obtain⟨i,z,hi,b3,nw,xj,uP⟩:=a2.parts
 have ad:=nm ad
 have aB:n<=1000000:=by
  have:=Nat.mul_le_mul_left n a2.pos
  omega
 constructor
 intro w au
 obtain⟨aa,ag⟩:=N1 au e sz n cs ai (by simp only[maxLen];omega)
 refine⟨_,_,_,?_,aa,ag,V w.heap.size⟩
 have a6:¬2^24<n*sz:=by omega
 have e1:(Array.range (n*sz)).map (fun x=>z.cells[x%z.cells.size]!)=((List.range (n*sz)).map fun x=>dG[x%sz]!).toArray:=by
  apply oH
  have:=a2.len
  simp[uP,this]
 rw[<-e1] at O
 have SX:(zeroValue e).run P w= .ok z w:=by simp[zeroValue,typeInfo,hi,b3]
 have Ij:(sizeOf e).run P w= .ok sz w:=by simp[sizeOf,typeInfo,hi,nw]
 by_cases bU:n*sz=0
 ·have aT:n=0:=by
   rcases Nat.mul_eq_zero.1 bU with h|h
   ·exact h
   ·have:=a2.pos;omega
  subst aT
  have jV:cs=[]:=q8 (by simpa using ai)
  subst jV
  simp only[ym,Array.range_zero',List.map_toArray] at O
  simp only[Instr.buildSlice,Sem.run_bind,run_underlying a2.eN,Result.andThen_ok,Ij,a6,gt_iff_lt,cZ,Sem.run_pure,SX,newRow,newObj,Sem.run,ym]
  simp at O
  have e0:∀f:Nat->Value,Array.map f (Array.range 0)=#[]:=fun f=>by apply oH;simp
  simp only[e0,O]
  simp[e0,O,newRow,newObj,Sem.run]
 ·simp only[Instr.buildSlice,Sem.run_bind,run_underlying a2.eN,Result.andThen_ok,Ij,a6,bU,gt_iff_lt,cZ,Sem.run_pure,SX,O,newRow,newObj,Sem.run]
  rfl
end
section
variable{P:Program}{H w0:World}{X:Nat->Prop}{M aE:aw}
structure fy(P:Program)(H w0:World)(X:Nat->Prop)(M:aw)(sz:Nat)(n7:TypeId)(x:Value)(m:Nat)(news:List Value):Prop where
 out:∀w,dJ H w0 X M w->Src P sz n7 x m news w
theorem fy.zero{t e:TypeId}{sz:Nat}{dG:List Value}(a2:iF P t e sz dG)(A:Option Addr)(c:Nat):fy P H w0 X M sz t (.slice A 0 c) 0 []:=⟨fun w _=>by
 cases A with
 |none=>exact Src.ofNil w a2.eN c
 |some a=>exact Src.ofSlice w a2.eN a 0 c [] (by simp) (fun j u aS=>by simp at aS) (by simp)⟩
theorem fy.part{t e:TypeId}{sz:Nat}{dG:List Value}(a2:iF P t e sz dG){b n cap:Nat}{t0:TypeId}{l:List Value}(ad:(Value.slice (some ⟨b,0,none⟩) n cap,aY.row t0 sz l)∈M)(off m c:Nat)(news:List Value)(ai:news.length=m*sz)(aB:∀j u,news[j]?=some u->l[off+j]?=some u)(O:∀u∈news,u.oneCell'=true):fy P H w0 X M sz t (.slice (some ⟨b,off,none⟩) m c) m news:=
 ⟨fun w au=>Src.ofSlice w a2.eN _ m c news ai (fun j u aS=>by rw[Addr.add_lit];exact dJ.rowAt au ad (aB j u aS)) O⟩
theorem fy.own{t e:TypeId}{sz:Nat}{dG:List Value}(a2:iF P t e sz dG){A:Option Addr}{n cap:Nat}{t0:TypeId}{l:List Value}(ad:(Value.slice A n cap,aY.row t0 sz l)∈M)(O:∀u∈l,u.oneCell'=true)(c:Nat):fy P H w0 X M sz t (.slice A n c) n l:=
 ⟨fun w au=>by
  obtain⟨aR,dT,fD,af,V,aa,ag,a6⟩:=au.new _ ad
  injection af with vR xn su
  subst vR xn su
  by_cases aT:n=0
  ·subst aT
   have:l=[]:=q8 (by simpa using V)
   subst this
   cases A with
   |none=>exact Src.ofNil w a2.eN c
   |some a=>exact Src.ofSlice w a2.eN a 0 c [] (by simp) (fun j u aS=>by simp at aS) (by simp)
  ·rcases a6 with a6|⟨b,rfl,_⟩
   ·omega
   ·exact Src.ofSlice w a2.eN _ n c l V (fun j u aS=>by rw[Addr.add_lit,vq];exact dJ.rowAt au ad aS) O⟩
theorem fy.fk{t e:TypeId}{sz:Nat}{dG:List Value}(a2:iF P t e sz dG){A:Option Addr}{B m c:Nat}{news:List Value}(aP:dU H B A news)(ai:news.length=m*sz)(O:∀u∈news,u.oneCell'=true):fy P H w0 X M sz t (.slice A m c) m news:=
 ⟨fun w au=>by
  rcases aP with rfl|⟨b,off,rfl,ab,aj⟩
  ·have aT:m=0:=by
    have h:=ai
    simp only[pz] at h
    rcases Nat.mul_eq_zero.1 h.symm with h|h
    ·exact h
    ·have:=a2.pos;omega
   subst aT
   cases A with
   |none=>exact Src.ofNil w a2.eN c
   |some a=>exact Src.ofSlice w a2.eN a 0 c [] (by simp) (fun j u aS=>by simp at aS) (by simp)
  ·exact Src.ofSlice w a2.eN _ m c news ai (fun j u aS=>by rw[Addr.add_lit];exact dJ.xG au (aj j u aS)) O⟩
theorem QR {t e:TypeId} {sz:Nat} {dG:List Value} (a2:iF P t e sz dG) {A:Option Addr} {n cap:Nat} {l:List Value} {x:Value} {m:Nat} {news:List Value} (ar:fy P H w0 X M sz t x m news) {i:Nat} (aS:h8 M i (.slice A n cap) (.row e sz l)) (U:n+m<=1000000000) {ty:TypeId} {K:Value->an->Prop}
  (h:∀aR fD,n+m<=fD->(0<fD->∃b,aR=some ⟨b,0,none⟩)->qc M i (.slice aR (n+m) fD,.row e sz (l++news)) fun aE=>K (.slice aR (n+m) fD) (Y H w0 X aE)):bk P (Y H w0 X M) (Builtin.append_ #[t,t] ty #[.slice A n cap,x]) K:=by
 constructor
 intro w au
 obtain⟨aR,fD,w',fI,aC,aj,b0,aU,bs,bh,b3,gx,ab⟩:=OX (ty:=ty) a2 (au.new _ aS.mem) (ar.out w au) U
 obtain⟨V,aa⟩:=yS au (aS.fm _ _) aU bs bh b3 gx aC ab
 have ir:=h aR fD aj fun aT=>by
  obtain⟨b,ag|ag⟩:=b0 aT
  ·exact⟨b,ag⟩
  ·omega
 rw[wq] at ir
 exact⟨_,w',_,fI,V,aa,ir⟩
theorem EB {t e:TypeId} {sz:Nat} {dG:List Value} (a2:iF P t e sz dG) {A:Option Addr} {x:Value} {m:Nat} {news:List Value} (ar:fy P H w0 X M sz t x m news) (U:m<=1000000000) {ty:TypeId} {K:Value->an->Prop}
  (h:∀aR fD,m<=fD->(0<fD->∃b,aR=some ⟨b,0,none⟩)->K (.slice aR m fD) (Y H w0 X ((.slice aR m fD,.row e sz news)::M))):bk P (Y H w0 X M) (Builtin.append_ #[t,t] ty #[.slice A 0 0,x]) K:=by
 constructor
 intro w au
 have aT:aY.ok (.row e sz []) (.slice A 0 0) w:=⟨A,0,0,rfl,by simp,Nat.le_refl _,cY _,.inl rfl⟩
 obtain⟨aR,fD,w',fI,aC,aj,b0,aU,bs,bh,b3,gx,ab⟩:=OX (ty:=ty) a2 aT (ar.out w au) S
 have nU:fH (.slice A 0 0)=none:=by cases A<;>simp[fH]
 simp only[vq,Eh] at fI aC ab aj
 obtain⟨V,aa⟩:=FG (w':=w') au aU bs bh b3 (fun k U=>gx k U (by rw[nU];simp)) aC (fun b h=>by
  rcases ab b h with O|O
  ·rw[nU] at O;cases O
  ·exact O)
 refine⟨_,w',_,fI,V,aa,h aR fD aj fun aT=>?_⟩
 obtain⟨b,ag|ag⟩:=b0 aT
 ·exact⟨b,ag⟩
 ·omega
theorem alo {t e:TypeId} {sz:Nat} {dG:List Value} (a2:iF P t e sz dG) {iY hV:IntKind} {c:Int} (aj:0<=c) (U:c<=1000000000) {K:Value->an->Prop}
  (h:∀b,K (.slice (some ⟨b,0,none⟩) c.toNat c.toNat) (Y H w0 X ((.slice (some ⟨b,0,none⟩) c.toNat c.toNat,.row e sz (List.replicate c.toNat dG).flatten)::M))):bk P (Y H w0 X M) (Instr.makeSlice t (.int iY c) (.int hV c)) K:=by
 obtain⟨i,z,hi,b3,nw,xj,uP⟩:=a2.parts
 constructor
 intro w au
 have ab:(i.bytes:Int)*c<=281474976710656:=by
  have O:(i.bytes:Int)<=4096:=by omega
  have V:(i.bytes:Int)*c<=4096*c:=Kq O aj
  omega
 have fI:=run_make (P:=P) w t e i z a2.eN hi b3 iY hV c c aj (my _) ab S
 have Ml:madeCells z.cells (c.toNat*i.size)=(List.replicate c.toNat dG).flatten.toArray:=by
  have ai:=a2.len
  have bh:=a2.pos
  have key:∀n:Nat,(List.range (n*sz)).map (fun x=>dG[x%sz]!)=(List.replicate n dG).flatten:=by
   intro n
   apply List.ext_getElem?
   intro j
   induction n generalizing j with
   |zero=>simp
   |succ n cy=>
    rw[Ei,List.flatten_cons,List.getElem?_append,ai]
    by_cases a9:j<sz
    ·rw[if_pos a9,oc,Eg (by rw[kA];omega)]
     simp only[sb,Em a9]
     rw[List.getElem?_eq_getElem S,getElem!_pos _ _ S]
    ·rw[if_neg a9,<-cy]
     by_cases o5:j<(n+1)*sz
     ·rw[oc,oc,Eg o5,Eg (by rw[kA] at o5;omega)]
      simp only[sb]
      congr 2
      rw[Nat.mod_eq_sub_mod S]
     ·rw[List.getElem?_eq_none (by simpa using o5),List.getElem?_eq_none (by rw[kA] at o5;simp;omega)]
  apply oH
  rw[<-key]
  simp[madeCells,uP,nw,ai]
 rw[Ml] at fI
 obtain⟨aa,ag⟩:=N1 au e sz c.toNat (List.replicate c.toNat dG).flatten (by simp[a2.len]) (by simp only[maxLen];omega)
 exact⟨_,_,_,fI,aa,ag,h _⟩
theorem wa{m:Sem Next}{C:an}{v:Value}{K:Value->an->Prop}{Z:bF}(aP:∀w,m.run P w= .ok (.value v) w)(h:K v C):ff P C m K Z:=
 ⟨fun w au=> .inl ⟨v,w,C,aP w,iJ.refl _ _,au,h⟩⟩
theorem amG{m:Sem Next}{C:an}{v:Value}{K:Value->an->Prop}{Z:bF}(aP:∀w,m.run P w= .halt (.panic v) w)(h:Z [{v,recovered:=false}] C):ff P C m K Z:=
 ⟨fun w au=> .inr (.inr ⟨v,w,C,aP w,iJ.refl _ _,au,h⟩)⟩
theorem nc{m:Sem Value}{C:an}{v:Value}{K:Value->an->Prop}(aP:∀w,m.run P w= .ok v w)(h:K v C):bk P C m K:=
 ⟨fun w au=>⟨v,w,C,aP w,iJ.refl _ _,au,h⟩⟩
theorem sR{b:Nat}{t0:TypeId}{l:List Value}{off:Nat}{v:Value}(ad:(ae b,aY.cs t0 l)∈M){t:TypeId}{c2:c5}(hi:e7 P t c2)(dX:c2.d.agg=false)(ah:l[off]?=some v){K:Value->Prop}(h:K v):Ku P (Y H w0 X M) t ⟨b,off,none⟩ K:=
 ⟨⟨v,fun w au=>by
  have ab:=dJ.cs au ad
  have aj:w.cell? ⟨b,off,none⟩=some v:=by rw[ab.cell off];simpa using ah
  simp[loadVar,hi.rR,dX,load,Sem.run,aj],h⟩⟩
theorem p9{b:Nat}{t0:TypeId}{l:List Value}{off:Nat}(ad:(ae b,aY.cs t0 l)∈M){t:TypeId}{c2:c5}(hi:e7 P t c2)(dX:c2.d.agg=true){K:Value->Prop}(h:km ((l.drop off).take c2.size) fun vs=>jO (Nat.beq vs.length c2.size) (K (.agg vs.toArray))):Ku P (Y H w0 X M) t ⟨b,off,none⟩ K:=by
 rw[mI] at h
 obtain⟨ai,h⟩:=oj h
 exact⟨⟨_,fun w au=>by
  have ab:=dJ.cs au ad
  exact O0 hi ab dX rfl (mA ai),h⟩⟩
end
theorem ba.dec{p:Prop}[Decidable p]{A B:Prop}(O:p->A)(V:¬p->B):ba (decide p) A B:=ba.intro (fun h=>O (of_decide_eq_true h)) (fun h=>V (of_decide_eq_false h))
theorem ba.v7{p:Prop}[Decidable p]{A B:Prop}(O:¬p->A)(V:p->B):ba (!decide p) A B:=ba.intro (fun h=>O (by simpa using h)) (fun h=>V (by simpa using h))
theorem ba.sk{a b:Int}{A B:Prop}(O:a=b->A)(V:a≠b->B):ba (a==b) A B:=ba.intro (fun h=>O (by simpa using h)) (fun h=>V (by simpa using h))
theorem ba.sM{a b:Int}{A B:Prop}(O:a≠b->A)(V:a=b->B):ba (a !=b) A B:=ba.intro (fun h=>O (by simpa using h)) (fun h=>V (by simpa using h))
section
variable{P:Program}{H w0:World}{X:Nat->Prop}{M aE:aw}
theorem iJ.imp(ar:aJ M aE){w w':World}{aG:an}(h:iJ (Y H w0 X aE) w aG w'):iJ (Y H w0 X M) w aG w':=
 ⟨h.size,fun k U aB=>h.block k U fun aL=>aB (aL.imp id (Or.imp id (ar.keys k))),fun k U=>(h.new k U).imp (Or.imp id (Or.imp id (ar.keys k))) id⟩
theorem bk.imp{m:Sem Value}{K:Value->an->Prop}(ar:aJ M aE)(h:bk P (Y H w0 X aE) m K):bk P (Y H w0 X M) m K:=⟨fun w au=>by
 obtain⟨v,w',aG,O,V,aa,ag⟩:=h.out w (ar.on _ _ _ _ au)
 exact⟨v,w',aG,O,V.imp ar,aa,ag⟩⟩
theorem eB.imp{m:Sem Unit}{K:an->Prop}(ar:aJ M aE)(h:eB P (Y H w0 X aE) m K):eB P (Y H w0 X M) m K:=⟨fun w au=>by
 obtain⟨w',aG,O,V,aa,ag⟩:=h.out w (ar.on _ _ _ _ au)
 exact⟨w',aG,O,V.imp ar,aa,ag⟩⟩
theorem ay.imp{f:FuncId}{args:Array Value}{K:Value->an->Prop}{Z:bF}(ar:aJ M aE)(h:ay P (Y H w0 X aE) f args K Z):ay P (Y H w0 X M) f args K Z:=⟨h.out.1,fun w au=>
 (h.out.2 w (ar.on _ _ _ _ au)).mono fun e w' eb=>eb.imp (fun⟨v,aG,O,V,aa,ag⟩=>⟨v,aG,O,V.imp ar,aa,ag⟩) (fun⟨ch,aG,O,V,aa,ag⟩=>⟨ch,aG,O,V.imp ar,aa,ag⟩)⟩
theorem h0.imp{d:Deferred}{u:FrameMode}{K:FrameMode->an->Prop}(ar:aJ M aE)(h:h0 P (Y H w0 X aE) d u K):h0 P (Y H w0 X M) d u K:=⟨fun w au=>by
 obtain⟨tl,cap,f,args,O,V,aa⟩:=h.out w (ar.on _ _ _ _ au)
 refine⟨tl,cap,f,args,O,V,fun c cs aj=>?_⟩
 obtain⟨e,fr,w',jR,⟨v,aG,ag,a6,bU,dh⟩,cT⟩:=aa c cs aj
 exact⟨e,fr,w',jR,⟨v,aG,ag,a6.imp ar,bU,dh⟩,cT⟩⟩
end
section
variable{P:Program}{C:an}{K:Value->an->Prop}{Z:bF}{ao:Operand->Value}{o:Oper}
def j7.plain:j7->Bool
 | .other=>false
 |_=>true
theorem Oc{t:TypeId}{x:Operand}{i:c5}(aU:o.op= .makeInterface t x)(hi:e7 P t i)(aL:i.d.plain=true)(h:K (.iface t (ao x)) C):ff P C (execOp ao o) K Z:=by
 refine wa (fun w=>?_) h
 have O:=hi.desc
 cases e:P.underlying t with
 |none=>rw[e] at O;cases O
 |some d=>
  rw[e] at O
  injection O with O
  rw[<-O] at aL
  cases d<;>first|(simp[j7.of,j7.plain] at aL;done)|simp[execOp,aU,Instr.makeInterface,run_underlying e]
theorem Od{x:Operand}{t:TypeId}{v:Value}(aU:o.op= .panic x)(aW:ao x= .iface t v)(h:Z [{v:= .iface t v,recovered:=false}] C):ff P C (execOp ao o) K Z:=
 amG (fun w=>by simp[execOp,aU,aW,Instr.panic]) h
def Hw(v:Value)(K:Value->Prop):Prop:=match v with
 | .bool b=>K (.bool b)
 | .int k n=>K (.int k n)
 | .pointer a=>K (.pointer a)
 | .slice a n c=>K (.slice a n c)
 | .func f a b=>K (.func f a b)
 | .nilFunc=>K .nilFunc
 |v=>K v
theorem LV(v:Value)(K:Value->Prop):Hw v K=K v:=by cases v<;>rfl
def EY:List Value->(List Value->Prop)->Prop
 |[],K=>K []
 |v::l,K=>Hw v fun v=>EY l fun l=>K (v::l)
theorem LW:∀(l:List Value) (K:List Value->Prop),EY l K=K l
 |[],_=>rfl
 |v::l,K=>by unfold EY;rw[LV,LW l]
theorem kZ{fn:Fn}{first cap:Array Operand}(aU:o.op= .makeFunc fn first cap)(h:EY (first.toList.map ao) fun gb=>EY (cap.toList.map ao) fun dd=>K (.func fn gb.toArray dd.toArray) C):ff P C (execOp ao o) K Z:=by
 rw[LW,LW] at h
 have e1:(first.toList.map ao).toArray=first.map ao:=by apply oH;simp
 have e2:(cap.toList.map ao).toArray=cap.map ao:=by apply oH;simp
 rw[e1,e2] at h
 exact wa (fun w=>by simp[execOp,aU,Instr.makeFunc]) h
theorem yC{t e:TypeId}{n:Nat}{c2 lu:c5}{ps:Array (Nat×Value)}(aS:P.underlying t=some (.array n e))(bs:e7 P t c2)(af:e7 P e lu)(h:EV lu.size c2.lX.cells.toList ps.toList fun cs=>K (.agg cs.toArray) C):bk P C (Instr.build t ps) K:=by
 obtain⟨cs,O,V⟩:=LN h
 refine nc (fun w=>?_) V
 rw[Array.toArray_toList] at O
 simp only[Instr.build,Sem.run_bind,bs.Jq,Result.andThen_ok,run_underlying aS,af.u0,O,Sem.run_pure]
theorem ag8{t e:TypeId}{n:Nat}{lu:c5}{b off:Nat}{k:IntKind}{i:Int}(aS:P.underlying t=some (.array n e))(af:e7 P e lu)(aT:0<=i)(O:i<n)(h:K (.pointer (some ⟨b,off+i.toNat*lu.size,none⟩)) C):bk P C (Instr.indexAt t (.pointer (some ⟨b,off,none⟩)) (.int k i)) K:=
 nc (fun w=>by simp[Instr.indexAt,asIntOf,run_underlying aS,Instr.sureAddr,aT,O,af.u0,Addr.add_lit]) h
theorem lN{t e:TypeId}{n:Nat}{lu:c5}{b off:Nat}{k:IntKind}{i:Int}(j:Nat)(a9:i=(j:Int))(aS:P.underlying t=some (.array n e))(af:e7 P e lu)(O:j<n)(h:K (.pointer (some ⟨b,off+j*lu.size,none⟩)) C):bk P C (Instr.indexAt t (.pointer (some ⟨b,off,none⟩)) (.int k i)) K:=by
 subst a9
 exact ag8 aS af S S (by simpa using h)
theorem F7{t:TypeId}{e:TypeId}{x y:Operand}{A:Option Addr}{n c:Nat}(aS:P.underlying t=some (.slice e))(h:K (.bool A.isNone) C):bk P C (do eqGuard .eql t x y (.slice A n c) (.slice none 0 0);binOp .eql t (.slice A n c) (.slice none 0 0)) K:=by
 refine nc (fun w=>?_) h
 have e:Op.maxDepth=(Op.maxDepth-1)+1:=rfl
 cases A<;>(simp[eqGuard,binOp,Op.equal];rw[e];simp[Op.equalIn,run_underlying aS])
end
theorem ba.Uz{b:Bool}{A B:Prop}(O:b=false->A)(V:b=true->B):ba (!b) A B:=ba.intro (fun h=>O (by simpa using h)) (fun h=>V (by simpa using h))
theorem eg {A B:Prop} (k:B) (h:B->A:=by
 intro k
 first
 |((with_reducible show bk _ _ _ _);first|exact uS k|exact IM k|exact h2 _ rfl k|exact fv (by repeat(first|exact List.Mem.head _|refine dr _ ?_)) (e8 _ _ (by rfl)) (by rfl) (by rfl) k|exact ke (by repeat(first|exact List.Mem.head _|refine dr _ ?_)) (e8 _ _ (by rfl)) (by rfl) k|exact hT (e8 _ _ (by rfl)) _ rfl k)
 |((with_reducible show eB _ _ _ _);first|exact st k|exact tV (e8 _ _ (by rfl)) (by repeat(first|exact h8.here|apply h8.there)) k)
 |((with_reducible show ih _ _ _ _);first|exact IS k|exact NM k)
 |((with_reducible show gN _ _ _);first|exact gN.mk (ie.refl _) k|exact gN.mk (ie.imp (aJ.sub (yk _ _))) k|exact gN.mk (ie.imp (aJ.sub (.cons _ (yk _ _)))) k)
 |((with_reducible show ff _ _ _ _ _);first|exact Oc (by rfl) (e8 _ _ (by rfl)) (by rfl) k|exact Od (by rfl) (by rfl) k)
 |((with_reducible show eS _ _);exact eS.go k)
 |((with_reducible show hy _ _ _ _ _ _ _ _);exact hy.go k)
 |((with_reducible show pE _ _ _ _ _ _ _ _);exact pE.go k)
 |((with_reducible show _/\_);exact⟨by rfl,k⟩)):A:=h k
theorem eh {A B C:Prop} (k:B) (l:C) (h:B->C->A:=by
 intro k l
 first
 |((with_reducible show _/\_);exact⟨k,l⟩)
 |exact ba.dec k l
 |exact ba.v7 k l
 |exact ba.Uz k l
 |exact ba.sk k l
 |exact ba.sM k l
 |exact ba.intro k l):A:=h k l
theorem adq:iF Tryz.prog 22 63 3 ([.int .i64 0,.int .i64 0,.slice none 0 0]:List Value):=⟨bP,bP,⟨.agg #[.int .i64 0,.int .i64 0,.slice none 0 0],bP,rfl⟩,bP,rfl,bC,rfl⟩
theorem gK:iF Tryz.prog 23 3 1 ([.int .i64 0]:List Value):=⟨bP,bP,⟨.int .i64 0,bP,rfl⟩,bP,rfl,bC,rfl⟩
theorem vG:iF Tryz.prog 26 65 3 ([.int .i64 0,.int .i64 0,.int .i64 0]:List Value):=⟨bP,bP,⟨.agg #[.int .i64 0,.int .i64 0,.int .i64 0],bP,rfl⟩,bP,rfl,bC,rfl⟩
theorem avu:iF Tryz.prog 28 117 3 ([.int .i64 0,.slice none 0 0,.slice none 0 0]:List Value):=⟨bP,bP,⟨.agg #[.int .i64 0,.slice none 0 0,.slice none 0 0],bP,rfl⟩,bP,rfl,bC,rfl⟩
theorem avv:iF Tryz.prog 29 101 10 ([.int .i64 0,.slice none 0 0,.int .i64 0,.int .i64 0,.int .i64 0,.int .i64 0,.int .i64 0,.int .i64 0,.int .i64 0,.bool false]:List Value):=⟨bP,bP,⟨.agg #[.int .i64 0,.slice none 0 0,.int .i64 0,.int .i64 0,.int .i64 0,.int .i64 0,.int .i64 0,.int .i64 0,.int .i64 0,.bool false],bP,rfl⟩,bP,rfl,bC,rfl⟩
theorem avw:iF Tryz.prog 30 197 5 ([.int .i64 0,.int .i64 0,.int .i64 0,.int .i64 0,.int .i64 0]:List Value):=⟨bP,bP,⟨.agg #[.int .i64 0,.int .i64 0,.int .i64 0,.int .i64 0,.int .i64 0],bP,rfl⟩,bP,rfl,bC,rfl⟩
theorem avx:iF Tryz.prog 31 23 1 ([.slice none 0 0]:List Value):=⟨bP,bP,⟨.slice none 0 0,bP,rfl⟩,bP,rfl,bC,rfl⟩
theorem At:iF Tryz.prog 43 78 19 ([.int .i64 0,.int .i64 0,.int .i64 0,.int .i64 0,.int .i64 0,.int .i64 0,.int .i64 0,.int .i64 0,.int .i64 0,.int .i64 0,.slice none 0 0,.int .i64 0,.int .i64 0,.int .i64 0,.int .i64 0,.slice none 0 0,.slice none 0 0,.slice none 0 0,.int .i64 0]:List Value):=⟨bP,bP,⟨.agg #[.int .i64 0,.int .i64 0,.int .i64 0,.int .i64 0,.int .i64 0,.int .i64 0,.int .i64 0,.int .i64 0,.int .i64 0,.int .i64 0,.slice none 0 0,.int .i64 0,.int .i64 0,.int .i64 0,.int .i64 0,.slice none 0 0,.slice none 0 0,.slice none 0 0,.int .i64 0],bP,rfl⟩,bP,rfl,bC,rfl⟩
theorem Lt:iF Tryz.prog 44 108 10 ([.int .i64 0,.slice none 0 0,.int .i64 0,.int .i64 0,.slice none 0 0,.slice none 0 0,.slice none 0 0,.int .i64 0,.int .i64 0,.bool false]:List Value):=⟨bP,bP,⟨.agg #[.int .i64 0,.slice none 0 0,.int .i64 0,.int .i64 0,.slice none 0 0,.slice none 0 0,.slice none 0 0,.int .i64 0,.int .i64 0,.bool false],bP,rfl⟩,bP,rfl,bC,rfl⟩
theorem Au:iF Tryz.prog 45 4 1 ([.bool false]:List Value):=⟨bP,bP,⟨.bool false,bP,rfl⟩,bP,rfl,bC,rfl⟩
theorem vH:iF Tryz.prog 46 138 8 ([.int .i64 0,.int .i64 0,.int .i64 0,.int .i64 0,.int .i64 0,.int .i64 0,.int .i64 0,.bool false]:List Value):=⟨bP,bP,⟨.agg #[.int .i64 0,.int .i64 0,.int .i64 0,.int .i64 0,.int .i64 0,.int .i64 0,.int .i64 0,.bool false],bP,rfl⟩,bP,rfl,bC,rfl⟩
theorem Ho:iF Tryz.prog 47 133 10 ([.int .i64 0,.int .i64 0,.int .i64 0,.int .i64 0,.int .i64 0,.int .i64 0,.bool false,.int .i64 0,.int .i64 0,.int .i64 0]:List Value):=⟨bP,bP,⟨.agg #[.int .i64 0,.int .i64 0,.int .i64 0,.int .i64 0,.int .i64 0,.int .i64 0,.bool false,.int .i64 0,.int .i64 0,.int .i64 0],bP,rfl⟩,bP,rfl,bC,rfl⟩
theorem ads:iF Tryz.prog 61 60 4 ([.int .i64 0,.int .i64 0,.int .i64 0,.int .i64 0]:List Value):=⟨bP,bP,⟨.agg #[.int .i64 0,.int .i64 0,.int .i64 0,.int .i64 0],bP,rfl⟩,bP,rfl,bC,rfl⟩
theorem Cq:iF Tryz.prog 75 129 2 ([.int .i64 0,.bool false]:List Value):=⟨bP,bP,⟨.agg #[.int .i64 0,.bool false],bP,rfl⟩,bP,rfl,bC,rfl⟩
theorem qw:iF Tryz.prog 76 187 2 ([.int .i64 0,.int .i64 0]:List Value):=⟨bP,bP,⟨.agg #[.int .i64 0,.int .i64 0],bP,rfl⟩,bP,rfl,bC,rfl⟩
theorem As:iF Tryz.prog 106 252 2 ([.int .i64 0,.int .i64 0]:List Value):=⟨bP,bP,⟨.agg #[.int .i64 0,.int .i64 0],bP,rfl⟩,bP,rfl,bC,rfl⟩
theorem mE:iF Tryz.prog 170 136 4 ([.int .i64 0,.int .i64 0,.int .i64 0,.int .i64 0]:List Value):=⟨bP,bP,⟨.agg #[.int .i64 0,.int .i64 0,.int .i64 0,.int .i64 0],bP,rfl⟩,bP,rfl,bC,rfl⟩
theorem adr:iF Tryz.prog 319 288 2 ([.int .i64 0,.int .i64 0]:List Value):=⟨bP,bP,⟨.agg #[.int .i64 0,.int .i64 0],bP,rfl⟩,bP,rfl,bC,rfl⟩
section
open Go.ChangeShapes Go.WideShapes Go.RowKit Go.Deep
abbrev BR(w:World):an:=Y w w (fun _=>False) []
theorem ab4{P:Program}{f:FuncId}{args:Array Value}{w:World}(h:∀(K:Value->an->Prop) (Z:bF),K (.bool true) (BR w)->ay P (BR w) f args K Z):Calls P f args w fun e w'=>e= .returned (.bool true)/\Below w.heap.size w w':=by
 have O:=h (fun v C=>v= .bool true/\C=BR w) (fun _ _=>False) ⟨rfl,rfl⟩
 have aT:dJ w w (fun _=>False) [] w:=⟨rfl,rfl,rfl,Nat.le_refl _,fun _ _ _=>rfl,Nat.le_refl _,fun _ _=>rfl,fun e af=>(by cases af),fun e af=>(by cases af),List.nodup_nil⟩
 refine(O.out.2 w aT).mono fun e w' eb=>?_
 rcases eb with⟨v,aG,rfl,_,aa,rfl,rfl⟩|⟨_,_,_,_,_,b3⟩
 ·have ag:dJ w w (fun _=>False) [] w':=aa
  exact⟨rfl,ag.os,ag.tape,ag.output,ag.size,fun k U=>ag.fk k U (fun h=>h)⟩
 ·exact b3.elim
end
end Go.Proofs.YtcflcebplhdcpaaGreat
