/- Lemmas, part 6; each states its own conditions. -/
import Derived.Defers
import Derived.Recover
import Derived.Test.YtcflcebplhdcpaaGreatL5
namespace Go.Proofs.YtcflcebplhdcpaaGreat
open Go.RowKit
set_option linter.unusedSimpArgs false
set_option linter.unusedVariables false
set_option maxRecDepth 100000
set_option maxHeartbeats 16000000
section
variable{P:Program}
theorem NQ{C:an}{t:TypeId}{i:c5}(hi:e7 P t i)(dX:i.d.agg=false){a:Addr}{K:Value->an->Prop}(v:Value)(aP:∀w,C.R w->w.cell? a=some v)(h:K v C):bk P C (Instr.loadAt t (.pointer (some a))) K:=by
 constructor
 intro w au
 exact⟨v,w,_,by simp[Instr.loadAt,Instr.sureAddr,loadVar,hi.rR,dX,load,Sem.run,aP w au],iJ.refl _ _,au,h⟩
theorem NP{C:an}{t:TypeId}{i:c5}(hi:e7 P t i)(dX:i.d.agg=true){b off:Nat}{K:Value->an->Prop}(l:List Value)(ai:l.length=i.size)(aP:∀w,C.R w->∀j v,l[j]?=some v->w.cell? ⟨b,off+j,none⟩=some v)(h:K (.agg l.toArray) C):bk P C (Instr.loadAt t (.pointer (some ⟨b,off,none⟩))) K:=by
 constructor
 intro w au
 have O:(loadCells ⟨b,off,none⟩ l.length).run P w= .ok l.toArray w:=run_loadCells_list w _ l fun j v a9=>by rw[Ag];exact aP w au j v a9
 rw[ai] at O
 exact⟨.agg l.toArray,w,_,by simp[Instr.loadAt,Instr.sureAddr,loadVar,hi.rR,dX,hi.u0,O],iJ.refl _ _,au,h⟩
end
inductive D8 where
 |cs (t:TypeId) (l:List Value)
 |row (t:TypeId) (sz cap:Nat) (l:List Value)
def D8.ok(d:D8)(o:Option Go.Obj):Prop:=match d with
 | .cs t l=>o=some (.cells l.toArray t (0,0))
 | .row t sz cap l=> ∃cs:Array Value,o=some (.cells cs t (0,0))/\cs.size=cap*sz/\cs.toList.take l.length=l
abbrev z2:=List (Nat×D8)
structure BY(w0:World)(X:Nat->Prop)(M:z2)(w:World):Prop where
 os:w.os=w0.os
 tape:w.tape=w0.tape
 output:w.output=w0.output
 size:w0.heap.size<=w.heap.size
 fk:∀k,k<w0.heap.size->¬X k->w.heap[k]?=w0.heap[k]?
 new:∀b d,(b,d)∈M->d.ok w.heap[b]?
 ap:∀b d,(b,d)∈M->w0.heap.size<=b\/X b
 pc:(M.map (·.1)).Nodup
theorem D8.ok.lt{d:D8}{w:World}{b:Nat}(h:d.ok w.heap[b]?):b<w.heap.size:=by
 cases d with
 |cs t l=>exact(oI.1 h).1
 |row t sz cap l=>obtain⟨cs,h,_⟩:=h;exact(oI.1 h).1
def vk(w0:World)(X:Nat->Prop)(M:z2):an where
 rn k:=(k<w0.heap.size/\¬X k)\/k∈M.map (·.1)
 R:=BY w0 X M
 lt w h k U:=by
  rcases U with U|U
  ·exact lB U.1 h.size
  ·obtain⟨⟨b,d⟩,ab,rfl⟩:=ra.1 U
   exact(h.new b d ab).lt
 wt w w' h ar b3 O V aa:=by
  refine⟨O.trans h.os,V.trans h.tape,aa.trans h.output,jr h.size b3,fun k U aW=>(ar k (.inl ⟨U,aW⟩)).trans (h.fk k U aW),fun b d ab=>?_,h.ap,h.pc⟩
  rw[ar b (.inr (ra.2 ⟨(b,d),ab,rfl⟩))]
  exact h.new b d ab
def Dm:Nat->Prop:=fun _=>False
theorem vk.start(w:World):(vk w Dm []).R w:=⟨rfl,rfl,rfl,Nat.le_refl _,fun _ _ _=>rfl,(fun b d h=>nomatch h),(fun b d h=>nomatch h),List.nodup_nil⟩
structure Mod(X:Nat->Prop)(w w':World):Prop where
 os:w'.os=w.os
 tape:w'.tape=w.tape
 output:w'.output=w.output
 size:w.heap.size<=w'.heap.size
 fk:∀k,k<w.heap.size->¬X k->w'.heap[k]?=w.heap[k]?
theorem Mod.below{w w':World}(h:Mod Dm w w'):Below w.heap.size w w':=⟨h.os,h.tape,h.output,h.size,fun k U=>h.fk k U id⟩
section
variable{P:Program}{w0:World}{X:Nat->Prop}{M:z2}
def keys(M:z2):Nat->Prop:=fun k=>k∈M.map (·.1)
theorem BY.self{w:World}(h:BY w0 X M w):BY w (keys M) M w:=⟨rfl,rfl,rfl,Nat.le_refl _,fun _ _ _=>rfl,h.new,fun b d ab=> .inr (ra.2 ⟨(b,d),ab,rfl⟩),h.pc⟩
theorem BY.UA{w:World}(h:BY w0 X M w){k:Nat}(U:k<w0.heap.size)(aW:¬X k):¬keys M k:=fun ad=>by
 obtain⟨⟨b,d⟩,ab,rfl⟩:=ra.1 ad
 rcases h.ap b d ab with O|O
 ·exact absurd U (by simp only;omega)
 ·exact aW O
structure Qr(w0:World)(X:Nat->Prop)(be:World)(bM:Nat->Prop)(K:Value->an->Prop)(v:Value)(C:an):Prop where
 out:∃dz,C=vk be bM dz/\K v (vk w0 X dz)
structure Ql(w0:World)(X:Nat->Prop)(be:World)(bM:Nat->Prop)(Z:bF)(ch:List PanicEntry)(C:an):Prop where
 out:∃dz,C=vk be bM dz/\Z ch (vk w0 X dz)
theorem Qr.go{be:World}{bM:Nat->Prop}{K:Value->an->Prop}{v:Value}{dz:z2}(h:K v (vk w0 X dz)):Qr w0 X be bM K v (vk be bM dz):=⟨dz,rfl,h⟩
theorem Ql.go{be:World}{bM:Nat->Prop}{Z:bF}{ch:List PanicEntry}{dz:z2}(h:Z ch (vk w0 X dz)):Ql w0 X be bM Z ch (vk be bM dz):=⟨dz,rfl,h⟩
end
def Ge:List Oper->Option (List Oper×Oper×Call)
 |[]=>none
 |[o]=>match o.op with
  | .defer c=>match o.dst,o.guard with
   |none,none=>some ([],o,c)
   |_,_=>none
  |_=>none
 |o::l=>match Ge l with
  |some (a,b,c)=>some (o::a,b,c)
  |none=>none
theorem WB:∀{l a:List Oper} {o:Oper} {c:Call},Ge l=some (a,o,c)->l=a++[o]/\o.op= .defer c/\o.dst=none/\o.guard=none
 |[],_,_,_,h=>by cases h
 |[x],a,o,c,h=>by
  unfold Ge at h
  split at h
  ·rename_i aN aj
   split at h
   ·rename_i O V
    injection h with h
    injection h with aa ag
    injection ag with ag a6
    subst aa ag a6
    exact⟨rfl,aj,O,V⟩
   ·cases h
  ·cases h
 |x::y::l,a,o,c,h=>by
  unfold Ge at h
  split at h
  ·rename_i ei cu aN ar
   injection h with h
   injection h with aa ag
   injection ag with ag a6
   subst aa ag a6
   obtain⟨bU,dh⟩:=WB ar
   exact⟨by rw[bU];rfl,dh⟩
  ·cases h
def Lg(ao:Operand->cD)(c:Call)(K:Deferred->Prop):Prop:=match c.callee with
 | .value x=>match ao x with
  | .v (.func fn first cap)=>ki ao c.args.toList fun vs=>km (first.toList++vs) fun l=>K {target:= .fn fn cap,args:=l.toArray}
  |_=>False
 |_=>False
def wA(P:Program)(T:List (Nat×c5))(N:gI)(D:Nat->fx)(c:Code)(C:an)(ss:bQ)(K:gI->an->bQ->Prop)(E:gI->oL):Prop:=match c with
 | .seq x y=>match x with
  | .region id ops false=>match Ge ops.toList with
   |some (pre,_,c)=>I7 P T N ops.toList pre (fun ch C ss=>E N (.panic ch) C ss) C ss fun aG bo=>Lg bo.eval c fun d=>wA P T {N with ds:=d::N.ds} D y aG bo K E
   |none=>hv P T N D x C ss (fun aG bo=>wA P T N D y aG bo K E) (E N)
  |x=>match Ti D x with
   |true=>eS (fun lZ=>hv P T N D x C ss lZ (E N)) fun aG bo=>wA P T N D y aG bo K E
   |false=>hv P T N D x C ss (fun aG bo=>wA P T N D y aG bo K E) (E N)
 |c=>hv P T N D c C ss (K N) (E N)
section
variable{P:Program}{T:List (Nat×c5)}{N:gI}{D:Nat->fx}{C:an}{cq:Nat->Nat}{ss:bQ}{a:Act}{w:World}
def NI(K:gI->an->bQ->Prop)(E:gI->oL):Exit->Act->World->Prop:=fun e a w=> ∃N,vY N (K N) (E N) e a w
theorem Of{ops:Array Oper}(bX:gO P T){Q:Exit->Act->World->Prop}{E:oL}(last:Oper)(yW:∀ch a w,l2 N (E (.panic ch)) a w->Q (.panic ch) a w){K:an->bQ->Prop}(jS:∀a w,l2 N K a w->wpList P ops Q [last] a w):∀(rest:List Oper) {C:an} {ss:bQ} {a:Act} {w:World},s6 N C ss a w->I7 P T N ops.toList rest (fun ch C ss=>E (.panic ch) C ss) C ss K->wpList P ops Q (rest++[last]) a w
 |[],C,ss,a,w,⟨cq,r⟩,h=>jS a w ⟨C,ss,⟨cq,r⟩,h⟩
 |o::rest,C,ss,a,w,⟨cq,r⟩,h=>by
  refine wpList_step fun cG AF=>?_
  have O:=Ph (Q:=Q) (fun ch aG bo ei w' fA b3=>yW ch ei w' ⟨aG,bo,fA,b3⟩) bX r h
  split
  ·rename_i au
   rw[if_pos au] at O
   refine Oper.wp_mono (fun ei w' ⟨aG,bo,fA,ak⟩=>?_) O
   exact AF _ _ (Of bX last yW jS rest fA ak)
  ·rename_i au
   rw[if_neg au] at O
   obtain⟨aG,bo,fA,ak⟩:=O
   exact AF _ _ (Of bX last yW jS rest fA ak)
theorem acZ{c:Call}{K:Deferred->Prop}(r:fR N C cq ss a w)(h:Lg ss.eval c K)(t:TypeId):∃d,(resolve a.eval c t).run P w= .ok d w/\K d:=by
 obtain⟨Q0,args,nM⟩:=c
 unfold Lg at h
 simp only at h
 split at h
 ·rename_i x
  split at h
  ·rename_i fn first cap aW
   obtain⟨vs,O,V⟩:=wy h
   rw[mI] at V
   have ot:args.map a.eval=vs.toArray:=by
    apply oH
    rw[D3]
    exact G8 r O
   have y2:a.eval x= .func fn first cap:=by rw[r.eval,aW];rfl
   refine⟨_,?_,V⟩
   have e:(first.toList++vs).toArray=first++vs.toArray:=by apply oH;simp
   rw[e]
   simp[resolve,y2,ot,Deferred.ofValue]
  ·exact False.elim h
 ·exact False.elim h
theorem YE{d:Deferred}{K:an->bQ->Prop}(r:fR N C cq ss a w):fR {N with ds:=d::N.ds} C cq ss {a with defers:=d::a.defers} w:=
 ⟨r.size,by show d::a.defers=d::N.ds;rw[r.qM],r.slot,r.box,r.inj,r.wf,r.rest⟩
theorem asC(bX:gO P T){K:gI->an->bQ->Prop}{E:gI->oL}:∀(c:Code),(∀N,oU P T N D c)->∀{N:gI} {C:an} {ss:bQ} {a:Act} {w:World},s6 N C ss a w->wA P T N D c C ss K E->c.wp P (NI K E) a w:=by
 have one:∀(c:Code),(∀N,oU P T N D c)->∀{N:gI} {C:an} {ss:bQ} {a:Act} {w:World},s6 N C ss a w->hv P T N D c C ss (K N) (E N)->c.wp P (NI K E) a w:=fun c aL {N C ss a w} r h=>wp_mono (vg bX c (aL N) r h) fun e ei w' bd=>⟨N,bd⟩
 intro c
 induction c with
 |seq x y rH o8=>
  intro aL N C ss a w r h
  have plain:hv P T N D x C ss (fun aG bo=>wA P T N D y aG bo K E) (E N)->(Code.seq x y).wp P (NI K E) a w:=fun h=>by
   refine wp_seq (wp_mono (vg bX x (aL N).1 r h) fun e ei w' bd=>?_)
   cases e with
   |normal=>obtain⟨aG,bo,fA,ak⟩:=bd;exact o8 (fun N=>(aL N).2) fA ak
   |_=>exact⟨N,bd⟩
  unfold wA at h
  split at h
  ·rename_i id ops
   split at h
   ·rename_i pre o bD ar
    obtain⟨O,V,aa,ag⟩:=WB ar
    refine wp_seq (wp_region_list ?_)
    rw[O]
    refine Of (N:=N) (E:=E N) bX o (fun ch a w b3=>⟨N,b3⟩) (fun a w b3=>?_) pre r (by exact h)
    obtain⟨aG,bo,⟨cq,fA⟩,U⟩:=b3
    obtain⟨d,a6,bU⟩:=acZ (P:=P) (w:=w) fA U o.type
    refine wpList_step fun cG AF=>?_
    have au:Region.wanted o (yielded ops a.tmps)=true:=by simp[Region.wanted,ag]
    rw[if_pos au]
    unfold Oper.wp
    have fI:(execOp a.eval o).run P w= .ok (.defer d) w:=by simp[execOp,V,a6]
    rw[fI,Oper.upon_defer,aa]
    refine AF _ _ ?_
    exact o8 (fun N=>(aL N).2) ⟨cq,YE (K:=fun _ _=>True) (d:=d) fA⟩ bU
   ·exact plain h
  ·split at h
   ·replace h:=h.out
    rcases h with h|⟨lZ,O,V⟩
    ·exact plain h
    ·refine wp_seq (wp_mono (vg bX x (aL N).1 r O) fun e ei w' bd=>?_)
     cases e with
     |normal=>
      obtain⟨aG,bo,⟨cq,fA⟩,ak⟩:=bd
      obtain⟨Bw,aa,ag⟩:=ak _ _ _ _ _ fA
      exact o8 (fun N=>(aL N).2) ⟨cq,ag⟩ (V _ _ aa)
     |_=>exact⟨N,bd⟩
   ·exact plain h
 |_=>intro aL N C ss a w r h;exact one _ aL r h
end
structure h0(P:Program)(C:an)(d:Deferred)(u:FrameMode)(K:FrameMode->an->Prop):Prop where
 out:∀w,C.R w->∃tl cap f args,d.target= .fn tl cap/\(invoke d.target d.args).run P w= .ok (.enter f args) w/\CallsD P f args u w fun e fr w'=> ∃v aG,e= .returned v/\iJ C w aG w'/\aG.R w'/\K fr aG
def A5(P:Program)(T:List (Nat×c5))(fn:Func)(eW:Value->an->Prop)(hh:bF)(ss:bQ):List Deferred->FrameMode->an->Prop
 |[],.returning,C=>lD P T fn eW C ss
 |[],.panicking ch,C=>hh ch C
 |[],.run,_=>False
 |d::ds,.returning,C=>h0 P C d .returning fun fr aG=>A5 P T fn eW hh ss ds (settle fr) aG
 |d::ds,.panicking ch,C=>h0 P C d (.panicking ch) fun fr aG=>A5 P T fn eW hh ss ds (settle fr) aG
 |_::_,.run,_=>False
def BW(eW:Value->an->Prop)(hh:bF)(e:Ending)(w':World):Prop:=(∃v aG,e= .returned v/\aG.R w'/\eW v aG)\/∃ch aG,e= .panicked ch/\aG.R w'/\hh ch aG
section
variable{P:Program}{T:List (Nat×c5)}{N:gI}{D:Nat->fx}{C:an}{cq:Nat->Nat}{ss:bQ}{a:Act}{w:World}
theorem NG(bX:gO P T){fn:Func}{eW:Value->an->Prop}{hh:bF}:∀(ds:List Deferred) (u:FrameMode) {C:an} {w:World},fR {N with ds:=[]} C cq ss {a with defers:=[]} w->A5 P T fn eW hh ss ds u C->Go.Leaves P fn a.tmps (BW eW hh) ds u w:=by
 intro ds
 induction ds with
 |nil=>
  intro u C w r h
  cases u with
  |returning=>
   obtain⟨_,v,O,V⟩:=Aa bX r rfl h
   exact⟨v,O,.inl ⟨v,C,rfl,r.rest,V⟩⟩
  |panicking ch=>exact .inr ⟨ch,C,rfl,r.rest,h⟩
  |run=>exact False.elim h
 |cons d ds cy=>
  intro u C w r h
  have go:u≠ .run->(h0 P C d u fun fr aG=>A5 P T fn eW hh ss ds (settle fr) aG)->Go.Leaves P fn a.tmps (BW eW hh) (d::ds) u w:=fun aS h=>by
   obtain⟨tl,cap,f,args,O,V,aa⟩:=h.out w r.rest
   have key:CallsD P f args u w fun
    | .returned _,fr,w'=>Go.Leaves P fn a.tmps (BW eW hh) ds (settle fr) w'
    | .panicked chain,fr,w'=>Go.Leaves P fn a.tmps (BW eW hh) ds (raised fr chain) w'
    | .outgrown,_,w'=>BW eW hh .outgrown w':=fun c cs aj=>by
    obtain⟨e,fr,w',jR,⟨v,aG,af,aZ,c3,U⟩,a6⟩:=aa c cs aj
    subst af
    exact⟨_,fr,w',jR,cy (settle fr) (r.vM aZ c3) U,a6⟩
   cases u with
   |run=>exact absurd rfl aS
   |returning=>exact⟨aS,tl,cap,f,args,O,V,key⟩
   |panicking ch=>exact⟨aS,tl,cap,f,args,O,V,key⟩
  cases u with
  |run=>exact False.elim h
  |returning=>exact go (by simp) h
  |panicking ch=>exact go (by simp) h
theorem fR.PD(r:fR N C cq ss a w):fR {N with ds:=[]} C cq ss {a with defers:=[]} w:=⟨r.size,rfl,r.slot,r.box,r.inj,r.wf,r.rest⟩
def Ly(P:Program)(T:List (Nat×c5))(fn:Func)(eW:Value->an->Prop)(hh:bF)(N:gI)(C:an)(ss:bQ):Prop:=A5 P T fn eW hh ss N.ds .returning C
def Lx(P:Program)(T:List (Nat×c5))(fn:Func)(eW:Value->an->Prop)(hh:bF)(N:gI):oL:=fun e C ss=>match e with
 | .ret=>A5 P T fn eW hh ss N.ds .returning C
 | .panic ch=>A5 P T fn eW hh ss N.ds (.panicking ch) C
 |_=>False
theorem ab6 (bX:gO P T) {f:FuncId} {fn:Func} {c:Code} {args:List Value} {eW:Value->an->Prop} {hh:bF} (aK:P.funcs[f]?=some fn) (ab:fn.body=some c) (eC:fn.ntmps=N.n) (hK:N.ds=[]) (hlen:Nat.ble args.length N.n=true) (aL:∀N,oU P T N D c) {w:World} (C:an) (c3:C.R w)
  (h:wA P T N D c C ⟨g1 args,jA⟩ (Ly P T fn eW hh) (Lx P T fn eW hh)):Calls P f args.toArray w (BW eW hh):=by
 refine calls_of_wp_defers aK ab ?_
 have hlen:=nm hlen
 have r:s6 N C ⟨g1 args,jA⟩ {tmps:=args.toArray++Array.replicate (fn.ntmps-args.toArray.size) undef,defers:=[]} w:=by
  refine⟨fun _=>0,?_,hK.symm,fun t=>?_,(fun b ty cs h=>nomatch h),(fun b cu h _ _=>nomatch h),fun t b off h=>?_,c3⟩
  ·simp[eC];omega
  ·show _=cD.den _ (g1 args t)
   rw[sV]
   simp only[cD.den]
   rw[wH,Ef,DZ]
   split
   ·simp
   ·rename_i cc
    simp at cc
    rw[List.getElem?_eq_none cc,D0]
    split<;>rfl
  ·have h:g1 args t= .p b off:=h
   rw[sV] at h;cases h
 refine wp_mono (asC bX c aL r h) fun e a w ⟨pA,bd⟩=>?_
 cases e with
 |normal=>obtain⟨C,ss,⟨cq,r⟩,h⟩:=bd;have:=NG bX pA.ds .returning r.PD h;rw[<-r.qM] at this;exact this
 |ret=>obtain⟨C,ss,⟨cq,r⟩,h⟩:=bd;have:=NG bX pA.ds .returning r.PD h;rw[<-r.qM] at this;exact this
 |panic ch=>obtain⟨C,ss,⟨cq,r⟩,h⟩:=bd;have:=NG bX pA.ds (.panicking ch) r.PD h;rw[<-r.qM] at this;exact this
 |_=>obtain⟨C,ss,⟨cq,r⟩,h⟩:=bd;exact False.elim h
end
def g0:FrameMode->Value×FrameMode
 | .panicking ({v,recovered:=false,goexit:=false}::UI)=>(v,.panicking ({v,recovered:=true}::UI))
 |u=>(.nilIface,u)
theorem VL(c:Frame)(cs:List Frame):recoverD (c::cs)=some ((g0 c.mode).1,{c with mode:=(g0 c.mode).2}::cs)\/(recoverD (c::cs)=none/\g0 c.mode=(.nilIface,c.mode)):=by
 cases ad:c.mode with
 |panicking ch=>
  cases ch with
  |nil=>exact .inr ⟨by simp[recoverD,ad],by simp[g0]⟩
  |cons e UI=>
   obtain⟨v,r,g⟩:=e
   cases r with
   |true=>exact .inr ⟨by simp[recoverD,ad],by simp[g0]⟩
   |false=>cases g with
    |true=>exact .inr ⟨by simp[recoverD,ad],by simp[g0]⟩
    |false=>exact .inl (by simp[recoverD,g0,ad])
 |_=>exact .inr ⟨by simp[recoverD,ad],by simp[g0]⟩
section
variable{P:Program}{T:List (Nat×c5)}{D:Nat->fx}{C:an}{w:World}
theorem ab1 (bX:gO P T) (jX:P.follows .mixedOrders=true) {f:FuncId} {fn:Func} (N:gI) {id hI eK:Nat} {o1 aQ:Oper} {nM:Array TypeId} {rest:Code} (aK:P.funcs[f]?=some fn) (ab:fn.body=some (.seq (.region id #[o1,aQ] false) rest)) (eC:fn.ntmps=N.n) (hK:N.ds=[])
  (O:o1.op= .call {callee:= .builtin .recover,args:=#[],argTypes:=nM}) (gX:o1.guard=none) (e1:o1.dst=some hI) (V:aQ.op= .assign (.tmp hI)) (gr:aQ.guard=none) (e2:aQ.dst=some eK) (xk:Nat.blt hI N.n=true) (ga:Nat.blt eK N.n=true)
  {args:List Value} (hlen:Nat.ble args.length N.n=true) (aL:iW D rest=true) (c3:C.R w) (u:FrameMode) {eW:Value->an->Prop}
  (h:hv P T N D rest C ⟨fm (fm (g1 args) hI (.v (g0 u).1)) eK (.v (g0 u).1),jA⟩ (lD P T fn eW) (mV P T fn eW fun _ _=>False)):CallsD P f args.toArray u w fun e fr w'=>fr=(g0 u).2/\∃v aG,e= .returned v/\aG.R w'/\eW v aG:=by
 refine callsD_of_wpS aK ab fun tf cs aS=>?_
 have afT:=nm hlen
 have F2:fR N C (fun _=>0) ⟨g1 args,jA⟩ {tmps:=args.toArray++Array.replicate (fn.ntmps-args.toArray.size) undef,defers:=[]} w:=by
  refine⟨?_,hK.symm,fun t=>?_,(fun b ty cs h=>nomatch h),(fun b cu h _ _=>nomatch h),fun t b off h=>?_,c3⟩
  ·simp[eC];omega
  ·show _=cD.den _ (g1 args t)
   rw[sV]
   simp only[cD.den]
   rw[wH,Ef,DZ]
   split
   ·simp
   ·rename_i cc
    simp at cc
    rw[List.getElem?_eq_none cc,D0]
    split<;>rfl
  ·have h:g1 args t= .p b off:=h
   rw[sV] at h;cases h
 generalize({tmps:=args.toArray++Array.replicate (fn.ntmps-args.toArray.size) undef,defers:=[]}:Act)=s8 at F2|-
 have j2:=F2.put (nm xk) (.v (g0 u).1) (fun _ _ h=>by cases h)
 have lU:=j2.put (nm ga) (.v (g0 u).1) (fun _ _ h=>by cases h)
 have jW:(s8.put (some hI) (g0 u).1).eval (.tmp hI)=(g0 u).1:=by
  have:=j2.slot hI
  rw[show(bQ.mk (fm (g1 args) hI (.v (g0 u).1)) jA).s hI= .v (g0 u).1 from po _ _ _] at this
  exact this
 have main:∀gp,gp={tf with mode:=(g0 u).2}::cs->rest.wpS P (bodyPostS P fn tf cs fun e fr w'=>fr=(g0 u).2/\∃v aG,e= .returned v/\aG.R w'/\eW v aG) ((s8.put (some hI) (g0 u).1).put (some eK) (g0 u).1) gp w:=fun gp jV=>by
  refine wpS_of_wp (wp_mono (vg bX rest (vF bX jX rest aL) ⟨_,lU⟩ h) fun e ei w' bd=>?_)
  cases e with
  |normal=>obtain⟨aG,bo,⟨cq,r⟩,h⟩:=bd;obtain⟨aa,v,ag,a6⟩:=Aa bX r hK h;exact⟨aa,_,jV,v,ag,rfl,v,aG,rfl,r.rest,a6⟩
  |ret=>obtain⟨aG,bo,⟨cq,r⟩,h⟩:=bd;obtain⟨aa,v,ag,a6⟩:=Aa bX r hK h;exact⟨aa,_,jV,v,ag,rfl,v,aG,rfl,r.rest,a6⟩
  |_=>obtain⟨aG,bo,⟨cq,r⟩,h⟩:=bd;exact False.elim h
 refine wpS_seq (wpS_region ?_)
 have sF:∀a:Act,Region.wanted o1 (yielded #[o1,aQ] a.tmps)=true:=fun a=>by simp[Region.wanted,gX]
 have AV:∀a:Act,Region.wanted aQ (yielded #[o1,aQ] a.tmps)=true:=fun a=>by simp[Region.wanted,gr]
 have MS:(execOp s8.eval o1).run P w= .ok .recover w:=by simp[execOp,O,resolve,invoke,builtin]
 have agn:(execOp (s8.put (some hI) (g0 u).1).eval aQ).run P w= .ok (.value (g0 u).1) w:=by simp[execOp,V,jW]
 have second:∀gp,gp={tf with mode:=(g0 u).2}::cs->wpOpsS P #[o1,aQ] (Exit.thenS (rest.wpS P (bodyPostS P fn tf cs fun e fr w'=>fr=(g0 u).2/\∃v aG,e= .returned v/\aG.R w'/\eW v aG)) (bodyPostS P fn tf cs fun e fr w'=>fr=(g0 u).2/\∃v aG,e= .returned v/\aG.R w'/\eW v aG)) [1] (s8.put (some hI) (g0 u).1) gp w:=fun gp jV=>by
  unfold wpOpsS
  simp only[List.getElem?_toArray,List.getElem?_cons_succ,List.getElem?_cons_zero,AV,dm,agn]
  rw[Oper.upon_value,e2]
  exact main gp jV
 show wpOpsS P #[o1,aQ] _ [0,1] s8 (tf::cs) w
 unfold wpOpsS
 simp only[List.getElem?_toArray,List.getElem?_cons_zero,sF,dm,MS]
 rcases VL tf cs with aa|⟨aa,ag⟩
 ·rw[aa,e1,aS]
  exact second _ rfl
 ·rw[aa,e1]
  rw[aS] at ag
  have cR:(g0 u).1= .nilIface:=by rw[ag]
  have dR:(g0 u).2=u:=by rw[ag]
  rw[<-cR]
  refine second _ ?_
  rw[dR,<-aS]
structure Et(fn:Func)(hI eK:Nat)(rest:Code):Prop where
 out:∃id o1 aQ nM,fn.body=some (.seq (.region id #[o1,aQ] false) rest)/\o1.op= .call {callee:= .builtin .recover,args:=#[],argTypes:=nM}/\o1.guard=none/\o1.dst=some hI/\aQ.op= .assign (.tmp hI)/\aQ.guard=none/\aQ.dst=some eK
def Jk:Code->Code
 | .seq _ y=>y
 |c=>c
end
inductive aY where
 |cs (t:TypeId) (l:List Value)
 |row (t:TypeId) (sz:Nat) (l:List Value)
 |map (dW:List MapEntry) (clock:Nat)
def KB(w:World)(b:Nat)(t:TypeId)(sz n cap:Nat)(l:List Value):Prop:=∃cur:Array Value,w.heap[b]?=some (.cells cur t (0,0))/\cur.size=cap*sz/\cur.toList.take (n*sz)=l
def aY.ok(d:aY)(v:Value)(w:World):Prop:=match d with
 | .cs t l=> ∃b,v= ae b/\w.heap[b]?=some (.cells l.toArray t (0,0))
 | .row t sz l=> ∃A n cap,v= .slice A n cap/\l.length=n*sz/\n<=cap/\cap<=maxLen/\(cap=0\/∃b,A=some ⟨b,0,none⟩/\0<cap/\KB w b t sz n cap l)
 | .map dW clock=> ∃b,v= .map (some b)/\w.heap[b]?=some (.map dW.toArray clock)
def fH:Value->Option Nat
 | .pointer (some a)=>some a.block
 | .slice (some a) _ cap=>if cap=0 then none else some a.block
 | .map (some b)=>some b
 |_=>none
abbrev aw:=List (Value×aY)
def i4(M:aw):Nat->Prop:=fun k=>k∈M.filterMap fun e=>fH e.1
theorem aY.ok.oS{d:aY}{v:Value}{w:World}(h:d.ok v w){b:Nat}(ab:fH v=some b):b<w.heap.size:=by
 cases d with
 |cs t l=>
  obtain⟨cu,rfl,h⟩:=h
  simp only[fH,pD] at ab
  subst ab
  exact(oI.1 h).1
 |row t sz l=>
  obtain⟨A,n,cap,rfl,_,_,_,h⟩:=h
  rcases h with rfl|⟨cu,rfl,aT,cur,h,_⟩
  ·cases A<;>simp[fH] at ab
  ·have:¬cap=0:=by omega
   simp only[fH,this,cZ,pD] at ab
   subst ab
   exact(oI.1 h).1
 |map dW clock=>
  obtain⟨cu,rfl,h⟩:=h
  simp only[fH,pD] at ab
  subst ab
  exact(oI.1 h).1
theorem aY.ok.ee{d:aY}{v:Value}{w w':World}(h:d.ok v w)(U:∀b,fH v=some b->w'.heap[b]?=w.heap[b]?):d.ok v w':=by
 cases d with
 |cs t l=>
  obtain⟨cu,rfl,h⟩:=h
  exact⟨cu,rfl,(U cu rfl).trans h⟩
 |row t sz l=>
  obtain⟨A,n,cap,rfl,O,V,aa,h⟩:=h
  refine⟨A,n,cap,rfl,O,V,aa,?_⟩
  rcases h with rfl|⟨cu,rfl,aT,cur,h,ag⟩
  ·exact .inl rfl
  ·have:¬cap=0:=by omega
   exact .inr ⟨cu,rfl,aT,cur,(U cu (by simp[fH,this])).trans h,ag⟩
 |map dW clock=>
  obtain⟨cu,rfl,h⟩:=h
  exact⟨cu,rfl,(U cu rfl).trans h⟩
def HC:Obj:= .cells #[] 0 (0,0)
def lz(H:World)(k:Nat):Prop:=k<H.heap.size/\H.heap[k]?≠some HC
theorem lz.not{H w:World}(h:H.heap.size<=w.heap.size){b:Nat}(ab:w.heap.size<=b):¬lz H b:=fun eb=>absurd eb.1 S
theorem lz.of{H:World}{a:Addr}{v:Value}(h:H.cell? a=some v):lz H a.block:=by
 refine⟨World.block_lt_of_cell? H _ h,fun e=>?_⟩
 simp[World.cell?,e,HC] at h
structure dJ(H w0:World)(X:Nat->Prop)(M:aw)(w:World):Prop where
 os:w.os=w0.os
 tape:w.tape=w0.tape
 output:w.output=w0.output
 size:w0.heap.size<=w.heap.size
 fk:∀k,k<w0.heap.size->¬X k->w.heap[k]?=w0.heap[k]?
 nL:H.heap.size<=w.heap.size
 rj:∀k,lz H k->w.heap[k]?=H.heap[k]?
 new:∀e∈M,e.2.ok e.1 w
 ap:∀e∈M,∀b,fH e.1=some b->(w0.heap.size<=b\/X b)/\¬lz H b
 pc:(M.filterMap fun e=>fH e.1).Nodup
theorem qI{M:aw}{e:Value×aY}(af:e∈M){b:Nat}(ab:fH e.1=some b):i4 M b:=jc.2 ⟨e,af,ab⟩
def Y(H w0:World)(X:Nat->Prop)(M:aw):an where
 rn k:=lz H k\/(k<w0.heap.size/\¬X k)\/i4 M k
 R:=dJ H w0 X M
 lt w h k U:=by
  rcases U with U|U|U
  ·exact lB U.1 h.nL
  ·exact lB U.1 h.size
  ·obtain⟨e,af,ab⟩:=jc.1 U
   exact(h.new e af).oS ab
 wt w w' h ar b3 O V aa:=by
  refine⟨O.trans h.os,V.trans h.tape,aa.trans h.output,jr h.size b3,fun k U aW=>(ar k (.inr (.inl ⟨U,aW⟩))).trans (h.fk k U aW),jr h.nL b3,fun k U=>(ar k (.inl U)).trans (h.rj k U),fun e af=>(h.new e af).ee fun b ab=>ar b (.inr (.inr (qI af ab))),h.ap,h.pc⟩
theorem Y.start(w:World):(Y w w Dm []).R w:=⟨rfl,rfl,rfl,Nat.le_refl _,fun _ _ _=>rfl,Nat.le_refl _,fun _ _=>rfl,(fun e h=>nomatch h),(fun e h=>nomatch h),List.nodup_nil⟩
inductive uk:Value->aY->Value->aY->aw->aw->Prop where
 |here {v d dw d' M}:uk v d dw d' ((v,d)::M) ((dw,d')::M)
 |there {v d dw d' x M aE}:uk v d dw d' M aE->uk v d dw d' (x::M) (x::aE)
theorem uk.mem{v dw:Value}{d d':aY}{M aE:aw}(h:uk v d dw d' M aE):(v,d)∈M:=by
 induction h with
 |here=>exact .head _
 |there _ cy=>exact .tail _ cy
theorem uk.sL{v dw:Value}{d d':aY}{M aE:aw}(h:uk v d dw d' M aE):∀e∈aE,e=(dw,d')\/e∈M:=by
 induction h with
 |here=>intro e af;cases af with
  |head=>exact .inl rfl
  |tail _ af=>exact .inr (.tail _ af)
 |there _ cy=>intro e af;cases af with
  |head=>exact .inr (.head _)
  |tail _ af=>exact(cy e af).imp id (fun h=> .tail _ h)
section
variable{H w0:World}{X:Nat->Prop}{M aE:aw}
theorem uk.apart{v dw:Value}{d d':aY}(h:uk v d dw d' M aE)(aB:(M.filterMap fun e=>fH e.1).Nodup){B:Nat}(cc:∀e∈M,∀b,fH e.1=some b->b<B)(ah:∀b,fH dw=some b->fH v=some b\/B<=b):
  (aE.filterMap fun e=>fH e.1).Nodup/\∀e∈aE,e=(dw,d')\/(e∈M/\∀b,fH e.1=some b->fH v≠some b):=by
 induction h with
 | @here M=>
  simp only[GO] at aB|-
  have b9:(M.filterMap fun e=>fH e.1).Nodup:=by
   cases e:fH v with
   |none=>simpa[e] using aB
   |some b=>simp only[e,yi] at aB;exact aB.2
  refine⟨?_,fun e af=>?_⟩
  ·cases hJ:fH dw with
   |none=>simpa using b9
   |some cu=>
    simp only[yi]
    refine⟨fun ad=>?_,b9⟩
    obtain⟨e,af,ab⟩:=jc.1 ad
    rcases ah cu hJ with O|O
    ·simp only[O,yi] at aB;exact aB.1 ad
    ·have:=cc e (.tail _ af) cu ab;omega
  ·cases af with
   |head=>exact .inl rfl
   |tail _ af=>
    refine .inr ⟨.tail _ af,fun b ab uN=>?_⟩
    simp only[uN,yi] at aB
    exact aB.1 (jc.2 ⟨e,af,ab⟩)
 | @there x M aE h cy=>
  simp only[GO] at aB|-
  have b9:(M.filterMap fun e=>fH e.1).Nodup:=by
   cases e:fH x.1 with
   |none=>simpa[e] using aB
   |some b=>simp only[e,yi] at aB;exact aB.2
  obtain⟨O,V⟩:=cy b9 (fun e af=>cc e (.tail _ af))
  refine⟨?_,fun e af=>?_⟩
  ·cases hJ:fH x.1 with
   |none=>simpa using O
   |some cu=>
    simp only[yi]
    refine⟨fun ad=>?_,O⟩
    obtain⟨e,af,ab⟩:=jc.1 ad
    simp only[hJ,yi] at aB
    rcases V e af with rfl|⟨aa,_⟩
    ·rcases ah cu ab with ag|ag
     ·exact aB.1 (jc.2 ⟨_,h.mem,ag⟩)
     ·have:=cc x (.head _) cu hJ;omega
    ·exact aB.1 (jc.2 ⟨e,aa,ab⟩)
  ·cases af with
   |head=>
    refine .inr ⟨.head _,fun b ab uN=>?_⟩
    simp only[ab,yi] at aB
    exact aB.1 (jc.2 ⟨_,h.mem,uN⟩)
   |tail _ af=>exact(V e af).imp id fun⟨aa,ag⟩=>⟨.tail _ aa,ag⟩
theorem yS{w w':World}(au:dJ H w0 X M w){v dw:Value}{d d':aY}(aS:uk v d dw d' M aE)(aU:w'.os=w.os)(bs:w'.tape=w.tape)(bh:w'.output=w.output)(b3:w.heap.size<=w'.heap.size)(ar:∀k,k<w.heap.size->fH v≠some k->w'.heap[k]?=w.heap[k]?)(aL:d'.ok dw w')(ah:∀b,fH dw=some b->fH v=some b\/w.heap.size<=b):
  iJ (Y H w0 X M) w (Y H w0 X aE) w'/\(Y H w0 X aE).R w':=by
 have vT:=aS.mem
 have cc:∀e∈M,∀b,fH e.1=some b->b<w.heap.size:=fun e af b ab=>(au.new e af).oS ab
 obtain⟨pU,sp⟩:=aS.apart au.pc cc ah
 have MB:∀k,fH v=some k->(w0.heap.size<=k\/X k)/\¬lz H k:=fun k U=>au.ap _ vT k U
 refine⟨⟨b3,fun k U aB=>ar k U fun e=>aB (.inr (.inr (qI vT e))),fun k U=>?_⟩,aU.trans au.os,bs.trans au.tape,bh.trans au.output,jr au.size b3,fun k U aW=>?_,jr au.nL b3,fun k U=>?_,fun e af=>?_,fun e af b ab=>?_,pU⟩
 ·rcases U with U|U|U
  ·exact .inl (.inl U)
  ·exact .inl (.inr (.inl U))
  ·obtain⟨e,af,ab⟩:=jc.1 U
   rcases sp e af with rfl|⟨O,_⟩
   ·rcases ah k ab with V|V
    ·exact .inl (.inr (.inr (qI vT V)))
    ·exact .inr V
   ·exact .inl (.inr (.inr (qI O ab)))
 ·refine(ar k (lB U au.size) fun e=>?_).trans (au.fk k U aW)
  rcases(MB k e).1 with O|O
  ·omega
  ·exact aW O
 ·exact(ar k (lB U.1 au.nL) fun e=>(MB k e).2 U).trans (au.rj k U)
 ·rcases sp e af with rfl|⟨O,V⟩
  ·exact aL
  ·exact(au.new e O).ee fun b ab=>ar b (cc e O b ab) (V b ab)
 ·rcases sp e af with rfl|⟨O,V⟩
  ·rcases ah b ab with aa|aa
   ·exact MB b aa
   ·exact⟨.inl (jr au.size aa),lz.not au.nL aa⟩
  ·exact au.ap e O b ab
theorem FG{w w':World}(au:dJ H w0 X M w){v:Value}{d:aY}(aU:w'.os=w.os)(bs:w'.tape=w.tape)(bh:w'.output=w.output)(b3:w.heap.size<=w'.heap.size)(ar:∀k,k<w.heap.size->w'.heap[k]?=w.heap[k]?)(aL:d.ok v w')(ah:∀b,fH v=some b->w.heap.size<=b):
  iJ (Y H w0 X M) w (Y H w0 X ((v,d)::M)) w'/\(Y H w0 X ((v,d)::M)).R w':=by
 have cc:∀e∈M,∀b,fH e.1=some b->b<w.heap.size:=fun e af b ab=>(au.new e af).oS ab
 refine⟨⟨b3,fun k U _=>ar k U,fun k U=>?_⟩,aU.trans au.os,bs.trans au.tape,bh.trans au.output,jr au.size b3,fun k U aW=>(ar k (lB U au.size)).trans (au.fk k U aW),jr au.nL b3,fun k U=>(ar k (lB U.1 au.nL)).trans (au.rj k U),fun e af=>?_,fun e af b ab=>?_,?_⟩
 ·rcases U with U|U|U
  ·exact .inl (.inl U)
  ·exact .inl (.inr (.inl U))
  ·obtain⟨e,af,ab⟩:=jc.1 U
   cases af with
   |head=>exact .inr (ah k ab)
   |tail _ af=>exact .inl (.inr (.inr (qI af ab)))
 ·cases af with
  |head=>exact aL
  |tail _ af=>exact(au.new e af).ee fun b ab=>ar b (cc e af b ab)
 ·cases af with
  |head=>have:=ah b ab;exact⟨.inl (jr au.size this),lz.not au.nL this⟩
  |tail _ af=>exact au.ap e af b ab
 ·simp only[GO]
  cases e:fH v with
  |none=>exact au.pc
  |some b=>
   simp only[yi]
   refine⟨fun ad=>?_,au.pc⟩
   obtain⟨hJ,af,ab⟩:=jc.1 ad
   have O:=cc hJ af b ab
   have V:=ah b e
   omega
end
theorem dJ.drop{H w0:World}{X:Nat->Prop}{M aE:aw}{w:World}(h:dJ H w0 X M w)(ar:List.Sublist aE M):dJ H w0 X aE w:=
 ⟨h.os,h.tape,h.output,h.size,h.fk,h.nL,h.rj,fun e af=>h.new e (ar.subset af),fun e af=>h.ap e (ar.subset af),h.pc.sublist (ar.filterMap _)⟩
section
variable{P:Program}{H w0:World}{X:Nat->Prop}{M:aw}
theorem dJ.self{w:World}(h:dJ H w0 X M w):dJ H w (i4 M) M w:=⟨rfl,rfl,rfl,Nat.le_refl _,fun _ _ _=>rfl,h.nL,h.rj,h.new,fun e af b ab=>⟨.inr (qI af ab),(h.ap e af b ab).2⟩,h.pc⟩
theorem dJ.UA{w:World}(h:dJ H w0 X M w){k:Nat}(U:k<w0.heap.size)(aW:¬X k):¬i4 M k:=fun ad=>by
 obtain⟨e,af,ab⟩:=jc.1 ad
 rcases(h.ap e af k ab).1 with O|O
 ·omega
 ·exact aW O
theorem acz{be az:World}{dz:aw}(O:dJ H w0 X M be)(V:dJ H be (i4 M) dz az):iJ (Y H w0 X M) be (Y H w0 X dz) az/\dJ H w0 X dz az:=by
 refine⟨⟨V.size,fun k U aB=>V.fk k U fun ad=>aB (.inr (.inr ad)),fun k U=>?_⟩,V.os.trans O.os,V.tape.trans O.tape,V.output.trans O.output,jr O.size V.size,fun k U aW=>?_,V.nL,V.rj,V.new,fun e af b ab=>⟨?_,(V.ap e af b ab).2⟩,V.pc⟩
 ·rcases U with U|U|U
  ·exact .inl (.inl U)
  ·exact .inl (.inr (.inl U))
  ·obtain⟨e,af,ab⟩:=jc.1 U
   rcases(V.ap e af k ab).1 with aa|aa
   ·exact .inr aa
   ·exact .inl (.inr (.inr aa))
 ·exact(V.fk k (lB U O.size) (O.UA U aW)).trans (O.fk k U aW)
 ·rcases(V.ap e af b ab).1 with aa|aa
  ·exact .inl (jr O.size aa)
  ·obtain⟨hJ,xm,dQ⟩:=jc.1 aa
   exact(O.ap hJ xm b dQ).1
structure aJ(M aE:aw):Prop where
 on:∀H w0 X w,dJ H w0 X M w->dJ H w0 X aE w
 keys:∀k,i4 aE k->i4 M k
theorem aJ.refl(M:aw):aJ M M:=⟨fun _ _ _ _ h=>h,fun _ h=>h⟩
theorem aJ.trans{M aE B6:aw}(h:aJ M aE)(ak:aJ aE B6):aJ M B6:=⟨fun _ _ _ _ O=>ak.on _ _ _ _ (h.on _ _ _ _ O),fun k U=>h.keys k (ak.keys k U)⟩
theorem aJ.sub{M aE:aw}(h:List.Sublist aE M):aJ M aE:=⟨fun _ _ _ _ O=>O.drop h,fun k U=>(h.filterMap _).subset U⟩
theorem aJ.perm{M aE:aw}(h:List.Perm M aE):aJ M aE:=⟨fun _ _ _ _ O=>
 ⟨O.os,O.tape,O.output,O.size,O.fk,O.nL,O.rj,fun e af=>O.new e (h.mem_iff.2 af),fun e af=>O.ap e (h.mem_iff.2 af),(h.filterMap _).nodup_iff.1 O.pc⟩,fun k U=>(h.filterMap _).mem_iff.2 U⟩
theorem aJ.nil(M:aw)(A:Option Addr)(e:TypeId)(sz:Nat):aJ M ((.slice A 0 0,.row e sz [])::M):=by
 have ab:fH (.slice A 0 0)=none:=by cases A<;>simp[fH]
 refine⟨fun _ _ _ _ O=>⟨O.os,O.tape,O.output,O.size,O.fk,O.nL,O.rj,fun e af=>?_,fun e af b dQ=>?_,?_⟩,fun k U=>?_⟩
 ·cases af with
  |head=>exact⟨A,0,0,rfl,by simp,Nat.le_refl _,cY _,.inl rfl⟩
  |tail _ af=>exact O.new e af
 ·cases af with
  |head=>rw[ab] at dQ;cases dQ
  |tail _ af=>exact O.ap e af b dQ
 ·simp only[GO,ab];exact O.pc
 ·unfold i4 at U|-
  simpa only[GO,ab] using U
theorem aJ.cons{M aE:aw}(x:Value×aY)(h:List.Sublist aE M):aJ (x::M) (x::aE):=aJ.sub (h.cons_cons x)
structure hy(H w0:World)(X:Nat->Prop)(be:World)(bM:Nat->Prop)(K:Value->an->Prop)(v:Value)(C:an):Prop where
 out:∃dz eX,C=Y H be bM dz/\aJ dz eX/\K v (Y H w0 X eX)
structure pE(H w0:World)(X:Nat->Prop)(be:World)(bM:Nat->Prop)(Z:bF)(ch:List PanicEntry)(C:an):Prop where
 out:∃dz eX,C=Y H be bM dz/\aJ dz eX/\Z ch (Y H w0 X eX)
theorem hy.go{be:World}{bM:Nat->Prop}{K:Value->an->Prop}{v:Value}{dz:aw}(h:K v (Y H w0 X dz)):hy H w0 X be bM K v (Y H be bM dz):=⟨dz,dz,rfl,aJ.refl _,h⟩
theorem pE.go{be:World}{bM:Nat->Prop}{Z:bF}{ch:List PanicEntry}{dz:aw}(h:Z ch (Y H w0 X dz)):pE H w0 X be bM Z ch (Y H be bM dz):=⟨dz,dz,rfl,aJ.refl _,h⟩
theorem hy.imp{be:World}{bM:Nat->Prop}{K:Value->an->Prop}{v:Value}{dz:aw}(eX:aw)(ar:aJ dz eX)(h:K v (Y H w0 X eX)):hy H w0 X be bM K v (Y H be bM dz):=⟨dz,eX,rfl,ar,h⟩
theorem pE.imp{be:World}{bM:Nat->Prop}{Z:bF}{ch:List PanicEntry}{dz:aw}(eX:aw)(ar:aJ dz eX)(h:Z ch (Y H w0 X eX)):pE H w0 X be bM Z ch (Y H be bM dz):=⟨dz,eX,rfl,ar,h⟩
theorem hy.drop{be:World}{bM:Nat->Prop}{K:Value->an->Prop}{v:Value}{dz:aw}(eX:aw)(ar:List.Sublist eX dz)(h:K v (Y H w0 X eX)):hy H w0 X be bM K v (Y H be bM dz):=⟨dz,eX,rfl,aJ.sub ar,h⟩
theorem pE.drop{be:World}{bM:Nat->Prop}{Z:bF}{ch:List PanicEntry}{dz:aw}(eX:aw)(ar:List.Sublist eX dz)(h:Z ch (Y H w0 X eX)):pE H w0 X be bM Z ch (Y H be bM dz):=⟨dz,eX,rfl,aJ.sub ar,h⟩
theorem dJ.rr{be az:World}{dz eX:aw}(O:dJ H w0 X M be)(V:dJ H be (i4 M) dz az)(ar:aJ dz eX):iJ (Y H w0 X M) be (Y H w0 X eX) az/\dJ H w0 X eX az:=acz O (ar.on _ _ _ _ V)
variable{T:List (Nat×c5)}{D:Nat->fx}
theorem ahf (bX:gO P T) (jX:P.follows .mixedOrders=true) {f:FuncId} {fn:Func} (n:Nat) (yt:Nat->Bool) (af:oa P f) (aK:P.funcs[f]?=some fn) (ab:fn.body.isNone=false) (eC:fn.ntmps=n) (aL:iW D (fn.body.getD .skip)=true) {args:List Value} (hlen:Nat.ble args.length n=true) {K:Value->an->Prop} {Z:bF}
  (h:∀be bM,hv P T {n:=n,esc:=yt} D (fn.body.getD .skip) (Y H be bM M) ⟨g1 args,jA⟩ (lD P T fn (hy H w0 X be bM K)) (mV P T fn (hy H w0 X be bM K) (pE H w0 X be bM Z))):ay P (Y H w0 X M) f args.toArray K Z:=by
 constructor
 refine⟨af,fun w au=>?_⟩
 cases e:fn.body with
 |none=>rw[e] at ab;cases ab
 |some c=>
  have h:=h w (i4 M)
  rw[e] at h aL
  refine(Q3 bX aK e eC rfl hlen (vF bX jX c aL) (Y H w (i4 M) M) au.self h).mono fun e az eb=>?_
  rcases eb with⟨v,aG,O,V,⟨dz,eX,rfl,ar,aa⟩⟩|⟨ch,aG,O,V,⟨dz,eX,rfl,ar,aa⟩⟩
  ·obtain⟨ag,a6⟩:=au.rr V ar
   exact .inl ⟨v,_,O,ag,a6,aa⟩
  ·obtain⟨ag,a6⟩:=au.rr V ar
   exact .inr ⟨ch,_,O,ag,a6,aa⟩
structure cd(H w0:World)(X:Nat->Prop)(be:World)(bM:Nat->Prop)(K:Value->an->Prop)(v:Value)(C:an):Prop where
 out:hy H w0 X be bM K v C
structure ia(H w0:World)(X:Nat->Prop)(be:World)(bM:Nat->Prop)(Z:bF)(ch:List PanicEntry)(C:an):Prop where
 out:pE H w0 X be bM Z ch C
theorem cd.imp{be:World}{bM:Nat->Prop}{K:Value->an->Prop}{v:Value}{dz:aw}(eX:aw)(ar:aJ dz eX)(h:K v (Y H w0 X eX)):cd H w0 X be bM K v (Y H be bM dz):=⟨⟨dz,eX,rfl,ar,h⟩⟩
theorem ia.imp{be:World}{bM:Nat->Prop}{Z:bF}{ch:List PanicEntry}{dz:aw}(eX:aw)(ar:aJ dz eX)(h:Z ch (Y H w0 X eX)):ia H w0 X be bM Z ch (Y H be bM dz):=⟨⟨dz,eX,rfl,ar,h⟩⟩
theorem cd.drop{be:World}{bM:Nat->Prop}{K:Value->an->Prop}{v:Value}{dz:aw}(eX:aw)(ar:List.Sublist eX dz)(h:K v (Y H w0 X eX)):cd H w0 X be bM K v (Y H be bM dz):=⟨⟨dz,eX,rfl,aJ.sub ar,h⟩⟩
theorem ia.drop{be:World}{bM:Nat->Prop}{Z:bF}{ch:List PanicEntry}{dz:aw}(eX:aw)(ar:List.Sublist eX dz)(h:Z ch (Y H w0 X eX)):ia H w0 X be bM Z ch (Y H be bM dz):=⟨⟨dz,eX,rfl,aJ.sub ar,h⟩⟩
theorem ahg (bX:gO P T) (jX:P.follows .mixedOrders=true) {f:FuncId} {fn:Func} (n:Nat) (yt:Nat->Bool) (af:oa P f) (aK:P.funcs[f]?=some fn) (ab:fn.body.isNone=false) (eC:fn.ntmps=n) (aL:iW D (fn.body.getD .skip)=true) {args:List Value} (hlen:Nat.ble args.length n=true) {K:Value->an->Prop} {Z:bF}
  (h:∀be bM,hv P T {n:=n,esc:=yt} D (fn.body.getD .skip) (Y H be bM M) ⟨g1 args,jA⟩ (lD P T fn (cd H w0 X be bM K)) (mV P T fn (cd H w0 X be bM K) (ia H w0 X be bM Z))):ay P (Y H w0 X M) f args.toArray K Z:=by
 constructor
 refine⟨af,fun w au=>?_⟩
 cases e:fn.body with
 |none=>rw[e] at ab;cases ab
 |some c=>
  have h:=h w (i4 M)
  rw[e] at h aL
  refine(Q3 bX aK e eC rfl hlen (vF bX jX c aL) (Y H w (i4 M) M) au.self h).mono fun e az eb=>?_
  rcases eb with⟨v,aG,O,V,⟨⟨dz,eX,rfl,ar,aa⟩⟩⟩|⟨ch,aG,O,V,⟨⟨dz,eX,rfl,ar,aa⟩⟩⟩
  ·obtain⟨ag,a6⟩:=au.rr V ar
   exact .inl ⟨v,_,O,ag,a6,aa⟩
  ·obtain⟨ag,a6⟩:=au.rr V ar
   exact .inr ⟨ch,_,O,ag,a6,aa⟩
theorem ahh (bX:gO P T) (jX:P.follows .mixedOrders=true) {f:FuncId} {fn:Func} (n:Nat) (yt:Nat->Bool) (af:oa P f) (aK:P.funcs[f]?=some fn) (ab:fn.body.isNone=false) (eC:fn.ntmps=n) (aL:iW D (fn.body.getD .skip)=true) {args:List Value} (hlen:Nat.ble args.length n=true) {K:Value->an->Prop} {Z:bF}
  (h:∀be bM,wA P T {n:=n,esc:=yt} D (fn.body.getD .skip) (Y H be bM M) ⟨g1 args,jA⟩ (Ly P T fn (cd H w0 X be bM K) (ia H w0 X be bM Z)) (Lx P T fn (cd H w0 X be bM K) (ia H w0 X be bM Z))):ay P (Y H w0 X M) f args.toArray K Z:=by
 constructor
 refine⟨af,fun w au=>?_⟩
 cases e:fn.body with
 |none=>rw[e] at ab;cases ab
 |some c=>
  have h:=h w (i4 M)
  rw[e] at h aL
  refine(ab6 bX aK e eC rfl hlen (fun N=>vF bX jX c aL) (Y H w (i4 M) M) au.self h).mono fun e az eb=>?_
  rcases eb with⟨v,aG,O,V,⟨⟨dz,eX,rfl,ar,aa⟩⟩⟩|⟨ch,aG,O,V,⟨⟨dz,eX,rfl,ar,aa⟩⟩⟩
  ·obtain⟨ag,a6⟩:=au.rr V ar
   exact .inl ⟨v,_,O,ag,a6,aa⟩
  ·obtain⟨ag,a6⟩:=au.rr V ar
   exact .inr ⟨ch,_,O,ag,a6,aa⟩
theorem acY (bX:gO P T) (jX:P.follows .mixedOrders=true) {f:FuncId} {fn:Func} (n:Nat) (yt:Nat->Bool) {hI eK:Nat} {rest:Code} (af:oa P f) (aK:P.funcs[f]?=some fn) (ab:Et fn hI eK rest) (eC:fn.ntmps=n) (xk:Nat.blt hI n=true) (ga:Nat.blt eK n=true) (aL:iW D rest=true) {d:Deferred} {args:List Value} (hlen:Nat.ble args.length n=true) {u:FrameMode} {K:FrameMode->an->Prop} {cap:Array Value} (bs:d.target= .fn (.func f) cap) (a8:d.args++cap=args.toArray)
  (h:∀be bM,hv P T {n:=n,esc:=yt} D rest (Y H be bM M) ⟨fm (fm (g1 args) hI (.v (g0 u).1)) eK (.v (g0 u).1),jA⟩ (lD P T fn (hy H w0 X be bM fun _ C=>K (g0 u).2 C)) (mV P T fn (hy H w0 X be bM fun _ C=>K (g0 u).2 C) fun _ _=>False)):h0 P (Y H w0 X M) d u K:=by
 obtain⟨id,o1,aQ,nM,wY,b1,b2,du,dv,eu,i2⟩:=ab.out
 constructor
 intro w au
 refine⟨_,cap,f,args.toArray,bs,?_,?_⟩
 ·rw[bs]
  show(callFunc f (d.args++cap)).run P w=_
  rw[a8]
  exact af _ _
 ·have:=ab1 bX jX {n:=n,esc:=yt} aK wY eC rfl b1 b2 du dv eu i2 xk ga hlen aL (C:=Y H w (i4 M) M) au.self u (h w (i4 M))
  intro c cs aj
  obtain⟨e,fr,w',jR,⟨aS,v,aG,O,V,⟨dz,eX,rfl,ar,aa⟩⟩,ag⟩:=this c cs aj
  obtain⟨a6,bU⟩:=au.rr V ar
  exact⟨e,fr,w',jR,⟨v,_,O,a6,bU,aS▸aa⟩,ag⟩
end
def EV(sz:Nat):List Value->List (Nat×Value)->(List Value->Prop)->Prop
 |cs,[],K=>K cs
 |cs,(i,v)::l,K=>nr v fun vs=>jO (Nat.beq vs.length sz&&Nat.ble (i*sz+vs.length) cs.length) (km (hf cs (i*sz) vs) fun gp=>EV sz gp l K)
theorem LN{sz:Nat}:∀{ps:List (Nat×Value)} {cs:List Value} {K:List Value->Prop},EV sz cs ps K->∃gp,Instr.fill (fun i=>some (i*sz,sz)) cs.toArray ps=some gp.toArray/\K gp
 |[],cs,K,h=>⟨cs,rfl,h⟩
 |(i,v)::ps,cs,K,h=>by
  unfold EV at h
  have O:=An h
  obtain⟨V,aa⟩:=oj O
  rw[mI] at aa
  obtain⟨gp,ag,a6⟩:=LN aa
  refine⟨gp,?_,a6⟩
  simp only[e3] at V
  have ai:=mA V.1
  have ab:=nm V.2
  simp only[D2] at ai ab
  simp only[Instr.fill,ai,ne_eq,not_true_eq_false,decide_false,wI,List.size_toArray]
  rw[if_neg (by simp;omega)]
  have e1:v.cells.zipIdx.foldl (fun cs (x:Value×Nat)=>match x with|(c,j)=>cs.setIfInBounds (i*sz+j) c) cs.toArray=(hf cs (i*sz) v.cells.toList).toArray:=by
   have:=LO v.cells.toList cs (i*sz) 0
   rw[vp] at this
   rw[<-this,<-Array.foldl_toList,Array.toList_zipIdx]
  rw[e1]
  simpa using ag
section
variable{P:Program}{w0:World}{X:Nat->Prop}{M:z2}
end
end Go.Proofs.YtcflcebplhdcpaaGreat
