/- Lemmas, part 8; each states its own conditions. -/
import Derived.Scope
import Derived.Test.YtcflcebplhdcpaaGreatL6
import Derived.Test.YtcflcebplhdcpaaGreatL7
namespace Go.Proofs.YtcflcebplhdcpaaGreat
open Go.RowKit
set_option linter.unusedSimpArgs false
set_option linter.unusedVariables false
set_option maxRecDepth 100000
set_option maxHeartbeats 16000000
def D7(_:Nat):fx:= .done
structure vl(P:Program)(f:FuncId)(fn:Func)(n:Nat)(X:List Nat)(D:Nat->fx):Type where
 dg:oa P f
 mh:P.funcs[f]?=some fn
 jt:fn.body.isNone=false
 ec:fn.ntmps=n
 oo:iW D (fn.body.getD .skip)=true
section
variable{P:Program}{T:List (Nat×c5)}{D:Nat->fx}{f:FuncId}{fn:Func}{n:Nat}{ix:List Nat}{H w0:World}{X:Nat->Prop}{M:aw}{K:Value->an->Prop}{Z:bF}
theorem ab2 (bX:gO P T) (jX:P.follows .mixedOrders=true) (N:gI) {id hI:Nat} {o1:Oper} {nM:Array TypeId} {rest:Code} {w:World} {C:an} (aK:P.funcs[f]?=some fn) (ab:fn.body=some (.seq (.region id #[o1] false) rest)) (eC:fn.ntmps=N.n) (hK:N.ds=[])
  (O:o1.op= .call {callee:= .builtin .recover,args:=#[],argTypes:=nM}) (gX:o1.guard=none) (e1:o1.dst=some hI) (xk:Nat.blt hI N.n=true)
  {args:List Value} (hlen:Nat.ble args.length N.n=true) (aL:iW D rest=true) (c3:C.R w) (u:FrameMode) {eW:Value->an->Prop}
  (h:hv P T N D rest C ⟨fm (g1 args) hI (.v (g0 u).1),jA⟩ (lD P T fn eW) (mV P T fn eW fun _ _=>False)):CallsD P f args.toArray u w fun e fr w'=>fr=(g0 u).2/\∃v aG,e= .returned v/\aG.R w'/\eW v aG:=by
 refine callsD_of_wpS aK ab fun tf cs aS=>?_
 have afT:=nm hlen
 have F2:fR N C (fun _=>0) ⟨g1 args,jA⟩ {tmps:=args.toArray++Array.replicate (fn.ntmps-args.toArray.size) undef,defers:=[]} w:=by
  refine⟨?_,hK.symm,fun t=>?_,(fun b ty cs h=>nomatch h),(fun b cu h _ _=>nomatch h),fun t b off h=>?_,c3⟩
  ·simp[eC];omega
  ·show _=cD.den _ (g1 args t)
   rw[sV]
   simp only[cD.den]
   rw[wH,Ef,DZ]
   split
   ·simp
   ·rename_i cc
    simp at cc
    rw[List.getElem?_eq_none cc,D0]
    split<;>rfl
  ·have h:g1 args t= .p b off:=h
   rw[sV] at h;cases h
 generalize({tmps:=args.toArray++Array.replicate (fn.ntmps-args.toArray.size) undef,defers:=[]}:Act)=s8 at F2|-
 have j2:=F2.put (nm xk) (.v (g0 u).1) (fun _ _ h=>by cases h)
 have main:∀gp,gp={tf with mode:=(g0 u).2}::cs->rest.wpS P (bodyPostS P fn tf cs fun e fr w'=>fr=(g0 u).2/\∃v aG,e= .returned v/\aG.R w'/\eW v aG) (s8.put (some hI) (g0 u).1) gp w:=fun gp jV=>by
  refine wpS_of_wp (wp_mono (vg bX rest (vF bX jX rest aL) ⟨_,j2⟩ h) fun e ei w' bd=>?_)
  cases e with
  |normal=>obtain⟨aG,bo,⟨cq,r⟩,h⟩:=bd;obtain⟨aa,v,ag,a6⟩:=Aa bX r hK h;exact⟨aa,_,jV,v,ag,rfl,v,aG,rfl,r.rest,a6⟩
  |ret=>obtain⟨aG,bo,⟨cq,r⟩,h⟩:=bd;obtain⟨aa,v,ag,a6⟩:=Aa bX r hK h;exact⟨aa,_,jV,v,ag,rfl,v,aG,rfl,r.rest,a6⟩
  |_=>obtain⟨aG,bo,⟨cq,r⟩,h⟩:=bd;exact False.elim h
 refine wpS_seq (wpS_region ?_)
 have sF:∀a:Act,Region.wanted o1 (yielded #[o1] a.tmps)=true:=fun a=>by simp[Region.wanted,gX]
 have MS:(execOp s8.eval o1).run P w= .ok .recover w:=by simp[execOp,O,resolve,invoke,builtin]
 show wpOpsS P #[o1] _ [0] s8 (tf::cs) w
 unfold wpOpsS
 simp only[List.getElem?_toArray,List.getElem?_cons_zero,sF,dm,MS]
 rcases VL tf cs with aa|⟨aa,ag⟩
 ·rw[aa,e1,aS]
  exact main _ rfl
 ·rw[aa,e1]
  rw[aS] at ag
  have cR:(g0 u).1= .nilIface:=by rw[ag]
  have dR:(g0 u).2=u:=by rw[ag]
  rw[<-cR]
  refine main _ ?_
  rw[dR,<-aS]
structure Qp(fn:Func)(hI:Nat)(rest:Code):Prop where
 out:∃id o1 nM,fn.body=some (.seq (.region id #[o1] false) rest)/\o1.op= .call {callee:= .builtin .recover,args:=#[],argTypes:=nM}/\o1.guard=none/\o1.dst=some hI
theorem ahr(bX:gO P T)(jX:P.follows .mixedOrders=true)(k:vl P f fn n ix D){args:List Value}(hlen:Nat.ble args.length n=true)(h:∀be bM,hv P T {n:=n,esc:=mG ix} D (fn.body.getD .skip) (Y H be bM M) ⟨g1 args,jA⟩ (lD P T fn (cd H w0 X be bM K)) (mV P T fn (cd H w0 X be bM K) (ia H w0 X be bM Z))):ay P (Y H w0 X M) f args.toArray K Z:=
 ahg bX jX n (mG ix) k.dg k.mh k.jt k.ec k.oo hlen h
theorem ag6(bX:gO P T)(jX:P.follows .mixedOrders=true)(k:vl P f fn n ix D){args:List Value}(hlen:Nat.ble args.length n=true)(h:∀be bM,hv P T {n:=n,esc:=mG ix} D (fn.body.getD .skip) (Y H be bM M) ⟨g1 args,jA⟩ (lD P T fn (hy H w0 X be bM K)) (mV P T fn (hy H w0 X be bM K) (pE H w0 X be bM Z))):ay P (Y H w0 X M) f args.toArray K Z:=
 ahf bX jX n (mG ix) k.dg k.mh k.jt k.ec k.oo hlen h
theorem sH(bX:gO P T)(jX:P.follows .mixedOrders=true)(k:vl P f fn n ix D){args:List Value}(hlen:Nat.ble args.length n=true)(h:∀be bM,wA P T {n:=n,esc:=mG ix} D (fn.body.getD .skip) (Y H be bM M) ⟨g1 args,jA⟩ (Ly P T fn (cd H w0 X be bM K) (ia H w0 X be bM Z)) (Lx P T fn (cd H w0 X be bM K) (ia H w0 X be bM Z))):ay P (Y H w0 X M) f args.toArray K Z:=
 ahh bX jX n (mG ix) k.dg k.mh k.jt k.ec k.oo hlen h
theorem yI (bX:gO P T) (jX:P.follows .mixedOrders=true) (k:vl P f fn n ix D) {hI:Nat} {rest:Code} (ab:Qp fn hI rest) (xk:Nat.blt hI n=true) (aL:iW D rest=true) {d:Deferred} {args:List Value} (hlen:Nat.ble args.length n=true) {u:FrameMode} {K:FrameMode->an->Prop} {cap:Array Value} (bs:d.target= .fn (.func f) cap) (a8:d.args++cap=args.toArray)
  (h:∀be bM,hv P T {n:=n,esc:=mG ix} D rest (Y H be bM M) ⟨fm (g1 args) hI (.v (g0 u).1),jA⟩ (lD P T fn (hy H w0 X be bM fun _ C=>K (g0 u).2 C)) (mV P T fn (hy H w0 X be bM fun _ C=>K (g0 u).2 C) fun _ _=>False)):h0 P (Y H w0 X M) d u K:=by
 obtain⟨id,o1,nM,wY,b1,b2,du⟩:=ab.out
 constructor
 intro w au
 refine⟨_,cap,f,args.toArray,bs,?_,?_⟩
 ·rw[bs]
  show(callFunc f (d.args++cap)).run P w=_
  rw[a8]
  exact k.dg _ _
 ·have:=ab2 bX jX {n:=n,esc:=mG ix} k.mh wY k.ec rfl b1 b2 du xk hlen aL (C:=Y H w (i4 M) M) au.self u (h w (i4 M))
  intro c cs aj
  obtain⟨e,fr,w',jR,⟨aS,v,aG,O,V,⟨dz,eX,rfl,ar,aa⟩⟩,ag⟩:=this c cs aj
  obtain⟨a6,bU⟩:=au.rr V ar
  exact⟨e,fr,w',jR,⟨v,_,O,a6,bU,aS▸aa⟩,ag⟩
theorem Co (bX:gO P T) (jX:P.follows .mixedOrders=true) (k:vl P f fn n ix D) {hI eK:Nat} {rest:Code} (ab:Et fn hI eK rest) (xk:Nat.blt hI n=true) (ga:Nat.blt eK n=true) (aL:iW D rest=true) {d:Deferred} {args:List Value} (hlen:Nat.ble args.length n=true) {u:FrameMode} {K:FrameMode->an->Prop} {cap:Array Value} (bs:d.target= .fn (.func f) cap) (a8:d.args++cap=args.toArray)
  (h:∀be bM,hv P T {n:=n,esc:=mG ix} D rest (Y H be bM M) ⟨fm (fm (g1 args) hI (.v (g0 u).1)) eK (.v (g0 u).1),jA⟩ (lD P T fn (hy H w0 X be bM fun _ C=>K (g0 u).2 C)) (mV P T fn (hy H w0 X be bM fun _ C=>K (g0 u).2 C) fun _ _=>False)):h0 P (Y H w0 X M) d u K:=
 acY bX jX n (mG ix) k.dg k.mh ab k.ec xk ga aL hlen bs a8 h
end
section
variable{f:FuncId}{fn:Func}{n:Nat}{ix:List Nat}{D:Nat->fx}{H w0:World}{X:Nat->Prop}{M:aw}{K:Value->an->Prop}{Z:bF}
theorem a7(k:vl Tryz.prog f fn n ix D){args:List Value}(h:∀be bM,hv Tryz.prog wv {n:=n,esc:=mG ix} D (fn.body.getD .skip) (Y H be bM M) ⟨g1 args,jA⟩ (lD Tryz.prog wv fn (cd H w0 X be bM K)) (mV Tryz.prog wv fn (cd H w0 X be bM K) (ia H w0 X be bM Z)))(hlen:Nat.ble args.length n=true:=by rfl):ay Tryz.prog (Y H w0 X M) f args.toArray K Z:=
 ahr e8 i6 k hlen h
theorem gd(k:vl Tryz.prog f fn n ix D){args:List Value}(h:∀be bM,hv Tryz.prog wv {n:=n,esc:=mG ix} D (fn.body.getD .skip) (Y H be bM M) ⟨g1 args,jA⟩ (lD Tryz.prog wv fn (hy H w0 X be bM K)) (mV Tryz.prog wv fn (hy H w0 X be bM K) (pE H w0 X be bM Z)))(hlen:Nat.ble args.length n=true:=by rfl):ay Tryz.prog (Y H w0 X M) f args.toArray K Z:=
 ag6 e8 i6 k hlen h
end
def PE:Code->Code
 | .scope c=>c
 |c=>c
def Mq:Code->Code
 | .seq x _=>x
 |c=>c
def Pp:Code->Code
 | .seq _ (.scope c)=>c
 |c=>c
def Nm(l:Nat)(lZ:an->bQ->Prop)(E:oL):oL:=fun e C ss=>match e with
 | .goto ib=>match Nat.beq ib l with
  |true=>lZ C ss
  |false=>False
 |e=>E e C ss
section
variable{P:Program}{T:List (Nat×c5)}{D:Nat->fx}{f:FuncId}{fn:Func}{n:Nat}{ix:List Nat}{H w0:World}{X:Nat->Prop}{M:aw}{K:Value->an->Prop}{Z:bF}{N:gI}
def GU(P:Program)(Q:Exit->Act->World->Prop)(c rest:Code)(a:Act)(w:World):Prop:=∀b k cs,∃e ei w',Q e ei w'/\Arrives P (lone (b.at a (.code rest:: .inScope c::k)) cs w) b k cs e ei w'
theorem as7{Q:Exit->Act->World->Prop}{rest:Code}{l:Nat}{a:Act}{w:World}(h:GU P Q (.seq (.label l) rest) rest a w):(Code.scope (.seq (.label l) rest)).wp P Q a w:=by
 intro b k cs
 obtain⟨e,sf,sZ,bd,oW⟩:=h b k cs
 have aT:Steps P (lone (b.at a (.code (.scope (.seq (.label l) rest))::k)) cs w) (lone (b.at a (.code rest:: .inScope (.seq (.label l) rest)::k)) cs w):= .head step_scope (.head step_seq (.one step_label))
 exact⟨e,sf,sZ,bd,.of_steps aT oW⟩
theorem Pf{args:List Value}(hlen:args.length<=N.n)(eC:fn.ntmps=N.n)(hK:N.ds=[]){w:World}{C:an}(c3:C.R w):fR N C (fun _=>0) ⟨g1 args,jA⟩ {tmps:=args.toArray++Array.replicate (fn.ntmps-args.toArray.size) undef,defers:=[]} w:=by
 refine⟨?_,hK.symm,fun t=>?_,(fun b ty cs h=>nomatch h),(fun b cu h _ _=>nomatch h),fun t b off h=>?_,c3⟩
 ·simp[eC];omega
 ·show _=cD.den _ (g1 args t)
  rw[sV]
  simp only[cD.den]
  rw[wH,Ef,DZ]
  split
  ·simp
  ·rename_i cc
   simp at cc
   rw[List.getElem?_eq_none cc,D0]
   split<;>rfl
 ·have h:g1 args t= .p b off:=h
  rw[sV] at h;cases h
def BX(P:Program)(T:List (Nat×c5))(fn:Func)(eW:Value->an->Prop)(hh:bF)(e:Ending)(w':World):Prop:=(∃v aG,e= .returned v/\aG.R w'/\eW v aG)\/∃ch aG,e= .panicked ch/\aG.R w'/\hh ch aG
theorem w5(bX:gO P T)(hK:N.ds=[]){eW:Value->an->Prop}{hh:bF}{e:Exit}{a:Act}{w:World}(h:vY N (lD P T fn eW) (mV P T fn eW hh) e a w):bodyPost P fn (BX P T fn eW hh) e a w:=by
 have ret:∀{C:an} {ss:bQ} {cq:Nat->Nat} {a:Act} {w:World},fR N C cq ss a w->lD P T fn eW C ss->a.defers=[]/\∃v,(results fn a.tmps).run P w= .ok v w/\BX P T fn eW hh (.returned v) w:=fun{C ss cq a w} r h=>by
  obtain⟨aT,v,O,V⟩:=Aa bX r hK h
  exact⟨aT,v,O,.inl ⟨v,C,rfl,r.rest,V⟩⟩
 cases e with
 |normal=>obtain⟨C,ss,⟨cq,r⟩,h⟩:=h;exact ret r h
 |ret=>obtain⟨C,ss,⟨cq,r⟩,h⟩:=h;exact ret r h
 |panic ch=>obtain⟨C,ss,⟨cq,r⟩,h⟩:=h;exact⟨r.qM.trans hK,.inr ⟨ch,C,rfl,r.rest,h⟩⟩
 |_=>obtain⟨C,ss,⟨cq,r⟩,h⟩:=h;exact False.elim h
theorem ab8 (bX:gO P T) {c:Code} {args:List Value} {eW:Value->an->Prop} {hh:bF} (aK:P.funcs[f]?=some fn) (ab:fn.body=some (.scope c)) (eC:fn.ntmps=N.n) (hK:N.ds=[]) (hlen:Nat.ble args.length N.n=true) (aL:oU P T N D c) {w:World} (C:an) (c3:C.R w)
  (h:hv P T N D c C ⟨g1 args,jA⟩ (lD P T fn eW) (mV P T fn eW hh)):Calls P f args.toArray w (BX P T fn eW hh):=by
 refine calls_of_wp aK ab (wp_scope_straight (wp_mono (vg bX c aL ⟨_,Pf (nm hlen) eC hK c3⟩ h) fun e a w bd=>?_))
 have:=w5 bX hK bd
 cases e with
 |goto l=>obtain⟨C,ss,r,h⟩:=bd;exact False.elim h
 |_=>exact this
structure Ko(P:Program)(f:FuncId)(fn:Func)(n:Nat)(X:List Nat)(D:Nat->fx)(c:Code):Type where
 dg:oa P f
 mh:P.funcs[f]?=some fn
 cj:fn.body=some (.scope c)
 ec:fn.ntmps=n
 oo:iW D c=true
theorem aht(bX:gO P T)(jX:P.follows .mixedOrders=true){c:Code}(k:Ko P f fn n ix D c){args:List Value}(hlen:Nat.ble args.length n=true)(h:∀be bM,hv P T {n:=n,esc:=mG ix} D c (Y H be bM M) ⟨g1 args,jA⟩ (lD P T fn (cd H w0 X be bM K)) (mV P T fn (cd H w0 X be bM K) (ia H w0 X be bM Z))):ay P (Y H w0 X M) f args.toArray K Z:=by
 constructor
 refine⟨k.dg,fun w au=>(ab8 (N:={n:=n,esc:=mG ix}) bX k.mh k.cj k.ec rfl hlen (vF bX jX c k.oo) (Y H w (i4 M) M) au.self (h w (i4 M))).mono fun e az eb=>?_⟩
 rcases eb with⟨v,aG,O,V,⟨⟨dz,eX,rfl,ar,aa⟩⟩⟩|⟨ch,aG,O,V,⟨⟨dz,eX,rfl,ar,aa⟩⟩⟩
 ·obtain⟨ag,a6⟩:=au.rr V ar
  exact .inl ⟨v,_,O,ag,a6,aa⟩
 ·obtain⟨ag,a6⟩:=au.rr V ar
  exact .inr ⟨ch,_,O,ag,a6,aa⟩
theorem ab9 (bX:gO P T) {x c:Code} {args:List Value} {eW:Value->an->Prop} {hh:bF} (aK:P.funcs[f]?=some fn) (ab:fn.body=some (.seq x (.scope c))) (eC:fn.ntmps=N.n) (hK:N.ds=[]) (hlen:Nat.ble args.length N.n=true) (afj:oU P T N D x) (aL:oU P T N D c) {w:World} (C:an) (c3:C.R w)
  (h:hv P T N D x C ⟨g1 args,jA⟩ (fun aG bo=>hv P T N D c aG bo (lD P T fn eW) (mV P T fn eW hh)) (mV P T fn eW hh)):Calls P f args.toArray w (BX P T fn eW hh):=by
 refine calls_of_wp aK ab (wp_seq (wp_mono (vg bX x afj ⟨_,Pf (nm hlen) eC hK c3⟩ h) fun e a w bd=>?_))
 cases e with
 |normal=>
  obtain⟨aG,bo,fA,ak⟩:=bd
  refine wp_scope_straight (wp_mono (vg bX c aL fA ak) fun e a w bd=>?_)
  have:=w5 bX hK bd
  cases e with
  |goto l=>obtain⟨C,ss,r,h⟩:=bd;exact False.elim h
  |_=>exact this
 |goto l=>obtain⟨C,ss,r,h⟩:=bd;exact False.elim h
 |exit l=>obtain⟨C,ss,r,h⟩:=bd;exact False.elim h
 |ret=>exact w5 (e:= .ret) bX hK bd
 |panic ch=>exact w5 (e:= .panic ch) bX hK bd
 |outgrown=>obtain⟨C,ss,r,h⟩:=bd;exact False.elim h
structure Qb(P:Program)(f:FuncId)(fn:Func)(n:Nat)(X:List Nat)(D:Nat->fx)(x c:Code):Type where
 dg:oa P f
 mh:P.funcs[f]?=some fn
 cj:fn.body=some (.seq x (.scope c))
 ec:fn.ntmps=n
 Lp:iW D x=true
 oo:iW D c=true
theorem ahu(bX:gO P T)(jX:P.follows .mixedOrders=true){x c:Code}(k:Qb P f fn n ix D x c){args:List Value}(hlen:Nat.ble args.length n=true)(h:∀be bM,hv P T {n:=n,esc:=mG ix} D x (Y H be bM M) ⟨g1 args,jA⟩ (fun aG bo=>hv P T {n:=n,esc:=mG ix} D c aG bo (lD P T fn (cd H w0 X be bM K)) (mV P T fn (cd H w0 X be bM K) (ia H w0 X be bM Z))) (mV P T fn (cd H w0 X be bM K) (ia H w0 X be bM Z))):ay P (Y H w0 X M) f args.toArray K Z:=by
 constructor
 refine⟨k.dg,fun w au=>(ab9 (N:={n:=n,esc:=mG ix}) bX k.mh k.cj k.ec rfl hlen (vF bX jX x k.Lp) (vF bX jX c k.oo) (Y H w (i4 M) M) au.self (h w (i4 M))).mono fun e az eb=>?_⟩
 rcases eb with⟨v,aG,O,V,⟨⟨dz,eX,rfl,ar,aa⟩⟩⟩|⟨ch,aG,O,V,⟨⟨dz,eX,rfl,ar,aa⟩⟩⟩
 ·obtain⟨ag,a6⟩:=au.rr V ar
  exact .inl ⟨v,_,O,ag,a6,aa⟩
 ·obtain⟨ag,a6⟩:=au.rr V ar
  exact .inr ⟨ch,_,O,ag,a6,aa⟩
end
def pg:Nat->Nat->Nat->List fx->List Nat->List (Nat×fx)->List (Nat×fx)
 |0,_,_,_,_,R=>R
 |k+1,n,L,st,la,R=>
  bif Nat.ble n 1 then R else
  match n%16,st with
  |0,st=>pg k (n/16) L (.done::st) [] R
  |1,p::st=>pg k (n/16) (L-1) (.alt (L-1) p .stop::st) [] R
  |2,p::st=>pg k (n/16) (L-1) (.pure (L-1) la p::st) [] R
  |3,p::st=>pg k (n/16) (L-2) (.pure (L-2) la p::st) [] R
  |4,p::st=>pg k (n/16) (L-1) (.nx (L-1) p .stop::st) [] R
  |5,p::st=>pg k (n/16) (L-1) (.look (L-1) p::st) [] R
  |6,p::st=>pg k (n/4096) (n/16%256) (.alt (n/16%256) p .stop::st) [] R
  |7,p::st=>pg k (n/4096) (n/16%256) (.pure (n/16%256) la p::st) [] R
  |8,p::st=>pg k (n/4096) (n/16%256) (.nx (n/16%256) p .stop::st) [] R
  |9,p::st=>pg k (n/4096) (n/16%256) (.look (n/16%256) p::st) [] R
  |10,p::_=>pg k (n/4096) 0 [] [] ((n/16%256,p)::R)
  |11,st=>pg k (n/4096) L st (n/16%256::la) R
  |12,st=>pg k (n/16) L (.stop::st) [] R
  |13,p::q::st=>pg k (n/4096) (n/16%256) (.alt (n/16%256) p q::st) [] R
  |14,p::q::st=>pg k (n/4096) (n/16%256) (.nx (n/16%256) p q::st) [] R
  |15,p::st=>pg k (n/16) (L-2) (.alt (L-2) p .stop::st) [] R
  |_,_=>R
def Vx(n:Nat):List (Nat×fx):=pg n.log2 n 0 [] [] []
structure Kl (a:List (Nat×fx)) where
 v:List (Nat×fx)
 h:a=v
def cS(n:Nat){v:List (Nat×fx)}(h:Vx n=v:=by conv=>lhs;reduce):Kl (Vx n):=⟨v,h⟩
def FB:List (Nat×fx)->Nat->fx
 |[],_=> .done
 |(i,p)::l,id=>bif Nat.beq id i then p else FB l id
section
variable{P:Program}{f:FuncId}{fn:Func}{a:List (Nat×fx)}
def bw(n:Nat)(X:List Nat)(mh:P.funcs[f]?=some fn)(aB:(fn.name== "runtime.NumGoroutine")=false:=by kernel_rfl)(jt:fn.body.isNone=false:=by kernel_rfl)(ec:fn.ntmps=n:=by kernel_rfl)(oo:iW D7 (fn.body.getD .skip)=true:=by kernel_rfl):vl P f fn n X D7:=⟨Hp mh aB jt,mh,jt,ec,oo⟩
def cV(n:Nat)(X:List Nat)(D:Kl a)(mh:P.funcs[f]?=some fn)(aB:(fn.name== "runtime.NumGoroutine")=false:=by kernel_rfl)(jt:fn.body.isNone=false:=by kernel_rfl)(ec:fn.ntmps=n:=by kernel_rfl)(oo:iW (FB D.v) (fn.body.getD .skip)=true:=by kernel_rfl):vl P f fn n X (FB D.v):=⟨Hp mh aB jt,mh,jt,ec,oo⟩
def Rq(n:Nat)(X:List Nat)(D:Kl a)(mh:P.funcs[f]?=some fn)(aB:(fn.name== "runtime.NumGoroutine")=false:=by kernel_rfl)(jt:fn.body.isNone=false:=by kernel_rfl)(cj:fn.body=some (.scope (PE (fn.body.getD .skip))):=by rfl)(ec:fn.ntmps=n:=by kernel_rfl)(oo:iW (FB D.v) (PE (fn.body.getD .skip))=true:=by kernel_rfl):Ko P f fn n X (FB D.v) (PE (fn.body.getD .skip)):=⟨Hp mh aB jt,mh,cj,ec,oo⟩
def adI(n:Nat)(X:List Nat)(mh:P.funcs[f]?=some fn)(aB:(fn.name== "runtime.NumGoroutine")=false:=by kernel_rfl)(jt:fn.body.isNone=false:=by kernel_rfl)(cj:fn.body=some (.seq (Mq (fn.body.getD .skip)) (.scope (Pp (fn.body.getD .skip)))):=by rfl)(ec:fn.ntmps=n:=by kernel_rfl)(Lp:iW D7 (Mq (fn.body.getD .skip))=true:=by kernel_rfl)(oo:iW D7 (Pp (fn.body.getD .skip))=true:=by kernel_rfl):Qb P f fn n X D7 (Mq (fn.body.getD .skip)) (Pp (fn.body.getD .skip)):=⟨Hp mh aB jt,mh,cj,ec,Lp,oo⟩
abbrev F3(fn:Func)(hI:Nat):Prop:=Qp fn hI (Jk (fn.body.getD .skip))
end
def TA:=bw 60 [] Tryz.func38
def sI:=bw 12 [] Tryz.func84
def aj5:=bw 15 [] Tryz.func85
def ZC:=cS 0x104a222204d206d07d08d210b600a6130b600a61130b6007d06d08d210b600a6130b6008d06d210b600a606630b600a606d130b6008606630b600a606d1130b6007606d130b6008606630b6007d04d206d08d210b600a6130b6008d06d210b600a606630b600a606d130b6008606630b6008d04d206d210b600a606630b600a61206630b600a604d206d130b6008606630b600861206630b600a604d206d1130b6007606d130b6008606630b6007604d206d130b6008606630b600861206630b600ca201705712f06600da302701d03d110660046f10660036016110660
def aj9:=cV 74 [3,4,5,6,7,8] ZC Tryz.func91
def Tj:=bw 5 [] Tryz.func119
def ahz:=bw 85 [] Tryz.func123
def Tk:=bw 19 [] Tryz.func124
theorem VA:Et Tryz.f124 7 4 (Jk (Tryz.f124.body.getD .skip)):=⟨⟨_,_,_,_,rfl,rfl,rfl,rfl,rfl,rfl,rfl⟩⟩
def ahA:=bw 20 [] Tryz.func125
def ahB:=bw 27 [] Tryz.func126
def Nt:=bw 12 [] Tryz.func168
def ahO:=bw 15 [] Tryz.func170
def YM:=cS 0x102a222232077056210a60
def ahP:=cV 21 [] YM Tryz.func171
def YN:=cS 0x102a22232207704d120a6008604620a60
def ahQ:=cV 20 [] YN Tryz.func172
def YO:=cS 0x101a22222221210a60
def ahR:=cV 23 [] YO Tryz.func173
def YP:=cS 0x101a22222221210a60
def ahS:=cV 27 [] YP Tryz.func174
def ahT:=bw 4 [1] Tryz.func175
def ahU:=bw 9 [] Tryz.func176
def To:=bw 5 [] Tryz.func177
def ahV:=bw 9 [] Tryz.func178
def ahW:=bw 9 [] Tryz.func179
def ahX:=bw 9 [] Tryz.func180
def ahY:=bw 4 [] Tryz.func181
def ahZ:=bw 9 [] Tryz.func182
def YQ:=cS 0x104a222223208706d09d210c600b6130c6009d06d210c600b606630c600b606d130c6009606630c60
def zi:=cV 60 [] YQ Tryz.func183
def ah0:=bw 8 [] Tryz.func184
def YR:=cS 0x101a222222212122222221212156002a2222222222320d70b6221221360
def Tp:=cV 62 [] YR Tryz.func185
def ah1:=bw 9 [] Tryz.func186
def ah2:=bw 10 [] Tryz.func187
def ah3:=bw 17 [] Tryz.func188
def ah4:=bw 16 [] Tryz.func189
def ah5:=bw 13 [] Tryz.func190
def ah6:=bw 9 [] Tryz.func191
def aii:=bw 18 [] Tryz.func221
def YX:=cS 0x101a23204702d11077005602610770
def aij:=cV 10 [] YX Tryz.func222
def YZ:=cS 0x102a323206701d04d1109600760461096004d01d1109600760161096007601d0461096004601610960
def Dd:=cV 20 [] YZ Tryz.func242
def aio:=bw 5 [] Tryz.func245
def Y5:=cS 0x11aa2222222120960
def Tv:=cV 133 [] Y5 Tryz.func287
def Dc:=bw 7 [] Tryz.func127
def Nv:=bw 25 [] Tryz.func238
def IF:=bw 10 [] Tryz.func239
def ail:=bw 36 [] Tryz.func240
def Tt:=bw 7 [] Tryz.func241
def aim:=bw 45 [] Tryz.func243
def ain:=bw 50 [] Tryz.func244
def aip:=bw 14 [] Tryz.func246
def IG:=bw 18 [] Tryz.func247
def aiq:=bw 16 [] Tryz.func248
def ajU:=bw 59 [] Tryz.func40
def ZB:=cS 0x103a2206b211057007a007037224b312066009a302705732db22db31208600ba3027333b1205600da00703723ab31206600fa007037241b312066011a302705734ab24ab312086012a2206b110470
def Nw:=cV 78 [] ZB Tryz.func41
def tx:=bw 93 [] Tryz.func63
def ZE:=cS 0x110a222305704d2110970076f310970
def akb:=cV 86 [] ZE Tryz.func99
def YG:=cS 0x10ca2208b110470
def ahx:=cV 51 [] YG Tryz.func100
def ahy:=bw 8 [] Tryz.func101
def YH:=cS 0x10aa223223220a703d07d120d600b607620d6007d03d120d600b603620d600b603d07620d6007603620d60
def IC:=cV 95 [9,10,11,14,16,46] YH Tryz.func104
def Tm:=bw 26 [] Tryz.func143
theorem VC:Et Tryz.f143 7 4 (Jk (Tryz.f143.body.getD .skip)):=⟨⟨_,_,_,_,rfl,rfl,rfl,rfl,rfl,rfl,rfl⟩⟩
def YI:=cS 0x102a2222122222322221070bd122221670121370b6221670
def ahF:=cV 78 [] YI Tryz.func145
def YJ:=cS 0x105a22222211086003a22222232220b707d1110f600c6076110f60
def IE:=cV 50 [] YJ Tryz.func146
def YK:=cS 0x102a22222251086006a223222232222321170390990f912e13e2224119701784223119701784422311970
def Nq:=cV 85 [] YK Tryz.func147
def ahG:=bw 19 [] Tryz.func148
def YL:=cS 0x104a222220572220b706d07d111222213600c607d11222213600d60761222213600c606d07d11222213600d60761222213600d6107612222136007a22222221086008a2222222120960
def Ft:=cV 83 [] YL Tryz.func149
def Tn:=bw 50 [] Tryz.func150
def YU:=cS 0x102a2232232230c703d07d0bd0dd10f600e6f0f600e6ff0f600bd07d0dd10f600e6f0f600e6076f0f600e607dff0f600b6076f0f6007d03d0bd0dd10f600e6f0f600e6ff0f600bd03d0dd10f600e6f0f600e6036f0f600e603dff0f600b6036f0f600bd03d07d0dd10f600e6f0f600e6076f0f6007d03d0dd10f600e6f0f600e6036f0f600e603d076f0f60076036f0f600e603d07dff0f600b6076f0f6007d03dff0f600b6036f0f600b603d076f0f60076036f0f6003a222222212220b60
def aid:=cV 40 [] YU Tryz.func217
def YV:=cS 0x101a222232208705d1222122211601220c705d122211600d60572221160
def aie:=cV 31 [] YV Tryz.func218
def aif:=bw 26 [] Tryz.func219
def YW:=cS 0x101a2222306705d07d222110d700b6122310d700b6f122310d70
def aih:=cV 27 [] YW Tryz.func220
def Tq:=bw 30 [] Tryz.func223
def YY:=cS 0x102a22322308703d07d09d22220ed11112700f6f1112700ed09d222311112700f612220d71112700f609d2222f1112700e612220d71112700ed07d09d222311112700f612220d71112700f6f12220d71112700f607d09d2222f1112700e612220d71112700e6f12220d711127007d03d09d22220ed11112700f6f1112700ed09d222311112700f612220d71112700f609d2222f1112700e612220d71112700ed03d09d222311112700f612220d71112700f603612220d71112700f603d09d2222f1112700e612220d71112700e603612220d71112700ed03d07d09d222311112700f612220d71112700f6f12220d711127007d03d09d222311112700f612220d71112700f603612220d71112700f603df12220d711127007603612220d71112700f603d07d09d2222f1112700e612220d71112700e6f12220d711127007d03d09d2222f1112700e612220d71112700e603612220d71112700e603df12220d711127007603612220d7111270
def Tr:=cV 40 [] YY Tryz.func224
def aik:=bw 25 [] Tryz.func225
def ajW:=bw 8 [] Tryz.func51
def ajX:=bw 8 [] Tryz.func52
def aj0:=bw 8 [] Tryz.func55
def ahC:=bw 8 [] Tryz.func134
def ahN:=bw 8 [] Tryz.func169
def ajY:=bw 9 [] Tryz.func53
def ajZ:=bw 9 [] Tryz.func54
def aj1:=bw 9 [] Tryz.func56
def aj2:=bw 9 [] Tryz.func58
def ahE:=bw 9 [] Tryz.func144
section
variable{P:Program}{T:List (Nat×c5)}{D:Nat->fx}{f:FuncId}{fn:Func}{n:Nat}{ix:List Nat}{H w0:World}{X:Nat->Prop}{M:aw}{K:Value->an->Prop}{Z:bF}{N:gI}
theorem amN {Q:Exit->Act->World->Prop} {c rest:Code} {l:Nat} (aK:findLabel c l=some (.seq .skip rest)) {a:Act} {w:World} {Qm:Exit->Act->World->Prop} (h:rest.wp P Qm a w) (bd:∀e ei w',Qm e ei w'->match e with
  | .goto ib=>ib=l/\GU P Q c rest ei w'
  |e=>Q e ei w'):GU P Q c rest a w:=by
 intro b k cs
 have aZ:gotoIn l (.inScope c::k)=some (.code (.seq .skip rest):: .inScope c::k):=by simp[gotoIn,aK]
 obtain⟨e,sf,sZ,O,oW⟩:=h b (.inScope c::k) cs
 have V:=bd _ _ _ O
 cases e with
 |normal=>exact⟨.normal,sf,sZ,V,Steps.trans oW (.one step_inScope)⟩
 |exit id=>exact⟨.exit id,sf,sZ,V,fun k' U=>oW k' (by simp[exitTo,U])⟩
 |goto ib=>
  obtain⟨rfl,aa⟩:=V
  obtain⟨LH,KP,PW,MQ,Mg⟩:=aa b k cs
  exact⟨LH,KP,PW,MQ,.of_steps (Steps.trans (oW _ aZ) (.head step_seq (.one step_skip))) Mg⟩
 |ret=>exact⟨_,sf,sZ,V,oW⟩
 |panic ch=>exact⟨_,sf,sZ,V,oW⟩
 |outgrown=>exact⟨_,sf,sZ,V,oW⟩
theorem ab7 (bX:gO P T) {l:Nat} {rest:Code} {args:List Value} {eW:Value->an->Prop} {hh:bF} (aK:P.funcs[f]?=some fn) (ab:fn.body=some (.scope (.seq (.label l) rest))) (sv:findLabel (.seq (.label l) rest) l=some (.seq .skip rest)) (eC:fn.ntmps=N.n) (hK:N.ds=[]) (hlen:Nat.ble args.length N.n=true) (aL:oU P T N D rest) {w:World} (C:an) (c3:C.R w)
  (h:c9 (fun C ss cG=>hv P T N D rest C ss (lD P T fn eW) (Nm l cG (mV P T fn eW hh))) C ⟨g1 args,jA⟩):Calls P f args.toArray w (BX P T fn eW hh):=by
 refine calls_of_wp aK ab (as7 ?_)
 refine h.out (fun C ss=> ∀cq a w,fR N C cq ss a w->GU P (bodyPost P fn (BX P T fn eW hh)) (.seq (.label l) rest) rest a w) (fun C ss cG eZ jS cq a w r=>?_) (fun C ss q5 au M3 cq a w r=>?_) _ _ _ (Pf (nm hlen) eC hK c3)
 ·refine amN sv (vg bX rest aL ⟨cq,r⟩ eZ) fun e ei w' bd=>?_
  cases e with
  |goto ib=>
   obtain⟨aG,bo,⟨P6,fA⟩,ak⟩:=bd
   simp only[Nm] at ak
   split at ak
   ·rename_i e
    exact⟨mA e,jS aG bo ak P6 ei w' fA⟩
   ·exact False.elim ak
  |normal=>exact w5 (N:=N) bX hK bd
  |ret=>exact w5 (N:=N) bX hK bd
  |panic ch=>exact w5 (N:=N) bX hK bd
  |exit id=>exact w5 (N:=N) bX hK bd
  |outgrown=>exact w5 (N:=N) bX hK bd
 ·obtain⟨bo,O,V⟩:=au _ _ _ _ _ r
  exact M3 bo O cq a w V
theorem ahs(bX:gO P T)(jX:P.follows .mixedOrders=true){l:Nat}{rest:Code}(k:Ko P f fn n ix D (.seq (.label l) rest))(sv:findLabel (.seq (.label l) rest) l=some (.seq .skip rest)){args:List Value}(hlen:Nat.ble args.length n=true)(h:∀be bM,c9 (fun C ss cG=>hv P T {n:=n,esc:=mG ix} D rest C ss (lD P T fn (cd H w0 X be bM K)) (Nm l cG (mV P T fn (cd H w0 X be bM K) (ia H w0 X be bM Z)))) (Y H be bM M) ⟨g1 args,jA⟩):ay P (Y H w0 X M) f args.toArray K Z:=by
 have aL:iW D rest=true:=by
  have:=k.oo
  simp only[iW,e3] at this
  exact this.2
 constructor
 refine⟨k.dg,fun w au=>(ab7 (N:={n:=n,esc:=mG ix}) bX k.mh k.cj sv k.ec rfl hlen (vF bX jX rest aL) (Y H w (i4 M) M) au.self (h w (i4 M))).mono fun e az eb=>?_⟩
 rcases eb with⟨v,aG,O,V,⟨⟨dz,eX,rfl,ar,aa⟩⟩⟩|⟨ch,aG,O,V,⟨⟨dz,eX,rfl,ar,aa⟩⟩⟩
 ·obtain⟨ag,a6⟩:=au.rr V ar
  exact .inl ⟨v,_,O,ag,a6,aa⟩
 ·obtain⟨ag,a6⟩:=au.rr V ar
  exact .inr ⟨ch,_,O,ag,a6,aa⟩
end
end Go.Proofs.YtcflcebplhdcpaaGreat
