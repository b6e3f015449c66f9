/- Lemmas, part 4; each states its own conditions. -/
import Derived.Deep.LoopGhost
import Derived.Orders
import Derived.Test.YtcflcebplhdcpaaGreatL3
namespace Go.Proofs.YtcflcebplhdcpaaGreat
open Go.RowKit
set_option linter.unusedSimpArgs false
set_option linter.unusedVariables false
set_option maxRecDepth 100000
set_option maxHeartbeats 16000000
def vY(N:gI)(K:an->bQ->Prop)(E:oL):Exit->Act->World->Prop:=fun e a w=>match e with
 | .normal=>l2 N K a w
 |e=>l2 N (E e) a w
theorem pZ{ss:bQ}{g:Nat}{b:Bool}(h:ss.s g= .v (.bool b)):zm ss g b=ss:=by
 have:fm ss.s g (.v (.bool b))=ss.s:=by
  funext t
  by_cases e:t=g
  ·subst e;rw[po,h]
  ·rw[lv _ _ e]
 simp[zm,this]
def GS(P:Program)(c:Code)(Q:Exit->Act->World->Prop)(a:Act)(w:World):Prop:=∀(b:Frame) (k:List Item) (cs:List Frame),∃e ei w',Q e ei w'/\Arrives P (lone (b.at a (.code c:: .inLoop c::k)) cs w) b k cs e ei w'
theorem akV{P:Program}{c:Code}{Q:Exit->Act->World->Prop}{a:Act}{w:World}(h:GS P c Q a w):(Code.loop c).wp P Q a w:=fun b k cs=>by
 obtain⟨e,ei,w',bd,oW⟩:=h b k cs
 exact⟨e,ei,w',bd,.of_steps (.one step_loop) oW⟩
theorem akU{P:Program}{c:Code}{Q:Exit->Act->World->Prop}{a:Act}{w:World}(h:c.wp P (Exit.then (GS P c Q) Q) a w):GS P c Q a w:=fun b k cs=>by
 obtain⟨e,sf,sZ,bd,oW⟩:=h b (.inLoop c::k) cs
 cases e with
 |normal=>
  obtain⟨LH,KP,PW,MQ,Mg⟩:=bd b k cs
  exact⟨LH,KP,PW,MQ,.of_steps (Steps.trans oW (.one step_inLoop)) Mg⟩
 |exit id=>exact⟨_,sf,sZ,bd,.pass (x:= .inLoop c) rfl (fun _ _=> .inl (by simp)) oW⟩
 |goto l=>exact⟨_,sf,sZ,bd,.pass (x:= .inLoop c) rfl (fun _ _=> .inl (by simp)) oW⟩
 |ret=>exact⟨_,sf,sZ,bd,.pass (x:= .inLoop c) rfl (fun _ _=> .inl (by simp)) oW⟩
 |panic ch=>exact⟨_,sf,sZ,bd,.pass (x:= .inLoop c) rfl (fun _ _=> .inl (by simp)) oW⟩
 |outgrown=>exact⟨_,sf,sZ,bd,.pass (x:= .inLoop c) rfl (fun _ _=> .inl (by simp)) oW⟩
section
variable{P:Program}{T:List (Nat×c5)}{N:gI}{D:Nat->fx}{C:an}{cq:Nat->Nat}{ss:bQ}{a:Act}{w:World}{o:Oper}{K:an->bQ->Prop}{E:oL}{Q:Exit->Act->World->Prop}{ops:Array Oper}
theorem aew{A B:bQ->Prop}(r:fR N C cq ss a w)(h:j9 ops.toList o ss A B):(Region.wanted o (yielded ops a.tmps)=true/\A ss)\/(Region.wanted o (yielded ops a.tmps)=false/\B ss):=by
 unfold j9 at h
 split at h
 ·rename_i aZ
  exact .inl ⟨by simp[Region.wanted,aZ],h⟩
 ·rename_i j want aZ
  split at h
  ·rename_i v9 a9
   split at h
   ·rename_i g aL
    split at h
    ·rename_i b ab
     have rE:a.tmps.getD g undef= .bool b:=by rw[r.slot g,ab];rfl
     have ar:a.tmps[g]?=some (.bool b):=by
      rw[wH] at rE
      cases e:a.tmps[g]? with
      |none=>rw[e] at rE;simp[undef] at rE
      |some v=>rw[e] at rE;simp at rE;rw[rE]
     have kb:ops[j]?=some v9:=by rw[tM] at a9;simpa using a9
     have bV:yielded ops a.tmps j=some b:=by simp[yielded,kb,aL,ar]
     have au:Region.wanted o (yielded ops a.tmps)=(b==want):=by simp[Region.wanted,aZ,bV]
     rw[au]
     cases b with
     |true=>
      rw[pZ ab] at h
      cases want with
      |true=>exact .inl ⟨rfl,h⟩
      |false=>exact .inr ⟨rfl,h⟩
     |false=>
      simp only[ba] at h
      rw[pZ ab] at h
      cases want with
      |true=>exact .inr ⟨rfl,h⟩
      |false=>exact .inl ⟨rfl,h⟩
    ·rename_i vs ab
     have rE:a.tmps.getD g undef= .tuple vs:=by rw[r.slot g,ab];rfl
     have kb:ops[j]?=some v9:=by rw[tM] at a9;simpa using a9
     have bV:yielded ops a.tmps j=none:=by
      rw[wH] at rE
      simp only[yielded,kb,Eo,aL]
      cases e:a.tmps[g]? with
      |none=>rfl
      |some v=>rw[e] at rE;simp at rE;rw[rE]
     exact .inr ⟨by simp[Region.wanted,aZ,bV],h⟩
    ·exact False.elim h
   ·exact False.elim h
  ·exact False.elim h
theorem Ph{Z:kk}(il:∀ch aG bo ei w',s6 N aG bo ei w'->Z ch aG bo->Q (.panic ch) ei w')(bX:gO P T)(r:fR N C cq ss a w)(h:kv P T N ops.toList o C ss K Z):if Region.wanted o (yielded ops a.tmps)=true then o.wp P a w (l2 N K) Q else l2 N K (a.put o.dst undef) w:=by
 rw[Bx] at h
 rcases aew r h with⟨O,V⟩|⟨O,V⟩
 ·rw[if_pos O]
  exact amt (fun ch aG w' fA b3=>il ch aG ss a w' ⟨cq,fA⟩ b3) bX r V
 ·rw[if_neg (by rw[O];simp)]
  exact mH r V
theorem Og(bX:gO P T):∀(rest:List Oper) {C:an} {ss:bQ} {a:Act} {w:World},s6 N C ss a w->I7 P T N ops.toList rest (fun ch C ss=>E (.panic ch) C ss) C ss K->wpList P ops (vY N K E) rest a w
 |[],C,ss,a,w,⟨cq,r⟩,h=>⟨C,ss,⟨cq,r⟩,h⟩
 |o::rest,C,ss,a,w,⟨cq,r⟩,h=>by
  refine wpList_step fun cG AF=>?_
  have O:=Ph (Q:=vY N K E) (fun ch aG bo ei w' fA b3=>⟨aG,bo,fA,b3⟩) bX r h
  split
  ·rename_i au
   rw[if_pos au] at O
   refine Oper.wp_mono (fun ei w' ⟨aG,bo,fA,ak⟩=>?_) O
   exact AF _ _ (Og bX rest fA ak)
  ·rename_i au
   rw[if_neg au] at O
   obtain⟨aG,bo,fA,ak⟩:=O
   exact AF _ _ (Og bX rest fA ak)
def Yq(P:Program)(T:List (Nat×c5))(N:gI)(ops:Array Oper)(kM:fx):Prop:=
 ∀(id:Nat) (C:an) (ss:bQ) (K:an->bQ->Prop) (E:oL) (a:Act) (w:World),jC P T N ops.toList (Ae (fun ch C ss=>E (.panic ch) C ss) (yK ops.toList)) kM C ss K->s6 N C ss a w->(Code.region id ops true).wp P (vY N K E) a w
def oU(P:Program)(T:List (Nat×c5))(N:gI)(D:Nat->fx):Code->Prop
 | .region id ops true=>Yq P T N ops (D id)
 | .seq x y=>oU P T N D x/\oU P T N D y
 | .cond _ x y=>oU P T N D x/\oU P T N D y
 | .block _ c=>oU P T N D c
 | .loop c=>oU P T N D c
 |_=>True
theorem vg(bX:gO P T):∀(c:Code),oU P T N D c->∀{C:an} {ss:bQ} {K:an->bQ->Prop} {E:oL} {a:Act} {w:World},s6 N C ss a w->hv P T N D c C ss K E->c.wp P (vY N K E) a w:=by
 intro c
 induction c with
 |skip=>intro _ C ss K E a w r h;exact wp_skip ⟨C,ss,r,h⟩
 |label l=>intro _ C ss K E a w r h;exact wp_label ⟨C,ss,r,h⟩
 |region id ops draw=>
  intro aL C ss K E a w r h
  cases draw with
  |false=>exact wp_region_list (Og bX _ r h)
  |true=>exact aL id C ss K E a w h r
 |seq x y rH o8=>
  intro aL C ss K E a w r h
  have go:hv P T N D x C ss (fun aG bo=>hv P T N D y aG bo K E) E->(Code.seq x y).wp P (vY N K E) a w:=fun h=>by
   refine wp_seq (wp_mono (rH aL.1 r h) fun e ei w' bd=>?_)
   cases e with
   |normal=>obtain⟨aG,bo,fA,ak⟩:=bd;exact o8 aL.2 fA ak
   |_=>exact bd
  simp only[hv] at h
  split at h
  ·replace h:=h.out
   rcases h with h|⟨lZ,O,V⟩
   ·exact go h
   refine wp_seq (wp_mono (rH aL.1 r O) fun e ei w' bd=>?_)
   cases e with
   |normal=>
    obtain⟨aG,bo,⟨cq,fA⟩,ak⟩:=bd
    obtain⟨Bw,aa,ag⟩:=ak _ _ _ _ _ fA
    exact o8 aL.2 ⟨cq,ag⟩ (V _ _ aa)
   |_=>exact bd
  ·exact go h
 |cond c x y rH o8=>
  intro aL C ss K E a w r h
  simp only[hv] at h
  split at h
  ·rename_i b ab
   obtain⟨cq,fA⟩:=r
   have aj:a.eval c= .bool b:=by rw[fA.eval,ab];rfl
   cases b with
   |true=>exact wp_cond_true aj (rH aL.1 ⟨cq,fA⟩ h)
   |false=>exact wp_cond_false aj (o8 aL.2 ⟨cq,fA⟩ h)
  ·exact False.elim h
 |block id c cy=>
  intro aL C ss K E a w r h
  refine wp_block (wp_mono (cy aL r h) fun e ei w' bd=>?_)
  cases e with
  |exit Iu=>
   obtain⟨aG,bo,fA,ak⟩:=bd
   simp only[QW] at ak
   simp only[Exit.inBlock]
   split at ak
   ·rename_i e
    rw[if_pos (mA e)]
    exact⟨aG,bo,fA,ak⟩
   ·rename_i e
    rw[if_neg (fun hJ=>by rw[hJ,B7] at e;cases e)]
    exact⟨aG,bo,fA,ak⟩
  |_=>exact bd
 |loop c cy=>
  intro aL C ss K E a w r h
  simp only[hv] at h
  replace h:=h.out
  obtain⟨cq,r⟩:=r
  refine akV ?_
  refine h (fun C ss=> ∀cq a w,fR N C cq ss a w->GS P c (vY N K E) a w) (fun C ss cG eZ jS cq a w r=>?_) (fun C ss q5 au M3 cq a w r=>?_) cq a w r
  ·refine akU (wp_mono (cy aL ⟨cq,r⟩ eZ) fun e ei w' bd=>?_)
   cases e with
   |normal=>obtain⟨aG,bo,⟨P6,fA⟩,ak⟩:=bd;exact jS aG bo ak P6 ei w' fA
   |_=>exact bd
  ·obtain⟨bo,O,V⟩:=au _ _ _ _ _ r
   exact M3 bo O cq a w V
 |exit id=>intro _ C ss K E a w r h;exact wp_exit ⟨C,ss,r,h⟩
 |goto l=>intro _ C ss K E a w r h;exact wp_goto ⟨C,ss,r,h⟩
 |ret=>intro _ C ss K E a w r h;exact wp_ret ⟨C,ss,r,h⟩
 |scope c cy=>intro _ C ss K E a w r h;exact False.elim h
 |rangeFunc f p x y rH o8=>intro _ C ss K E a w r h;exact False.elim h
 |refuse s=>intro _ C ss K E a w r h;exact False.elim h
def g1(args:List Value):Nat->cD:=fun t=>match args,t with
 |[],_=> .v undef
 |x::_,0=> .v x
 |_::l,t+1=>g1 l t
theorem sV:∀(args:List Value) (t:Nat),g1 args t= .v (args.getD t undef)
 |[],t=>by simp[g1]
 |x::l,0=>by simp[g1]
 |x::l,t+1=>by simp only[g1];rw[sV l t];simp
def jA:Nat->Option (TypeId×List Value):=fun _=>none
structure Ku(P:Program)(C:an)(t:TypeId)(a:Addr)(K:Value->Prop):Prop where
 out:∃v,(∀w,C.R w->(loadVar t a).run P w= .ok v w)/\K v
def zx(P:Program)(T:List (Nat×c5))(C:an)(ss:bQ):List ResultVar->(List Value->Prop)->Prop
 |[],K=>K []
 | .tmp t::l,K=>ht (ss.s t) fun v=>zx P T C ss l fun vs=>K (v::vs)
 | .cell t ty::l,K=>match ss.s t with
  | .p b off=>match ss.b b,nZ T ty with
   |some (_,cs),some i=>match i.d.agg with
    |true=>km ((cs.drop off).take i.size) fun ib=>jO (Nat.beq ib.length i.size) (zx P T C ss l fun vs=>K (.agg ib.toArray::vs))
    |false=>match cs.drop off with
     |v::_=>zx P T C ss l fun vs=>K (v::vs)
     |[]=>False
   |_,_=>False
  | .v (.pointer (some eV))=>Ku P C ty eV fun v=>zx P T C ss l fun vs=>K (v::vs)
  |_=>False
def x3:List Value->Value
 |[v]=>v
 |vs=> .tuple vs.toArray
def Eu(P:Program)(T:List (Nat×c5))(fn:Func)(R:Ending->World->Prop)(C:an)(ss:bQ):Prop:=zx P T C ss fn.results.toList fun vs=> ∀w,C.R w->R (.returned (x3 vs)) w
def KU(P:Program)(T:List (Nat×c5))(fn:Func)(R:Ending->World->Prop):oL:=fun e C ss=>match e with
 | .ret=>Eu P T fn R C ss
 | .panic ch=> ∀w,C.R w->R (.panicked ch) w
 |_=>False
theorem DB(bX:gO P T)(r:fR N C cq ss a w):∀{l:List ResultVar} {K:List Value->Prop},zx P T C ss l K->∃vs,(l.mapM fun v=>match v with| .tmp t=>pure (a.tmps.getD t undef)| .cell x t=>do loadVar t (<-asAddr (a.tmps.getD x undef)):Sem (List Value)).run P w= .ok vs w/\K vs
 |[],K,h=>⟨[],by simp,h⟩
 | .tmp t::l,K,h=>by
  obtain⟨v,ah,O⟩:=qh h
  obtain⟨vs,V,aa⟩:=DB bX r O
  refine⟨v::vs,?_,aa⟩
  have:a.tmps.getD t undef=v:=by rw[r.slot t,ah];rfl
  simp only[List.mapM_cons,Sem.run_bind,Sem.run_pure,Result.andThen_ok,this,V]
 | .cell t ty::l,K,h=>by
  unfold zx at h
  split at h
  ·rename_i b off aW
   have bs:a.tmps.getD t undef= .pointer (some ⟨cq b,off,none⟩):=by rw[r.slot t,aW];rfl
   have has:(asAddr (.pointer (some ⟨cq b,off,none⟩))).run P w= .ok ⟨cq b,off,none⟩ w:=by simp[asAddr]
   split at h
   ·rename_i Xh cs i ab ai
    have hi:=bX _ _ ai
    obtain⟨aZ,_⟩:=r.box _ _ _ ab
    split at h
    ·rename_i dX
     rw[mI] at h
     obtain⟨ar,h⟩:=oj h
     have ar:=mA ar
     obtain⟨vs,V,aa⟩:=DB bX r h
     refine⟨_,?_,aa⟩
     have:=O0 hi aZ dX (off:=off) rfl ar
     simp only[List.mapM_cons,Sem.run_bind,Sem.run_pure,Result.andThen_ok,bs,has,this,V]
    ·rename_i dX
     split at h
     ·rename_i v ib ah
      obtain⟨vs,V,aa⟩:=DB bX r h
      refine⟨_,?_,aa⟩
      have:=Wb hi aZ dX ah
      simp only[List.mapM_cons,Sem.run_bind,Sem.run_pure,Result.andThen_ok,bs,has,this,V]
     ·exact False.elim h
   ·exact False.elim h
  ·rename_i eV aW
   have bs:a.tmps.getD t undef= .pointer (some eV):=by rw[r.slot t,aW];rfl
   have has:(asAddr (.pointer (some eV))).run P w= .ok eV w:=by simp[asAddr]
   obtain⟨v,ah,h⟩:=h.out
   obtain⟨vs,V,aa⟩:=DB bX r h
   refine⟨_,?_,aa⟩
   simp only[List.mapM_cons,Sem.run_bind,Sem.run_pure,Result.andThen_ok,bs,has,ah w r.rest,V]
  ·exact False.elim h
theorem Qq(bX:gO P T){fn:Func}{R:Ending->World->Prop}(r:fR N C cq ss a w)(hK:N.ds=[])(h:Eu P T fn R C ss):a.defers=[]/\∃v,(results fn a.tmps).run P w= .ok v w/\R (.returned v) w:=by
 obtain⟨vs,O,V⟩:=DB bX r h
 refine⟨r.qM.trans hK,x3 vs,?_,V w r.rest⟩
 unfold results
 rw[Array.mapM_eq_mapM_toList]
 simp only[Sem.run_bind,map_eq_pure_bind,Sem.run_pure]
 erw[O]
 simp only[Result.andThen_ok]
 congr 1
 match vs with
 |[]=>rfl
 |[v]=>rfl
 |v::dw::vs=>simp[x3]
theorem ab5 (bX:gO P T) {f:FuncId} {fn:Func} {c:Code} {args:List Value} {R:Ending->World->Prop} (aK:P.funcs[f]?=some fn) (ab:fn.body=some c) (eC:fn.ntmps=N.n) (hK:N.ds=[]) (hlen:Nat.ble args.length N.n=true) (aL:oU P T N D c) (C:an) (c3:C.R w)
  (h:hv P T N D c C ⟨g1 args,jA⟩ (Eu P T fn R) (KU P T fn R)):Calls P f args.toArray w R:=by
 refine calls_of_wp aK ab ?_
 have hlen:=nm hlen
 have r:s6 N C ⟨g1 args,jA⟩ {tmps:=args.toArray++Array.replicate (fn.ntmps-args.toArray.size) undef,defers:=[]} w:=by
  refine⟨fun _=>0,?_,hK.symm,fun t=>?_,(fun b ty cs h=>nomatch h),(fun b cu h _ _=>nomatch h),fun t b off h=>?_,c3⟩
  ·simp[eC];omega
  ·show _=cD.den _ (g1 args t)
   rw[sV]
   simp only[cD.den]
   rw[wH,Ef,DZ]
   split
   ·simp
   ·rename_i cc
    simp at cc
    rw[List.getElem?_eq_none cc,D0]
    split<;>rfl
  ·have h:g1 args t= .p b off:=h
   rw[sV] at h;cases h
 refine wp_mono (vg bX c aL r h) fun e a w bd=>?_
 cases e with
 |normal=>obtain⟨C,ss,⟨cq,r⟩,h⟩:=bd;exact Qq bX r hK h
 |ret=>obtain⟨C,ss,⟨cq,r⟩,h⟩:=bd;exact Qq bX r hK h
 |panic ch=>obtain⟨C,ss,⟨cq,r⟩,h⟩:=bd;exact⟨r.qM.trans hK,h w r.rest⟩
 |_=>obtain⟨C,ss,⟨cq,r⟩,h⟩:=bd;exact False.elim h
def lD(P:Program)(T:List (Nat×c5))(fn:Func)(eW:Value->an->Prop)(C:an)(ss:bQ):Prop:=zx P T C ss fn.results.toList fun vs=>eW (x3 vs) C
def mV(P:Program)(T:List (Nat×c5))(fn:Func)(eW:Value->an->Prop)(hh:bF):oL:=fun e C ss=>match e with
 | .ret=>lD P T fn eW C ss
 | .panic ch=>hh ch C
 |_=>False
theorem Aa(bX:gO P T){fn:Func}{eW:Value->an->Prop}(r:fR N C cq ss a w)(hK:N.ds=[])(h:lD P T fn eW C ss):a.defers=[]/\∃v,(results fn a.tmps).run P w= .ok v w/\eW v C:=by
 obtain⟨vs,O,V⟩:=DB bX r h
 refine⟨r.qM.trans hK,x3 vs,?_,V⟩
 unfold results
 rw[Array.mapM_eq_mapM_toList]
 simp only[Sem.run_bind,map_eq_pure_bind,Sem.run_pure]
 erw[O]
 simp only[Result.andThen_ok]
 congr 1
 match vs with
 |[]=>rfl
 |[v]=>rfl
 |v::dw::vs=>simp[x3]
theorem Q3 (bX:gO P T) {f:FuncId} {fn:Func} {c:Code} {args:List Value} {eW:Value->an->Prop} {hh:bF} (aK:P.funcs[f]?=some fn) (ab:fn.body=some c) (eC:fn.ntmps=N.n) (hK:N.ds=[]) (hlen:Nat.ble args.length N.n=true) (aL:oU P T N D c) {w:World} (C:an) (c3:C.R w)
  (h:hv P T N D c C ⟨g1 args,jA⟩ (lD P T fn eW) (mV P T fn eW hh)):Calls P f args.toArray w fun e w'=>(∃v aG,e= .returned v/\aG.R w'/\eW v aG)\/∃ch aG,e= .panicked ch/\aG.R w'/\hh ch aG:=by
 refine calls_of_wp aK ab ?_
 have hlen:=nm hlen
 have r:s6 N C ⟨g1 args,jA⟩ {tmps:=args.toArray++Array.replicate (fn.ntmps-args.toArray.size) undef,defers:=[]} w:=by
  refine⟨fun _=>0,?_,hK.symm,fun t=>?_,(fun b ty cs h=>nomatch h),(fun b cu h _ _=>nomatch h),fun t b off h=>?_,c3⟩
  ·simp[eC];omega
  ·show _=cD.den _ (g1 args t)
   rw[sV]
   simp only[cD.den]
   rw[wH,Ef,DZ]
   split
   ·simp
   ·rename_i cc
    simp at cc
    rw[List.getElem?_eq_none cc,D0]
    split<;>rfl
  ·have h:g1 args t= .p b off:=h
   rw[sV] at h;cases h
 have ret:∀{C:an} {ss:bQ} {cq:Nat->Nat} {a:Act} {w:World},fR N C cq ss a w->lD P T fn eW C ss->a.defers=[]/\∃v,(results fn a.tmps).run P w= .ok v w/\((∃dw aG,Ending.returned v= .returned dw/\aG.R w/\eW dw aG)\/∃ch aG,Ending.returned v= .panicked ch/\aG.R w/\hh ch aG):=fun{C ss cq a w} r h=>by
  obtain⟨aT,v,O,V⟩:=Aa bX r hK h
  exact⟨aT,v,O,.inl ⟨v,C,rfl,r.rest,V⟩⟩
 refine wp_mono (vg bX c aL r h) fun e a w bd=>?_
 cases e with
 |normal=>obtain⟨C,ss,⟨cq,r⟩,h⟩:=bd;exact ret r h
 |ret=>obtain⟨C,ss,⟨cq,r⟩,h⟩:=bd;exact ret r h
 |panic ch=>obtain⟨C,ss,⟨cq,r⟩,h⟩:=bd;exact⟨r.qM.trans hK,.inr ⟨ch,C,rfl,r.rest,h⟩⟩
 |_=>obtain⟨C,ss,⟨cq,r⟩,h⟩:=bd;exact False.elim h
end
section
variable{P:Program}{T:List (Nat×c5)}{N:gI}{C:an}{o:Oper}
theorem bk.mono{m:Sem Value}{K cG:Value->an->Prop}(U:∀v C,K v C->cG v C)(h:bk P C m K):bk P C m cG:=by
 constructor;replace h:=h.out
 intro w au
 obtain⟨v,w',aG,O,V,aa,ag⟩:=h w au
 exact⟨v,w',aG,O,V,aa,U _ _ ag⟩
theorem eB.mono{m:Sem Unit}{K cG:an->Prop}(U:∀C,K C->cG C)(h:eB P C m K):eB P C m cG:=by
 constructor;replace h:=h.out
 intro w au
 obtain⟨w',aG,O,V,aa,ag⟩:=h w au
 exact⟨w',aG,O,V,aa,U _ ag⟩
theorem ay.mono{f:FuncId}{vs:Array Value}{K cG:Value->an->Prop}{Z rh:bF}(U:∀v C,K v C->cG v C)(h:ay P C f vs K Z)(b3:∀ch C,Z ch C->rh ch C:=by exact fun _ _ h=>h):ay P C f vs cG rh:=
 ⟨h.out.1,fun w au=>(h.out.2 w au).mono fun e w' eb=>eb.imp (fun⟨v,aG,O,V,aa,ag⟩=>⟨v,aG,O,V,aa,U v aG ag⟩) (fun⟨ch,aG,O,V,aa,ag⟩=>⟨ch,aG,O,V,aa,b3 ch aG ag⟩)⟩
theorem ff.mono{m:Sem Next}{K cG:Value->an->Prop}{Z rh:bF}(U:∀v C,K v C->cG v C)(h:ff P C m K Z)(b3:∀ch C,Z ch C->rh ch C:=by exact fun _ _ h=>h):ff P C m cG rh:=
 ⟨fun w au=>(h.out w au).imp (fun⟨v,w',aG,O,V,aa,ag⟩=>⟨v,w',aG,O,V,aa,U v aG ag⟩) (Or.imp (fun⟨w',aG,O,V,aa,ag⟩=>⟨w',aG,O,V,aa,U _ aG ag⟩) (fun⟨v,w',aG,O,V,aa,ag⟩=>⟨v,w',aG,O,V,aa,b3 _ aG ag⟩))⟩
theorem gn.mono{A:Option Addr}{n:Nat}{i:Int}{sz:Nat}{K cG:Value->Prop}(U:∀v,K v->cG v)(h:gn A n i sz K):gn A n i sz cG:=by
 constructor;replace h:=h.out
 obtain⟨a,O,V,aa,ag⟩:=h
 exact⟨a,O,V,aa,U _ ag⟩
theorem kN.mono{A:Option Addr}{n c sz:Nat}{lo hi:Option Int}{K cG:Value->Prop}(U:∀v,K v->cG v)(h:kN A n c sz lo hi K):kN A n c sz lo hi cG:=by
 constructor;replace h:=h.out
 exact⟨h.1,h.2.1,h.2.2.1,U _ h.2.2.2⟩
theorem km.mono{l:List Value}{K cG:List Value->Prop}(U:∀l,K l->cG l)(h:km l K):km l cG:=by rw[mI] at*;exact U _ h
theorem jO.mono{b:Bool}{A aR:Prop}(U:A->aR)(h:jO b A):jO b aR:=by cases b with
 |true=>exact U h
 |false=>exact h
theorem ba.mono{b:Bool}{A aR B r3:Prop}(O:A->aR)(V:B->r3)(h:ba b A B):ba b aR r3:=by cases b with
 |true=>exact O h
 |false=>exact V h
theorem nr.mono{x:Value}{K cG:List Value->Prop}(U:∀l,K l->cG l)(h:nr x K):nr x cG:=by
 cases x with
 |agg cs=>exact km.mono (l:=cs.toList) U h
 |_=>first|exact U _ h|exact False.elim h
theorem ht.mono{x:cD}{K cG:Value->Prop}(U:∀v,K v->cG v)(h:ht x K):ht x cG:=by cases x with
 |v x=>exact U _ h
 |p b off=>exact h
theorem ki.mono{ao:Operand->cD}:∀{l:List Operand} {K cG:List Value->Prop},(∀v,K v->cG v)->ki ao l K->ki ao l cG
 |[],K,cG,U,h=>U _ h
 |x::l,K,cG,U,h=>ht.mono (fun v=>ki.mono fun vs=>U _) h
theorem oC.mono{ao:Operand->cD}:∀{l:List (Nat×Operand)} {K cG:List (Nat×Value)->Prop},(∀v,K v->cG v)->oC ao l K->oC ao l cG
 |[],K,cG,U,h=>U _ h
 |(i,x)::l,K,cG,U,h=>ht.mono (fun v=>oC.mono fun vs=>U _) h
theorem p6.mono{ao:Operand->cD}{x:Option Operand}{K cG:Option Value->Prop}(U:∀v,K v->cG v)(h:p6 ao x K):p6 ao x cG:=by cases x with
 |none=>exact U _ h
 |some x=>exact ht.mono (fun v=>U _) h
theorem pM.mono{ji:List (Nat×Option Nat)}:∀{ps:List (Nat×Value)} {cs:List Value} {K cG:List Value->Prop},(∀l,K l->cG l)->pM ji cs ps K->pM ji cs ps cG
 |[],cs,K,cG,U,h=>U _ h
 |(i,v)::ps,cs,K,cG,U,h=>by
  unfold pM at*
  split at h
  ·exact nr.mono (fun l=>jO.mono (km.mono fun ib=>pM.mono U)) h
  ·exact h
theorem xz.mono{op:BinOp}{k:IntKind}{a b:Int}{K cG:Value->Prop}(U:∀v,K v->cG v)(h:xz op k a b K):xz op k a b cG:=by
 cases op<;>first|exact U _ h|exact False.elim h|exact⟨h.1,U _ h.2⟩
theorem wZ.mono{op:BinOp}{t:TypeId}{x y:Operand}{a b:Value}{K cG:Value->an->Prop}(U:∀v C,K v C->cG v C)(h:wZ P T op t x y C a b K):wZ P T op t x y C a b cG:=by
 unfold wZ at*
 split at h
 ·split at h<;>first|exact bk.mono U h|exact jO.mono (xz.mono fun v=>U v C) h
 ·split at h
  ·exact U _ _ h
  ·exact bk.mono U h
theorem te.mono{ty:TypeId}{c:Call}{ao:Operand->cD}{K cG:Value->an->Prop}{Z rh:bF}(U:∀v C,K v C->cG v C)(h:te P T C ty c ao K Z)(b3:∀ch C,Z ch C->rh ch C:=by exact fun _ _ h=>h):te P T C ty c ao cG rh:=by
 unfold te at*
 split at h
 ·exact ki.mono (fun vs h=>ay.mono U h b3) h
 ·split at h
  ·exact ki.mono (fun vs=>km.mono fun l h=>ay.mono U h b3) h
  ·exact h
 ·refine ki.mono (fun vs h=>?_) h
  split at h
  ·split at h
   ·split at h
    ·exact U _ _ h
    ·exact False.elim h
   ·exact False.elim h
  ·exact bk.mono U h
 ·exact ki.mono (fun vs=>bk.mono U) h
 ·exact ki.mono (fun vs=>bk.mono U) h
 ·exact ki.mono (fun vs=>bk.mono U) h
 ·exact ki.mono (fun vs=>bk.mono U) h
 ·exact ki.mono (fun vs=>bk.mono U) h
 ·exact h
theorem xW.mono{t:TypeId}{x:Value}{lo hi:Option Value}{K cG:Value->an->Prop}(U:∀v C,K v C->cG v C)(h:xW P T C t x lo hi K):xW P T C t x lo hi cG:=by
 unfold xW at*
 split at h
 ·split at h
  ·split at h<;>first|exact kN.mono (fun v=>U _ _) h|exact bk.mono U h
  ·exact h
 ·exact bk.mono U h
def Yv(o:Oper)(ao:Operand->cD)(jN:Nat->Option (TypeId×List Value))(jb:Option (Nat×TypeId×List Value)):Prop:=
 ∀d t cs,jb=some (d,t,cs)->jN d=none\/∃ty x y off,o.op= .store ty x y/\ao x= .p d off
theorem js.mono{ao:Operand->cD}{K cG:yq}{Z rh:bF}(U:∀C x,K C x none->cG C x none)(h:js P C ao o K Z)(b3:∀ch C,Z ch C->rh ch C:=by exact fun _ _ h=>h):js P C ao o cG rh:=jO.mono (fun h=>ff.mono (fun v C h=>U C (.v v) h) h b3) h
theorem UM{e:Bool}{ao:Operand->cD}{jN:Nat->Option (TypeId×List Value)}{K cG:yq}{Z rh:bF}(U:∀C x jb,Yv o ao jN jb->K C x jb->cG C x jb)(h:qP P T e o C ao jN K Z)(b3:∀ch C,Z ch C->rh ch C:=by exact fun _ _ h=>h):qP P T e o C ao jN cG rh:=by
 have aB:∀C x,K C x none->cG C x none:=fun C x h=>U C x none (fun d t cs e=>by cases e) h
 cases aU:o.op<;>simp only[qP,aU,Hx] at h|-<;>try exact False.elim h
 case nilCheck x=>
  split at h
  ·exact aB _ _ h
  ·exact aB _ _ h
  ·exact js.mono aB h b3
 case makeInterface t x=>exact js.mono aB h b3
 case field t x f=>exact js.mono aB h b3
 case index t x i=>exact js.mono aB h b3
 case typeAssert x t t' ok=>exact js.mono aB h b3
 case panic x=>exact js.mono aB h b3
 case insert t m k x=>exact js.mono aB h b3
 case mapUpdate t m k x=>exact js.mono aB h b3
 case makeMap t r=>exact js.mono aB h b3
 case lookup t m k c=>exact js.mono aB h b3
 case makeFunc fn first cap=>exact js.mono aB h b3
 case move x=>exact aB _ _ h
 case assign x=>exact aB _ _ h
 case pick c x y=>
  split at h
  ·exact ba.mono (aB _ _) (aB _ _) h
  ·exact h
 case alloc t=>
  cases e with
  |true=>exact bk.mono (fun v C=>aB _ _) h
  |false=>
  simp only at h|-
  split at h
  ·rename_i d aL
   split at h
   ·rename_i i ab ai
    exact nr.mono (fun cs h=>U _ _ _ (fun d' t' gp e=>by cases e;exact .inl ab) h) h
   ·exact False.elim h
  ·exact h
 case box t x=>
  cases e with
  |true=>exact ht.mono (fun v=>bk.mono fun v C=>aB _ _) h
  |false=>
  simp only at h|-
  split at h
  ·split at h
   ·rename_i ab
    exact ht.mono (fun v=>nr.mono (fun cs h=>U _ _ _ (fun d' t' gp e=>by cases e;exact .inl ab) h)) h
   ·exact False.elim h
  ·exact h
 case build t parts=>
  split at h
  ·split at h
   ·exact oC.mono (fun ps=>nr.mono fun cs=>pM.mono fun l=>aB _ _) h
   ·exact oC.mono (fun ps=>bk.mono fun v C=>aB _ _) h
  ·exact h
 case fieldAddr t x f=>
  split at h
  ·split at h
   ·split at h
    ·split at h
     ·exact aB _ _ h
     ·exact aB _ _ h
     ·exact h
    ·exact h
   ·exact h
  ·exact h
 case load t x=>
  split at h
  ·split at h
   ·split at h
    ·exact km.mono (fun l=>jO.mono (aB _ _)) h
    ·split at h
     ·exact aB _ _ h
     ·exact h
   ·exact False.elim h
  ·exact bk.mono (fun v C=>aB _ _) h
 case store t x y=>
  split at h
  ·rename_i b off aW
   split at h
   ·exact ht.mono (fun v=>nr.mono fun vs=>jO.mono (km.mono fun l h=>U _ _ _ (fun d' t' gp e=>by cases e;exact .inr ⟨t,x,y,off,aU,aW⟩) h)) h
   ·exact False.elim h
  ·exact ht.mono (fun v=>eB.mono fun C=>aB _ _) h
 case binOp op t x y t'=>exact ht.mono (fun a=>ht.mono fun b=>wZ.mono fun v C=>aB _ _) h
 case unOp op t x=>
  refine ht.mono (fun v h=>?_) h
  split at h
  ·exact aB _ _ h
  ·exact bk.mono (fun v C=>aB _ _) h
 case convert s d x=>exact ht.mono (fun v=>bk.mono fun v C=>aB _ _) h
 case extract x i=>
  split at h
  ·split at h
   ·exact aB _ _ h
   ·exact h
  ·exact h
 case indexAddr t x i=>
  split at h
  ·split at h
   ·split at h
    ·exact gn.mono (fun v=>aB _ _) h
    ·exact h
   ·exact False.elim h
  ·exact ht.mono (fun v=>bk.mono fun v C=>aB _ _) h
  ·exact h
 case slice t x lo hi mx=>
  cases mx with
  |some m=>exact js.mono aB h b3
  |none=>exact ht.mono (fun v=>p6.mono fun lo=>p6.mono fun hi=>xW.mono fun v C=>aB _ _) h
 case buildSlice t n parts=>exact oC.mono (fun ps=>bk.mono fun v C=>aB _ _) h
 case makeSlice t l c=>exact ht.mono (fun v=>ht.mono fun dw=>bk.mono fun v C=>aB _ _) h
 case call c=>exact te.mono (fun v C=>aB _ _) h b3
end
section
variable{P:Program}{T:List (Nat×c5)}{N:gI}{C:an}{o:Oper}
theorem JU{ao hq:Operand->cD}:∀{l:List Operand} {K:List Value->Prop},(∀x∈l,hq x=ao x)->ki hq l K=ki ao l K
 |[],K,h=>rfl
 |x::l,K,h=>by
  simp only[ki,h x (by simp)]
  congr 1
  funext v
  exact JU fun y bV=>h y (by simp[bV])
theorem Oq{ao hq:Operand->cD}:∀{l:List (Nat×Operand)} {K:List (Nat×Value)->Prop},(∀x∈l,hq x.2=ao x.2)->oC hq l K=oC ao l K
 |[],K,h=>rfl
 |(i,x)::l,K,h=>by
  simp only[oC,h (i,x) (by simp)]
  congr 1
  funext v
  exact Oq fun y bV=>h y (by simp[bV])
theorem UO{ao hq:Operand->cD}{x:Option Operand}{K:Option Value->Prop}(h:∀y,x=some y->hq y=ao y):p6 hq x K=p6 ao x K:=by
 cases x with
 |none=>rfl
 |some x=>simp only[p6,h x rfl]
theorem abW{ty:TypeId}{c:Call}{ao hq:Operand->cD}{K:Value->an->Prop}{Z:bF}(h:∀x∈c.operands,hq x=ao x):te P T C ty c hq K Z=te P T C ty c ao K Z:=by
 have a8:∀x∈c.args.toList,hq x=ao x:=fun x aW=>h x (by simp only[Call.operands,Array.mem_append];exact .inr (by simpa using aW))
 unfold te
 split
 ·exact JU a8
 ·rename_i t bs
  rw[h (.tmp t) (by simp[Call.operands,bs])]
  split
  ·exact JU a8
  ·rfl
 all_goals first|exact JU a8|rfl
theorem mN{ao hq:Operand->cD}{x:Operand}(h:hq x=ao x):valOf hq x=valOf ao x:=by unfold valOf;rw[h]
theorem QK{ao hq:Operand->cD}:∀{l:List Operand},(∀x∈l,hq x=ao x)->Ah hq l=Ah ao l
 |[],h=>rfl
 |x::l,h=>by
  unfold Ah
  rw[h x (by simp),QK fun y bV=>h y (by simp[bV])]
theorem tb{ao hq:Operand->cD}{K:yq}{Z:bF}(h:∀x∈o.op.operands,hq x=ao x)(af:execOp (valOf hq) o=execOp (valOf ao) o):js P C hq o K Z=js P C ao o K Z:=by
 unfold js
 rw[QK fun x aW=>h x (by simpa using aW),af]
theorem UL{e:Bool}{ao hq:Operand->cD}{jN:Nat->Option (TypeId×List Value)}{K:yq}{Z:bF}(aT:∀x∈o.op.operands,hq x=ao x):qP P T e o C hq jN K Z=qP P T e o C ao jN K Z:=by
 have h:=aT
 cases aU:o.op<;>simp only[aU,Op.operands] at h<;>simp only[qP,aU]
 case nilCheck x=>
  rw[h x (by simp)]
  split
  ·rfl
  ·rfl
  ·exact tb aT (by simp only[execOp,aU];rw[mN (h x (by simp))])
 case makeInterface t x=>exact tb aT (by simp only[execOp,aU];rw[mN (h x (by simp))])
 case field t x f=>exact tb aT (by simp only[execOp,aU];rw[mN (h x (by simp))])
 case index t x i=>exact tb aT (by simp only[execOp,aU];rw[mN (h x (by simp)),mN (h i (by simp))])
 case typeAssert x t t' ok=>exact tb aT (by simp only[execOp,aU];rw[mN (h x (by simp))])
 case panic x=>exact tb aT (by simp only[execOp,aU];rw[mN (h x (by simp))])
 case insert t m k x=>exact tb aT (by simp only[execOp,aU];rw[mN (h m (by simp)),mN (h k (by simp)),mN (h x (by simp))])
 case mapUpdate t m k x=>exact tb aT (by simp only[execOp,aU];rw[mN (h m (by simp)),mN (h k (by simp)),mN (h x (by simp))])
 case lookup t m k c=>exact tb aT (by simp only[execOp,aU];rw[mN (h m (by simp)),mN (h k (by simp))])
 case makeMap t r=>
  refine tb aT ?_
  simp only[execOp,aU]
  cases r with
  |none=>rfl
  |some r=>simp only[sb];rw[mN (h r (by simp))]
 case makeFunc fn first cap=>
  refine tb aT ?_
  simp only[execOp,aU]
  have e1:first.map (valOf hq)=first.map (valOf ao):=Array.map_congr_left fun x aW=>mN (h x (by simp[aW]))
  have e2:cap.map (valOf hq)=cap.map (valOf ao):=Array.map_congr_left fun x aW=>mN (h x (by simp[aW]))
  rw[e1,e2]
 case move x=>rw[h x (by simp)]
 case assign x=>rw[h x (by simp)]
 case pick c x y=>rw[h c (by simp),h x (by simp),h y (by simp)]
 case box t x=>rw[h x (by simp)]
 case build t parts=>
  have:∀p∈parts.toList,hq p.2=ao p.2:=fun p bh=>h p.2 (by simp;exact⟨p.1,by simpa using bh⟩)
  simp only[Oq this]
 case fieldAddr t x f=>rw[h x (by simp)]
 case load t x=>rw[h x (by simp)]
 case store t x y=>rw[h x (by simp),h y (by simp)]
 case binOp op t x y t'=>rw[h x (by simp),h y (by simp)]
 case unOp op t x=>rw[h x (by simp)]
 case convert s d x=>rw[h x (by simp)]
 case extract x i=>rw[h x (by simp)]
 case indexAddr t x i=>rw[h x (by simp),h i (by simp)]
 case slice t x lo hi mx=>
  cases mx with
  |some m=>
   refine tb aT ?_
   simp only[execOp,aU,sb]
   rw[mN (h x (by simp)),I8 (x:=lo) (fun y bV=>mN (h y (by simp[bV]))),I8 (x:=hi) (fun y bV=>mN (h y (by simp[bV]))),mN (h m (by simp))]
  |none=>
   simp only
   rw[h x (by simp)]
   congr 1
   funext v
   rw[UO (ao:=ao) (hq:=hq) fun y bV=>h y (by simp[bV])]
   congr 1
   funext awF
   exact UO fun y bV=>h y (by simp[bV])
 case buildSlice t n parts=>
  have:∀p∈parts.toList,hq p.2=ao p.2:=fun p bh=>h p.2 (by simp;exact⟨p.1,by simpa using bh⟩)
  simp only[Oq this]
 case makeSlice t l c=>rw[h l (by simp),h c (by simp)]
 case call c=>exact abW h
def fP{ck:Type}(X:(ck->Prop)->Prop):Prop:=∀K,X K->∃y,K y/\∀cG,cG y->X cG
theorem fP.LU(l:List Value):fP (km l):=fun K h=>⟨l,by rw[mI] at h;exact h,fun cG ak=>by rw[mI];exact ak⟩
theorem fP.cells(x:Value):fP (nr x):=fun K h=>by
 cases x with
 |agg cs=>exact fP.LU cs.toList K h
 |_=>first|exact⟨_,h,fun cG ak=>ak⟩|exact False.elim h
theorem fP.val(x:cD):fP (ht x):=fun K h=>by
 cases x with
 |v x=>exact⟨x,h,fun cG ak=>ak⟩
 |p b off=>exact False.elim h
theorem fP.seq{ck gH:Type}{X:(ck->Prop)->Prop}{fV:ck->(gH->Prop)->Prop}(eR:fP X)(ae1:∀a,fP (fV a))(ad:∀a K cG,(∀b,K b->cG b)->fV a K->fV a cG):fP (fun K=>X fun a=>fV a K):=fun K h=>by
 obtain⟨a,O,V⟩:=eR _ h
 obtain⟨b,aa,ag⟩:=ae1 a _ O
 exact⟨b,aa,fun cG ak=>V _ (ag cG ak)⟩
theorem fP.ret{ck:Type}(y:ck):fP (fun K=>K y):=fun K h=>⟨y,h,fun cG ak=>ak⟩
theorem fP.jO{ck:Type}(b:Bool){X:(ck->Prop)->Prop}(eR:fP X):fP (fun K=>jO b (X K)):=fun K h=>by
 obtain⟨O,V⟩:=oj h
 subst O
 obtain⟨y,aa,ag⟩:=eR _ V
 exact⟨y,aa,fun cG ak=>ag cG ak⟩
theorem fP.Xm(ao:Operand->cD):∀l:List Operand,fP (ki ao l)
 |[]=>fP.ret []
 |x::l=>fun K h=>by
  obtain⟨v,O,V⟩:=fP.val _ _ h
  obtain⟨vs,aa,ag⟩:=fP.Xm ao l _ O
  exact⟨v::vs,aa,fun cG ak=>V _ (ag _ ak)⟩
theorem fP.parts(ao:Operand->cD):∀l:List (Nat×Operand),fP (oC ao l)
 |[]=>fP.ret []
 |(i,x)::l=>fun K h=>by
  obtain⟨v,O,V⟩:=fP.val _ _ h
  obtain⟨vs,aa,ag⟩:=fP.parts ao l _ O
  exact⟨(i,v)::vs,aa,fun cG ak=>V _ (ag _ ak)⟩
theorem fP.opt(ao:Operand->cD)(x:Option Operand):fP (p6 ao x):=fun K h=>by
 cases x with
 |none=>exact⟨_,h,fun cG ak=>ak⟩
 |some x=>
  obtain⟨v,O,V⟩:=fP.val _ _ h
  exact⟨some v,O,fun cG ak=>V _ ak⟩
theorem fP.fill(ji:List (Nat×Option Nat)):∀(ps:List (Nat×Value)) (cs:List Value),fP (pM ji cs ps)
 |[],cs=>fP.ret cs
 |(i,v)::ps,cs=>fun K h=>by
  unfold pM at h
  split at h
  ·rename_i o sz aU
   obtain⟨vs,O,V⟩:=fP.cells _ _ h
   obtain⟨aa,ag⟩:=oj O
   obtain⟨gp,a6,bU⟩:=fP.LU _ _ ag
   obtain⟨l,dh,cT⟩:=fP.fill ji ps gp _ a6
   refine⟨l,dh,fun cG ak=>?_⟩
   unfold pM
   rw[aU]
   refine V _ ?_
   rw[aa]
   exact bU _ (cT _ ak)
  ·exact False.elim h
theorem fP.int(op:BinOp)(k:IntKind)(a b:Int):fP (xz op k a b):=fun K h=>by
 cases op<;>first
  |exact⟨_,h,fun cG ak=>ak⟩
  |exact False.elim h
  |exact⟨_,h.2,fun cG ak=>⟨h.1,ak⟩⟩
theorem fP.idx(A:Option Addr)(n:Nat)(i:Int)(sz:Nat):fP (gn A n i sz):=fun K h=>by
 replace h:=h.out
 obtain⟨a,O,V,aa,ag⟩:=h
 exact⟨_,ag,fun cG ak=>⟨⟨a,O,V,aa,ak⟩⟩⟩
theorem fP.cut(A:Option Addr)(n c sz:Nat)(lo hi:Option Int):fP (kN A n c sz lo hi):=fun K h=>by
 replace h:=h.out
 exact⟨_,h.2.2.2,fun cG ak=>⟨⟨h.1,h.2.1,h.2.2.1,ak⟩⟩⟩
theorem anG{ao:Operand->cD}{jN:Nat->Option (TypeId×List Value)}{q7:cD->Option Nat->Prop}(h:xL T o ao jN q7):∃x fO,q7 x fO/\(∀b,fO=some b->(jN b).isSome=true/\∃t y,o.op= .load t y)/\∀cG:cD->Option Nat->Prop,cG x fO->xL T o ao jN cG:=by
 have n0:∀b:Nat,(none:Option Nat)=some b->(jN b).isSome=true/\∃t y,o.op= .load t y:=fun b e=>nomatch e
 cases aU:o.op<;>simp only[xL,aU,Hx] at h|-n0<;>try exact False.elim h
 case move x=>exact⟨_,_,h,n0,fun cG ak=>ak⟩
 case assign x=>exact⟨_,_,h,n0,fun cG ak=>ak⟩
 case pick c x y=>
  split at h
  ·rename_i t bs
   cases t with
   |true=>exact⟨_,_,h,n0,fun cG ak=>ak⟩
   |false=>exact⟨_,_,h,n0,fun cG ak=>ak⟩
  ·exact False.elim h
 case build t parts=>
  split at h
  ·split at h
   ·obtain⟨ps,O,V⟩:=fP.parts _ _ _ h
    obtain⟨cs,aa,ag⟩:=fP.cells _ _ O
    obtain⟨l,a6,bU⟩:=fP.fill _ _ _ _ aa
    exact⟨_,_,a6,n0,fun cG ak=>V _ (ag _ (bU _ ak))⟩
   ·exact False.elim h
  ·exact False.elim h
 case fieldAddr t x f=>
  split at h
  ·split at h
   ·split at h
    ·split at h
     ·exact⟨_,_,h,n0,fun cG ak=>ak⟩
     ·exact⟨_,_,h,n0,fun cG ak=>ak⟩
     ·exact False.elim h
    ·exact False.elim h
   ·exact False.elim h
  ·exact False.elim h
 case load t x=>
  split at h
  ·split at h
   ·rename_i b off aW _ _ ty cs i ab ai
    have uS:∀cu:Nat,some b=some cu->(jN cu).isSome=true/\∃t' y,Op.load t x=Op.load t' y:=fun cu e=>by
     injection e with e
     subst e
     exact⟨by rw[ab];rfl,t,x,rfl⟩
    split at h
    ·obtain⟨l,O,V⟩:=fP.LU _ _ h
     obtain⟨aa,ag⟩:=oj O
     exact⟨_,_,ag,uS,fun cG ak=>V _ (by rw[aa];exact ak)⟩
    ·split at h
     ·exact⟨_,_,h,uS,fun cG ak=>ak⟩
     ·exact False.elim h
   ·exact False.elim h
  ·exact False.elim h
 case binOp op t x y t'=>
  obtain⟨a,O,V⟩:=fP.val _ _ h
  obtain⟨b,aa,ag⟩:=fP.val _ _ O
  split at aa
  ·rename_i k a k' b
   split at aa<;>try exact False.elim aa
   rename_i op a6 bU dh cT fz fi
   obtain⟨pQ,aeD⟩:=oj aa
   obtain⟨v,yT,yU⟩:=fP.int _ _ _ _ _ aeD
   refine⟨_,_,yT,n0,fun cG ak=>V _ (ag _ ?_)⟩
   simp only
   rw[pQ]
   exact yU (fun v=>cG (cD.v v) none) ak
  ·rename_i lK
   split at aa
   ·rename_i fO aP
    refine⟨_,_,aa,n0,fun cG ak=>V _ (ag _ ?_)⟩
    split
    ·exact absurd rfl (lK _ _ _ _ rfl)
    ·rw[aP];exact ak
   ·exact False.elim aa
 case unOp op t x=>
  obtain⟨a,O,V⟩:=fP.val _ _ h
  split at O
  ·exact⟨_,_,O,n0,fun cG ak=>V _ ak⟩
  ·exact False.elim O
 case nilCheck x=>
  split at h
  ·exact⟨_,_,h,n0,fun cG ak=>ak⟩
  ·exact⟨_,_,h,n0,fun cG ak=>ak⟩
  ·exact False.elim h
 case extract x i=>
  split at h
  ·split at h
   ·exact⟨_,_,h,n0,fun cG ak=>ak⟩
   ·exact False.elim h
  ·exact False.elim h
 case indexAddr t x i=>
  split at h
  ·split at h
   ·split at h
    ·obtain⟨v,O,V⟩:=fP.idx _ _ _ _ _ h
     exact⟨_,_,O,n0,fun cG ak=>V _ ak⟩
    ·exact False.elim h
   ·exact False.elim h
  ·exact False.elim h
 case slice t x lo hi mx=>
  cases mx with
  |some m=>exact False.elim h
  |none=>
   simp only at h|-
   obtain⟨a,O,V⟩:=fP.val _ _ h
   obtain⟨l,aa,ag⟩:=fP.opt _ _ _ O
   obtain⟨u,a6,bU⟩:=fP.opt _ _ _ aa
   split at a6
   ·split at a6
    ·split at a6
     ·obtain⟨v,dh,cT⟩:=fP.cut _ _ _ _ _ _ _ a6
      exact⟨_,_,dh,n0,fun cG ak=>V _ (ag _ (bU _ (by first|(simp only[*];done)|(simp only[*];exact cT (fun v=>cG (.v v) none) ak)|exact cT (fun v=>cG (.v v) none) ak)))⟩
     ·obtain⟨v,dh,cT⟩:=fP.cut _ _ _ _ _ _ _ a6
      exact⟨_,_,dh,n0,fun cG ak=>V _ (ag _ (bU _ (by first|(simp only[*];done)|(simp only[*];exact cT (fun v=>cG (.v v) none) ak)|exact cT (fun v=>cG (.v v) none) ak)))⟩
     ·obtain⟨v,dh,cT⟩:=fP.cut _ _ _ _ _ _ _ a6
      exact⟨_,_,dh,n0,fun cG ak=>V _ (ag _ (bU _ (by first|(simp only[*];done)|(simp only[*];exact cT (fun v=>cG (.v v) none) ak)|exact cT (fun v=>cG (.v v) none) ak)))⟩
     ·exact False.elim a6
    ·exact False.elim a6
   ·exact False.elim a6
 case call c=>
  split at h
  ·obtain⟨vs,O,V⟩:=fP.Xm _ _ _ h
   split at O
   ·rename_i t xi
    split at O
    ·rename_i i ai
     split at O
     ·rename_i e aL
      exact⟨_,_,O,n0,fun cG ak=>V _ (by simp only[xi,ai,aL];exact ak)⟩
     ·exact False.elim O
    ·exact False.elim O
   ·exact False.elim O
  ·exact False.elim h
end
end Go.Proofs.YtcflcebplhdcpaaGreat
