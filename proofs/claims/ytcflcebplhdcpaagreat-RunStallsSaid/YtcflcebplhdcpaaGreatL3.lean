/- Lemmas, part 3; each states its own conditions. -/
import Derived.Test.YtcflcebplhdcpaaGreatL2
namespace Go.Proofs.YtcflcebplhdcpaaGreat
open Go.RowKit
set_option linter.unusedSimpArgs false
set_option linter.unusedVariables false
set_option maxRecDepth 100000
set_option maxHeartbeats 16000000
section
variable{P:Program}{T:List (Nat×c5)}{N:gI}{C:an}{cq:Nat->Nat}{ss:bQ}{a:Act}{w:World}{o:Oper}{K:an->bQ->Prop}{Q:Exit->Act->World->Prop}
theorem e7.slice{t:TypeId}{i:c5}(hi:e7 P t i){sz:Nat}(aL:i.d= .eN (some sz)):∃e,P.underlying t=some (.slice e)/\∀w,(sizeOf e).run P w= .ok sz w:=by
 have O:=hi.desc
 cases e:P.underlying t with
 |none=>rw[e] at O;cases O
 |some d=>
  rw[e,aL] at O
  injection O with O
  cases d<;>try(simp[j7.of] at O;done)
  rename_i mg
  simp only[j7.of,j7.eN.injEq] at O
  refine⟨mg,rfl,fun w=>?_⟩
  cases mW:P.info? mg with
  |none=>rw[mW] at O;cases O
  |some c2=>rw[mW] at O;injection O with O;simp[sizeOf,typeInfo,mW,O]
theorem run_sliceBound{k:IntKind}{i:Int}{y:Nat}{c:BoundsCode}(aT:0<=i)(O:i<=y):(Instr.sliceBound (.int k i) y c).run P w= .ok i.toNat w:=by
 simp[Instr.sliceBound,asIntOf,aT,O]
theorem apZ {t:TypeId} {x:Value} {lo hi:Option Value} (bX:gO P T) (r:fR N C cq ss a w) (ad:(execOp a.eval o).run P w=(do pure (Next.value (<-Instr.sliceAt t x lo hi none))).run P w)
  (h:xW P T C t x lo hi fun v aG=>hM N o.dst (.v v) ss (K aG)):o.wp P a w (l2 N K) Q:=by
 have gen:(bk P C (Instr.sliceAt t x lo hi none) fun v aG=>hM N o.dst (.v v) ss (K aG))->o.wp P a w (l2 N K) Q:=fun h=>sS ad r h
 unfold xW at h
 split at h
 ·rename_i A n c i ai
  have hi:=bX _ _ ai
  split at h
  ·rename_i sz aL
   obtain⟨e,aS,ar⟩:=hi.slice aL
   split at h
   ·rename_i k eb
    replace h:=h.out
    obtain⟨_,O,V,aa⟩:=h
    simp only[Option.getD_none,Option.getD_some,Option.isSome_some,dm] at O V
    refine mP (w':=w) ?_ (mH r aa)
    rw[ad]
    simp[Instr.sliceAt,Instr.slice,run_underlying aS,Instr.sliceBounds,run_sliceBound O V,ar]
   ·rename_i k kJ
    replace h:=h.out
    obtain⟨aT,O,V,aa⟩:=h
    simp only[Option.getD_none,Option.getD_some] at aT O
    refine mP (w':=w) ?_ (mH r aa)
    rw[ad]
    simp[Instr.sliceAt,Instr.slice,run_underlying aS,Instr.sliceBounds,run_sliceBound aT O,ar]
   ·rename_i k kJ k' eb
    replace h:=h.out
    obtain⟨aT,O,V,aa⟩:=h
    simp only[Option.getD_none,Option.getD_some,Option.isSome_some,dm] at aT O V
    refine mP (w':=w) ?_ (mH r aa)
    rw[ad]
    simp[Instr.sliceAt,Instr.slice,run_underlying aS,Instr.sliceBounds,run_sliceBound (Int.le_trans aT O) V,run_sliceBound aT (show kJ<=((eb.toNat:Nat):Int) by omega),ar]
   ·exact gen h
  ·exact False.elim h
 ·exact gen h
theorem abX(bX:gO P T)(r:fR N C cq ss a w){c:Call}(aU:o.op= .call c){Z:bF}(il:∀ch aG w',fR N aG cq ss a w'->Z ch aG->Q (.panic ch) a w')(h:te P T C o.type c ss.eval (fun v aG=>hM N o.dst (.v v) ss (K aG)) Z):o.wp P a w (l2 N K) Q:=by
 obtain⟨Q0,args,nM⟩:=c
 unfold te at h
 simp only at h
 have sh:∀(b:Builtin) (vs:List Value),Q0= .builtin b->args.toList.map ss.eval=vs.map cD.v->args.map a.eval=vs.toArray:=fun b vs _ V=>by
  apply oH
  rw[D3]
  exact G8 r V
 have DE:∀(m:Sem Value),(execOp a.eval o).run P w=(do pure (Next.value (<-m))).run P w->(bk P C m fun v aG=>hM N o.dst (.v v) ss (K aG))->o.wp P a w (l2 N K) Q:=fun m O V=>sS O r V
 split at h
 ·rename_i f
  obtain⟨vs,O,V⟩:=wy h
  replace V:=V.out
  obtain⟨af,aj⟩:=V
  have ot:args.map a.eval=vs.toArray:=by
   apply oH
   rw[D3]
   exact G8 r O
  unfold Oper.wp
  have fI:(execOp a.eval o).run P w= .ok (.enter f vs.toArray) w:=by
   have:=af vs.toArray w
   simp[execOp,aU,resolve,Deferred.ofValue,Act.eval,invoke,ot,this]
  rw[fI]
  show Calls P f vs.toArray w _
  refine(aj w r.rest).mono fun e w' eb=>?_
  rcases eb with⟨v,aG,aa,ag,a6,bU⟩|⟨ch,aG,aa,ag,a6,bU⟩
  ·subst aa
   exact mH (r.vM ag a6) bU
  ·subst aa
   exact il ch aG w' (r.vM ag a6) bU
 ·rename_i t
  split at h
  ·rename_i f first cap aK
   obtain⟨vs,O,V⟩:=wy h
   rw[mI,show(first.toList++vs++cap.toList).toArray=first++vs.toArray++cap by apply oH;simp] at V
   replace V:=V.out
   obtain⟨af,aj⟩:=V
   have ot:args.map a.eval=vs.toArray:=by
    apply oH
    rw[D3]
    exact G8 r O
   have y2:a.eval (.tmp t)= .func (.func f) first cap:=by rw[r.eval,aK];rfl
   unfold Oper.wp
   have fI:(execOp a.eval o).run P w= .ok (.enter f (first++vs.toArray++cap)) w:=by
    have:=af (first++vs.toArray++cap) w
    simp only[execOp,aU,resolve,y2,ot,Deferred.ofValue,Sem.run_bind,Sem.run_pure,Result.andThen_ok,invoke]
    exact this
   rw[fI]
   show Calls P f (first++vs.toArray++cap) w _
   refine(aj w r.rest).mono fun e w' eb=>?_
   rcases eb with⟨v,aG,aa,ag,a6,bU⟩|⟨ch,aG,aa,ag,a6,bU⟩
   ·subst aa
    exact mH (r.vM ag a6) bU
   ·subst aa
    exact il ch aG w' (r.vM ag a6) bU
  ·exact False.elim h
 ·obtain⟨vs,O,V⟩:=wy h
  have ot:=sh .len vs rfl O
  split at V
  ·rename_i A n dD t xi
   split at V
   ·rename_i i ai
    split at V
    ·rename_i sz aL
     have hi:=bX _ _ ai
     have xo:=hi.full
     rw[aL] at xo
     obtain⟨axE,rfl⟩:=Option.isSome_iff_exists.1 xo
     obtain⟨e,aS,_⟩:=hi.slice aL
     refine mP (w':=w) ?_ (mH r V)
     have ae3:nM=#[t]:=by rw[<-Array.toArray_toList (xs:=nM),xi]
     subst ae3
     simp[execOp,aU,resolve,invoke,builtin,ot,Builtin.len_,run_underlying aS,goInt]
    ·exact False.elim V
   ·exact False.elim V
  ·exact DE _ (by simp[execOp,aU,resolve,invoke,builtin,ot]) V
 ·obtain⟨vs,O,V⟩:=wy h
  have ot:=sh .append vs rfl O
  exact DE _ (by simp[execOp,aU,resolve,invoke,builtin,ot]) V
 ·obtain⟨vs,O,V⟩:=wy h
  have ot:=sh .copy vs rfl O
  exact DE _ (by simp[execOp,aU,resolve,invoke,builtin,ot]) V
 ·obtain⟨vs,O,V⟩:=wy h
  have ot:=sh .cap vs rfl O
  exact DE _ (by simp[execOp,aU,resolve,invoke,builtin,ot]) V
 ·obtain⟨vs,O,V⟩:=wy h
  have ot:=sh .max vs rfl O
  exact DE _ (by simp[execOp,aU,resolve,invoke,builtin,ot]) V
 ·obtain⟨vs,O,V⟩:=wy h
  have ot:=sh .min vs rfl O
  exact DE _ (by simp[execOp,aU,resolve,invoke,builtin,ot]) V
 ·exact False.elim h
theorem I8{x:Option Operand}{f g:Operand->Value}(h:∀y,x=some y->f y=g y):x.map f=x.map g:=by
 cases x with
 |none=>rfl
 |some y=>simp[h y rfl]
theorem QL:∀{l:List Operand},Ah ss.eval l=true->fR N C cq ss a w->∀x∈l,a.eval x=valOf ss.eval x
 |[],_,_,x,aW=>by cases aW
 |y::l,h,r,x,aW=>by
  unfold Ah at h
  split at h
  ·rename_i v ah
   rcases mz.1 aW with rfl|aW
   ·rw[r.eval,valOf,ah];rfl
   ·exact QL h r x aW
  ·cases h
theorem aa9(r:fR N C cq ss a w){Z:bF}(il:∀ch aG w',fR N aG cq ss a w'->Z ch aG->Q (.panic ch) a w')(ad:execOp a.eval o=execOp (valOf ss.eval) o)(h:ff P C (execOp (valOf ss.eval) o) (fun v aG=>hM N o.dst (.v v) ss (K aG)) Z):o.wp P a w (l2 N K) Q:=by
 unfold Oper.wp
 rw[ad]
 rcases h.out w r.rest with⟨v,w',aG,O,V,aa,ag⟩|⟨w',aG,O,V,aa,ag⟩|⟨v,w',aG,O,V,aa,ag⟩
 ·rw[O];exact mH (r.vM V aa) ag
 ·rw[O];exact mH (r.vM V aa) ag
 ·rw[O];exact il _ aG w' (r.vM V aa) ag
theorem amt{e:Bool}{Z:bF}(il:∀ch aG w',fR N aG cq ss a w'->Z ch aG->Q (.panic ch) a w')(bX:gO P T)(r:fR N C cq ss a w)(h:qP P T e o C ss.eval ss.b (Kn N ss o.dst K) Z):o.wp P a w (l2 N K) Q:=by
 have nR:∀{x:Operand} {v:Value},ss.eval x= .v v->a.eval x=v:=fun{x v} h=>by rw[r.eval,h];rfl
 have ET:∀{x:Operand} {b off:Nat},ss.eval x= .p b off->a.eval x= .pointer (some ⟨cq b,off,none⟩):=fun{x b off} h=>by rw[r.eval,h];rfl
 have gen:∀{l:List Operand},o.op.operands.toList=l->((∀x∈l,a.eval x=valOf ss.eval x)->execOp a.eval o=execOp (valOf ss.eval) o)->js P C ss.eval o (Kn N ss o.dst K) Z->o.wp P a w (l2 N K) Q:=fun{l} ai af h=>by
  obtain⟨O,V⟩:=oj h
  refine aa9 r il (af fun x aW=>QL O r x (by rw[ai];exact aW)) V
 cases aU:o.op<;>simp only[qP,aU,Hx] at h<;>try exact False.elim h
 case nilCheck x=>
  split at h
  ·rename_i b off aW
   exact mP (w':=w) (v:= .pointer (some ⟨cq b,off,none⟩)) (by simp[execOp,aU,ET aW]) (yQ (x:= .p b off) r (fun cu FK e=>by cases e;exact r.DT x _ _ aW) h)
  ·rename_i eV aW
   exact mP (w':=w) (by simp[execOp,aU,nR aW]) (mH r h)
  ·exact gen (l:=[x]) (by simp[aU,Op.operands]) (fun ao=>by simp only[execOp,aU];rw[ao x (by simp)]) h
 case makeInterface t x=>exact gen (l:=[x]) (by simp[aU,Op.operands]) (fun ao=>by simp only[execOp,aU];rw[ao x (by simp)]) h
 case field t x f=>exact gen (l:=[x]) (by simp[aU,Op.operands]) (fun ao=>by simp only[execOp,aU];rw[ao x (by simp)]) h
 case index t x i=>exact gen (l:=[x,i]) (by simp[aU,Op.operands]) (fun ao=>by simp only[execOp,aU];rw[ao x (by simp),ao i (by simp)]) h
 case typeAssert x t t' ok=>exact gen (l:=[x]) (by simp[aU,Op.operands]) (fun ao=>by simp only[execOp,aU];rw[ao x (by simp)]) h
 case panic x=>exact gen (l:=[x]) (by simp[aU,Op.operands]) (fun ao=>by simp only[execOp,aU];rw[ao x (by simp)]) h
 case insert t m k x=>exact gen (l:=[m,k,x]) (by simp[aU,Op.operands]) (fun ao=>by simp only[execOp,aU];rw[ao m (by simp),ao k (by simp),ao x (by simp)]) h
 case mapUpdate t m k x=>exact gen (l:=[m,k,x]) (by simp[aU,Op.operands]) (fun ao=>by simp only[execOp,aU];rw[ao m (by simp),ao k (by simp),ao x (by simp)]) h
 case lookup t m k c=>exact gen (l:=[m,k]) (by simp[aU,Op.operands]) (fun ao=>by simp only[execOp,aU];rw[ao m (by simp),ao k (by simp)]) h
 case makeMap t r=>
  refine gen (l:=r.toList) (by simp[aU,Op.operands]) (fun ao=>?_) h
  simp only[execOp,aU]
  cases r with
  |none=>rfl
  |some r=>simp only[sb];rw[ao r (by simp)]
 case makeFunc fn first cap=>
  refine gen (l:=first.toList++cap.toList) (by simp[aU,Op.operands]) (fun ao=>?_) h
  simp only[execOp,aU]
  have e1:first.map a.eval=first.map (valOf ss.eval):=Array.map_congr_left fun x aW=>ao x (by simp[aW])
  have e2:cap.map a.eval=cap.map (valOf ss.eval):=Array.map_congr_left fun x aW=>ao x (by simp[aW])
  rw[e1,e2]
 case move x=>exact mP (w':=w) (by simp[execOp,aU,r.eval]) (yQ r (r.DT x) h)
 case assign x=>exact mP (w':=w) (by simp[execOp,aU,r.eval]) (yQ r (r.DT x) h)
 case pick c x y=>
  split at h
  ·rename_i t bs
   cases t with
   |true=>exact mP (w':=w) (by simp[execOp,aU,r.eval,bs,cD.den,asBool]) (yQ r (r.DT x) h)
   |false=>exact mP (w':=w) (by simp[execOp,aU,r.eval,bs,cD.den,asBool]) (yQ r (r.DT y) h)
  ·exact False.elim h
 case alloc t=>
  cases e with
  |true=>exact sS (by simp[execOp,aU]) r h
  |false=>
  simp only at h
  split at h
  ·rename_i d aL
   split at h
   ·rename_i i ab ai
    have hi:=bX _ _ ai
    have O:=An h
    refine Uq r ab aL ?_ O
    simp[execOp,aU,Instr.alloc,hi.Jq,newVar,newRow,newObj,Sem.run]
   ·exact False.elim h
  ·exact False.elim h
 case box t x=>
  cases e with
  |true=>
   obtain⟨v,ah,O⟩:=qh h
   exact sS (by simp[execOp,aU,nR ah]) r O
  |false=>
  simp only at h
  split at h
  ·rename_i d aL
   split at h
   ·rename_i ab
    obtain⟨v,ah,O⟩:=qh h
    have V:=An O
    refine Uq r ab aL ?_ V
    simp[execOp,aU,Instr.box,nR ah,newVar,newRow,newObj,Sem.run]
   ·exact False.elim h
  ·exact False.elim h
 case build t parts=>
  split at h
  ·rename_i i ai
   split at h
   ·rename_i ji aL
    have hi:=bX _ _ ai
    obtain⟨ps,bh,O⟩:=Jc h
    have V:=An O
    obtain⟨cs,aa,ag⟩:=hi.built aL V
    refine mP (w':=w) ?_ (mH r ag)
    have pV:(parts.map fun(x:Nat×Operand)=>match x with|(i,x)=>(i,a.eval x)).toList=ps:=by
     rw[<-Ot r bh]
     simp
    have:=run_build w t (parts.map fun(x:Nat×Operand)=>match x with|(i,x)=>(i,a.eval x)) cs.toArray (by rw[pV];exact aa)
    simp only[execOp,aU,Sem.run_bind,this,Result.andThen_ok,Sem.run_pure]
   ·obtain⟨ps,bh,O⟩:=Jc h
    refine sS ?_ r O
    have pV:(parts.map fun(x:Nat×Operand)=>match x with|(i,x)=>(i,a.eval x))=ps.toArray:=by
     apply oH
     rw[D3]
     exact Ot r bh
    simp only[execOp,aU,pV]
  ·exact False.elim h
 case fieldAddr t x f=>
  split at h
  ·rename_i i ai
   split at h
   ·rename_i ji aL
    split at h
    ·rename_i off sz aK
     have hi:=bX _ _ ai
     split at h
     ·rename_i b fX aW
      refine mP (w':=w) (v:= .pointer (some ⟨cq b,fX+off,none⟩)) ?_ ?_
      ·have:=V8 hi aL aK (w:=w) ⟨cq b,fX,none⟩
       rw[Ag] at this
       simp[execOp,aU,ET aW,this]
      ·exact yQ (x:= .p b (fX+off)) r (fun cu FK e=>by cases e;exact r.DT x _ _ aW) h
     ·rename_i eV aW
      refine mP (w':=w) ?_ (mH r h)
      have:=V8 hi aL aK (w:=w) eV
      simp[execOp,aU,nR aW,this]
     ·exact False.elim h
    ·exact False.elim h
   ·exact False.elim h
  ·exact False.elim h
 case load t x=>
  split at h
  ·rename_i b off aW
   split at h
   ·rename_i ty cs i ab ai
    have hi:=bX _ _ ai
    obtain⟨aZ,_⟩:=r.box _ _ _ ab
    split at h
    ·rename_i dX
     rw[mI] at h
     obtain⟨ar,h⟩:=oj h
     have ar:=mA ar
     refine mP (w':=w) ?_ (mH r h)
     have:=O0 hi aZ dX (off:=off) rfl ar
     simp[execOp,aU,ET aW,Instr.loadAt,Instr.sureAddr,this]
    ·rename_i dX
     split at h
     ·rename_i v l ah
      refine mP (w':=w) ?_ (mH r h)
      have:=Wb hi aZ dX ah
      simp[execOp,aU,ET aW,Instr.loadAt,Instr.sureAddr,this]
     ·exact False.elim h
   ·exact False.elim h
  ·rename_i v aW
   exact sS (by simp[execOp,aU,nR aW]) r h
 case store t x y=>
  split at h
  ·rename_i b off aW
   split at h
   ·rename_i ty cs i ab ai
    have hi:=bX _ _ ai
    obtain⟨aZ,_⟩:=r.box _ _ _ ab
    obtain⟨v,ah,O⟩:=qh h
    have V:=An O
    obtain⟨aj,aa⟩:=oj V
    rw[mI] at aa
    simp only[e3] at aj
    have gg:=O1 hi aZ (mA aj.1.1) (nm aj.1.2) (Ce aj.2)
    unfold Oper.wp
    have fI:(execOp a.eval o).run P w= .ok .skip (w.setRow (cq b) (hf cs off v.cells.toList).toArray):=by
     simp[execOp,aU,ET aW,nR ah,Instr.storeAt,Instr.sureAddr,gg]
    rw[fI]
    show l2 N K (a.put o.dst undef) _
    exact mH (r.Wp ab) aa
   ·exact False.elim h
  ·rename_i v aW
   obtain⟨u,aS,O⟩:=qh h
   replace O:=O.out
   obtain⟨w',aG,V,aa,ag,a6⟩:=O w r.rest
   unfold Oper.wp
   have fI:(execOp a.eval o).run P w= .ok .skip w':=by simp[execOp,aU,nR aW,nR aS,V]
   rw[fI]
   show l2 N K (a.put o.dst undef) _
   exact mH (r.vM aa ag) a6
 case binOp op t x y t'=>
  obtain⟨tY,aW,O⟩:=qh h
  obtain⟨wz,bV,V⟩:=qh O
  exact abD bX r aU aW bV V
 case unOp op t x=>
  obtain⟨tY,aW,O⟩:=qh h
  split at O
  ·refine mP (w':=w) ?_ (mH r O)
   simp[execOp,aU,nR aW,Op.unary]
  ·exact sS (by simp[execOp,aU,nR aW]) r O
 case convert s d x=>
  obtain⟨tY,aW,O⟩:=qh h
  exact sS (by simp[execOp,aU,nR aW]) r O
 case extract x i=>
  split at h
  ·rename_i vs aW
   split at h
   ·rename_i v ah
    refine mP (w':=w) ?_ (mH r h)
    have MY:vs[i]?=some v:=by simpa using ah
    simp[execOp,aU,nR aW,Instr.extract,MY]
   ·exact False.elim h
  ·exact False.elim h
 case indexAddr t x i=>
  split at h
  ·rename_i A n c aW
   split at h
   ·rename_i c2 k zk ai hi
    split at h
    ·rename_i sz aL
     obtain⟨e,aS,ar⟩:=(bX _ _ ai).slice aL
     replace h:=h.out
     obtain⟨eV,rfl,aT,O,V⟩:=h
     refine mP (w':=w) ?_ (mH r V)
     simp[execOp,aU,nR aW,nR hi,Instr.indexAt,asIntOf,run_underlying aS,aT,O,ar]
    ·exact False.elim h
   ·exact False.elim h
  ·rename_i eV aW
   obtain⟨k,U,O⟩:=qh h
   exact sS (by simp[execOp,aU,nR aW,nR U]) r O
  ·exact False.elim h
 case slice t x lo hi mx=>
  cases mx with
  |some m=>
   refine gen (l:=[x]++lo.toList++hi.toList++[m]) (by cases lo<;>cases hi<;>simp[aU,Op.operands]) (fun ao=>?_) h
   simp only[execOp,aU,sb]
   rw[ao x (by simp),I8 (x:=lo) (fun y bV=>ao y (by simp[bV])),I8 (x:=hi) (fun y bV=>ao y (by simp[bV])),ao m (by simp)]
  |none=>
   simp only at h
   obtain⟨asF,aW,O⟩:=qh h
   obtain⟨asD,ai,V⟩:=UP O
   obtain⟨axH,eb,aa⟩:=UP V
   exact apZ bX r (by simp[execOp,aU,nR aW,UQ r ai,UQ r eb]) aa
 case buildSlice t n parts=>
  obtain⟨ps,bh,O⟩:=Jc h
  refine sS ?_ r O
  have pV:(parts.map fun(x:Nat×Operand)=>match x with|(i,x)=>(i,a.eval x))=ps.toArray:=by
   apply oH
   rw[D3]
   exact Ot r bh
  simp only[execOp,aU,pV]
 case makeSlice t l c=>
  obtain⟨asD,ai,O⟩:=qh h
  obtain⟨hv,aj,V⟩:=qh O
  exact sS (by simp[execOp,aU,nR ai,nR aj]) r V
 case call c=>exact abX bX r aU il h
end
def vN(want:Bool)(A B:Prop):Prop:=match want with
 |true=>A
 |false=>B
def zm(ss:bQ)(g:Nat)(b:Bool):bQ:=match ss with
 |⟨s,jN⟩=>⟨fm s g (.v (.bool b)),jN⟩
def ln:List Oper->Nat->Option Oper
 |[],_=>none
 |o::_,0=>some o
 |_::l,n+1=>ln l n
theorem tM(l:List Oper)(i:Nat):ln l i=l[i]?:=by
 induction l generalizing i with
 |nil=>simp[ln]
 |cons o l cy=>cases i with
  |zero=>rfl
  |succ n=>simp[ln,cy]
def j9(ops:List Oper)(o:Oper)(ss:bQ)(A B:bQ->Prop):Prop:=match o.guard with
 |none=>A ss
 |some (j,want)=>match ln ops j with
  |some v9=>match v9.dst with
   |some g=>match ss.s g with
    | .v (.bool b)=>ba b (vN want (A (zm ss g true)) (B (zm ss g true))) (vN want (B (zm ss g false)) (A (zm ss g false)))
    | .v (.tuple _)=>B ss
    |_=>False
   |none=>False
  |none=>False
def Rs(N:gI)(dst:Option Tmp)(x:cD)(s:Nat->cD)(b:Nat->Option (TypeId×List Value))(jb:Option (Nat×TypeId×List Value))(K:bQ->Prop):Prop:=match jb with
 |none=>hM N dst x ⟨s,b⟩ K
 |some (d,t,cs)=>hM N dst x ⟨s,fm b d (some (t,cs))⟩ K
theorem adX(N:gI)(dst:Option Tmp)(x:cD)(s:Nat->cD)(b:Nat->Option (TypeId×List Value))(jb:Option (Nat×TypeId×List Value))(K:bQ->Prop):Rs N dst x s b jb K=hM N dst x ⟨s,wV b jb⟩ K:=by
 cases jb<;>rfl
def Ht(N:gI)(dst:Option Tmp):Bool:=match dst with
 |some d=>N.esc d
 |none=>false
abbrev kk:=List PanicEntry->an->bQ->Prop
def kv(P:Program)(T:List (Nat×c5))(N:gI)(ops:List Oper)(o:Oper)(C:an)(ss:bQ)(K:an->bQ->Prop)(Z:kk):Prop:=
 j9 ops o ss (fun ss=>match ss with|⟨s,b⟩=>qP P T (Ht N o.dst) o C (bQ.eval ⟨s,b⟩) b (fun aG x jb=>Rs N o.dst x s b jb (K aG)) (fun ch aG=>Z ch aG ⟨s,b⟩)) (fun ss=>hM N o.dst (.v undef) ss (K C))
theorem Bx(P:Program)(T:List (Nat×c5))(N:gI)(ops:List Oper)(o:Oper)(C:an)(ss:bQ)(K:an->bQ->Prop)(Z:kk):kv P T N ops o C ss K Z=j9 ops o ss (fun ss=>qP P T (Ht N o.dst) o C ss.eval ss.b (fun aG x jb=>hM N o.dst x ⟨ss.s,wV ss.b jb⟩ (K aG)) (fun ch aG=>Z ch aG ss)) (fun ss=>hM N o.dst (.v undef) ss (K C)):=by
 unfold kv
 simp only[adX]
def I7(P:Program)(T:List (Nat×c5))(N:gI)(ops:List Oper)(l:List Oper)(Z:kk):an->bQ->(an->bQ->Prop)->Prop:=
 List.rec (motive:=fun _=>an->bQ->(an->bQ->Prop)->Prop) (fun C ss K=>K C ss) (fun o _ cy C ss K=>kv P T N ops o C ss (fun aG bo=>cy aG bo K) Z) l
inductive fx where
 |done
 |pure (i:Nat) (late:List Nat) (next:fx)
 |alt (i:Nat) (next:fx) (more:fx)
 |look (i:Nat) (next:fx)
 |nx (i:Nat) (next:fx) (more:fx)
 |stop
def axr:Op->Bool
 | .move _| .assign _| .pick .. | .build .. | .fieldAddr .. | .load .. | .nilCheck _| .binOp .. | .unOp .. | .extract .. | .indexAddr .. | .slice .. =>true
 | .call {callee:= .builtin .len,.. }=>true
 |_=>false
def xL(T:List (Nat×c5))(o:Oper)(ao:Operand->cD)(jN:Nat->Option (TypeId×List Value))(K:cD->Option Nat->Prop):Prop:=
 match o.op with
 | .move x=>xa (ao x) fun x=>K x none
 | .assign x=>xa (ao x) fun x=>K x none
 | .pick c a b=>match ao c with
  | .v (.bool t)=>ba t (xa (ao a) fun x=>K x none) (xa (ao b) fun x=>K x none)
  |_=>False
 | .build t parts=>match nZ T t with
  |some i=>match i.d with
   | .st ji=>oC ao parts.toList fun ps=>nr i.lX fun cs=>pM ji cs ps fun cs=>K (.v (.agg cs.toArray)) none
   |_=>False
  |none=>False
 | .fieldAddr t x f=>match nZ T t with
  |some i=>match i.d with
   | .st ji=>match ji[f]? with
    |some (o,some (sz+1))=>match ao x with
     | .p b off=>K (.p b (off+o)) none
     | .v (.pointer (some a))=>K (.v (.pointer (some (a.add o)))) none
     |_=>False
    |_=>False
   |_=>False
  |none=>False
 | .load t x=>match ao x with
  | .p b off=>match jN b,nZ T t with
   |some (_,cs),some i=>match i.d.agg with
    |true=>km ((cs.drop off).take i.size) fun l=>jO (Nat.beq l.length i.size) (K (.v (.agg l.toArray)) (some b))
    |false=>match cs.drop off with
     |v::_=>K (.v v) (some b)
     |[]=>False
   |_,_=>False
  |_=>False
 | .binOp op t x y _=>ht (ao x) fun a=>ht (ao y) fun b=>match a,b with
  | .int k a,.int k' b=>match op with
   | .shl=>False
   | .shr=>False
   | .and=>False
   | .or=>False
   | .xor=>False
   | .andNot=>False
   |op=>jO (decide (k=k')) (xz op k a b fun v=>K (.v v) none)
  |a,b=>match G1 T op t a b with
   |some r=>K (.v (.bool r)) none
   |none=>False
 | .unOp op _ x=>ht (ao x) fun a=>match op,a with
  | .not,.bool b=>K (.v (.bool !b)) none
  |_,_=>False
 | .nilCheck x=>match ao x with
  | .p b off=>K (.p b off) none
  | .v (.pointer (some eV))=>K (.v (.pointer (some eV))) none
  |_=>False
 | .extract x i=>match ao x with
  | .v (.tuple vs)=>match vs.toList[i]? with
   |some v=>K (.v v) none
   |none=>False
  |_=>False
 | .indexAddr t x i=>match ao x with
  | .v (.slice A n c)=>match nZ T t,ao i with
   |some c2,.v (.int _ k)=>match c2.d with
    | .eN (some sz)=>gn A n k sz fun v=>K (.v v) none
    |_=>False
   |_,_=>False
  |_=>False
 | .slice t x lo hi none=>ht (ao x) fun x=>p6 ao lo fun lo=>p6 ao hi fun hi=>match x,nZ T t with
  | .slice A n c,some i=>match i.d with
   | .eN (some sz)=>match lo,hi with
    |none,some (.int _ h)=>kN A n c sz none (some h) fun v=>K (.v v) none
    |some (.int _ l),none=>kN A n c sz (some l) none fun v=>K (.v v) none
    |some (.int _ l),some (.int _ h)=>kN A n c sz (some l) (some h) fun v=>K (.v v) none
    |_,_=>False
   |_=>False
  |_,_=>False
 | .call c=>match c.callee with
  | .builtin .len=>ki ao c.args.toList fun vs=>match vs,c.argTypes.toList with
   |[.slice _ n _],[t]=>match nZ T t with
    |some i=>match i.d with
     | .eN _=>K (.v (J n)) none
     |_=>False
    |none=>False
   |_,_=>False
  |_=>False
 |_=>False
def qH(ss:bQ)(fO:Option Nat):List Nat->Prop->Prop
 |[],A=>A
 |t::l,A=>match fO with
  |none=>A
  |some b=>match ss.s t with
   | .p cu _=>match Nat.beq cu b with
    |true=>False
    |false=>qH ss fO l A
   |_=>False
def sG:List Nat->Nat->Bool
 |[],_=>false
 |d::l,t=>bif Nat.beq t d then true else sG l t
def A9(ds:List Nat)(r s:Nat->cD):Nat->cD:=fun t=>bif sG ds t then r t else s t
def Ae(Z:kk)(ds:List Nat):kk:=fun ch C ss=> ∀r b,Z ch C ⟨A9 ds r ss.s,b⟩
def yK:List Oper->List Nat
 |[]=> []
 |o::l=>match o.dst with
  |some d=>d::yK l
  |none=>yK l
theorem S0:∀{l:List Nat} {t:Nat},t∈l->sG l t=true
 |d::l,t,h=>by
  simp only[sG]
  cases h with
  |head=>simp
  |tail _ h=>rw[S0 h];cases Nat.beq t d<;>rfl
theorem adg{l:List Oper}{o:Oper}{d:Nat}(h:o∈l)(e:o.dst=some d):d∈yK l:=by
 induction l with
 |nil=>cases h
 |cons x l cy=>
  rcases mz.1 h with h|h
  ·subst h
   simp only[yK,e]
   exact List.mem_cons_self
  ·have:=cy h
   simp only[yK]
   cases x.dst with
   |none=>exact this
   |some d'=>exact List.mem_cons_of_mem _ this
theorem alx{ds:List Nat}{r s:Nat->cD}{d:Nat}{x:cD}(h:d∈ds):A9 ds r (fm s d x)=A9 ds r s:=by
 funext t
 by_cases e:t=d
 ·subst e;simp[A9,S0 h]
 ·simp only[A9];rw[lv _ _ e]
theorem Ae.here{Z:kk}{ds:List Nat}{ch:List PanicEntry}{C:an}{ss:bQ}(h:Ae Z ds ch C ss):Z ch C ss:=by
 have:=h ss.s ss.b
 have e:A9 ds ss.s ss.s=ss.s:=by funext t;simp only[A9];cases sG ds t<;>rfl
 rw[e] at this
 exact this
def GV(ops:List Oper)(Z:kk):Prop:=∀o∈ops,∀d x ch C s b,o.dst=some d->Z ch C ⟨fm s d x,b⟩->Z ch C ⟨s,b⟩
theorem Ae.inv(Z:kk)(ops:List Oper):GV ops (Ae Z (yK ops)):=fun o aU d x ch C s b aL h r cu=>by
 have:=h r cu
 rw[alx (adg aU aL)] at this
 exact this
structure ih(P:Program)(C:an)(m:Sem Value)(K:Value->Prop):Prop where
 out:∃v,(∀w,C.R w->m.run P w= .ok v w)/\K v
def IW(P:Program)(o:Oper)(C:an)(ao:Operand->cD)(K:cD->Prop):Prop:=match o.op with
 | .load t x=>match ao x with
  | .v x=>ih P C (Instr.loadAt t x) fun v=>K (.v v)
  |_=>False
 |_=>False
def ie(aG C:an):Prop:=∀w,aG.R w->C.R w
theorem ie.refl(C:an):ie C C:=fun _ h=>h
structure gN(aG C:an)(A:Prop):Prop where
 le:ie aG C
 out:A
def jC(P:Program)(T:List (Nat×c5))(N:gI)(ops:List Oper)(Z:kk)(kM:fx):an->bQ->(an->bQ->Prop)->Prop:=
 fx.rec (motive:=fun _=>an->bQ->(an->bQ->Prop)->Prop) (fun C ss K=>K C ss)
  (fun i late _ cy C ss K=>match ln ops i with
   |some o=>j9 ops o ss
     (fun ss=>xL T o ss.eval ss.b fun x fO=>qH ss fO late (hM N o.dst x ss fun bo=>cy C bo K))
     (fun ss=>hM N o.dst (.v undef) ss fun bo=>cy C bo K)
   |none=>False)
  (fun i _ more cy Na C ss K=>match ln ops i with
   |some o=>match more with
    | .stop=>kv P T N ops o C ss (fun aG bo=>cy aG bo K) Z
    |_=>kv P T N ops o C ss (fun aG bo=>cy aG bo K) Z/\Na C ss K
   |none=>False)
  (fun i _ cy C ss K=>match ln ops i with
   |some o=>j9 ops o ss
     (fun ss=>IW P o C ss.eval fun x=>hM N o.dst x ss fun bo=>cy C bo K)
     (fun ss=>hM N o.dst (.v undef) ss fun bo=>cy C bo K)
   |none=>False)
  (fun i _ more cy Na C ss K=>match ln ops i with
   |some o=>match more with
    | .stop=>kv P T N ops o C ss (fun aG bo=>gN aG C (cy aG bo K)) Z
    |_=>kv P T N ops o C ss (fun aG bo=>gN aG C (cy aG bo K)) Z/\Na C ss K
   |none=>False)
  (fun _ _ _=>True) kM
theorem ani(P:Program)(T:List (Nat×c5))(N:gI)(ops:List Oper)(Z:kk)(i:Nat)(late:List Nat)(next:fx)(C:an)(ss:bQ)(K:an->bQ->Prop):jC P T N ops Z (.pure i late next) C ss K=match ln ops i with
  |some o=>j9 ops o ss
    (fun ss=>xL T o ss.eval ss.b fun x fO=>qH ss fO late (hM N o.dst x ss fun bo=>jC P T N ops Z next C bo K))
    (fun ss=>hM N o.dst (.v undef) ss fun bo=>jC P T N ops Z next C bo K)
  |none=>False:=rfl
theorem anh(P:Program)(T:List (Nat×c5))(N:gI)(ops:List Oper)(Z:kk)(i:Nat)(next:fx)(C:an)(ss:bQ)(K:an->bQ->Prop):jC P T N ops Z (.look i next) C ss K=match ln ops i with
  |some o=>j9 ops o ss
    (fun ss=>IW P o C ss.eval fun x=>hM N o.dst x ss fun bo=>jC P T N ops Z next C bo K)
    (fun ss=>hM N o.dst (.v undef) ss fun bo=>jC P T N ops Z next C bo K)
  |none=>False:=rfl
theorem ane(P:Program)(T:List (Nat×c5))(N:gI)(ops:List Oper)(Z:kk)(i:Nat)(next more:fx)(C:an)(ss:bQ)(K:an->bQ->Prop):jC P T N ops Z (.alt i next more) C ss K=match ln ops i with
  |some o=>match more with
   | .stop=>kv P T N ops o C ss (fun aG bo=>jC P T N ops Z next aG bo K) Z
   |more=>kv P T N ops o C ss (fun aG bo=>jC P T N ops Z next aG bo K) Z/\jC P T N ops Z more C ss K
  |none=>False:=by
 show(match ln ops i with
   |some o=>match more with
    | .stop=>kv P T N ops o C ss (fun aG bo=>jC P T N ops Z next aG bo K) Z
    |_=>kv P T N ops o C ss (fun aG bo=>jC P T N ops Z next aG bo K) Z/\jC P T N ops Z more C ss K
   |none=>False)=_
 split
 ·cases more<;>rfl
 ·rfl
theorem ang(P:Program)(T:List (Nat×c5))(N:gI)(ops:List Oper)(Z:kk)(i:Nat)(next more:fx)(C:an)(ss:bQ)(K:an->bQ->Prop):jC P T N ops Z (.nx i next more) C ss K=match ln ops i with
  |some o=>match more with
   | .stop=>kv P T N ops o C ss (fun aG bo=>gN aG C (jC P T N ops Z next aG bo K)) Z
   |more=>kv P T N ops o C ss (fun aG bo=>gN aG C (jC P T N ops Z next aG bo K)) Z/\jC P T N ops Z more C ss K
  |none=>False:=by
 show(match ln ops i with
   |some o=>match more with
    | .stop=>kv P T N ops o C ss (fun aG bo=>gN aG C (jC P T N ops Z next aG bo K)) Z
    |_=>kv P T N ops o C ss (fun aG bo=>gN aG C (jC P T N ops Z next aG bo K)) Z/\jC P T N ops Z more C ss K
   |none=>False)=_
 split
 ·cases more<;>rfl
 ·rfl
def Cv:Code->Bool
 | .ret=>false
 | .exit _=>false
 | .goto _=>false
 | .seq a b=>Cv a&&Cv b
 | .cond _ a b=>Cv a||Cv b
 |_=>true
def RZ:List Oper->Bool
 |[]=>false
 |o::l=>match o.guard with
  |none=>RZ l
  |some _=>true
def FH:fx->Bool
 | .pure _ _ n=>FH n
 | .look _ n=>FH n
 | .alt _ n more=>match more with
  | .stop=>FH n
  |_=>true
 | .nx _ n more=>match more with
  | .stop=>FH n
  |_=>true
 |_=>false
def Ti(D:Nat->fx):Code->Bool
 | .cond _ a b=>Cv a&&Cv b
 | .region id ops draw=>RZ ops.toList||(draw&&FH (D id))
 | .block _ _=>false
 |_=>false
def hA(ss:bQ)(q5:bQ->Prop):Prop:=∀N C cq a w,fR N C cq ss a w->∃bo,q5 bo/\fR N C cq bo a w
theorem hA.self{ss:bQ}{q5:bQ->Prop}(h:q5 ss):hA ss q5:=fun N C cq a w r=>⟨ss,h,r⟩
theorem hA.mono{ss:bQ}{q5 Yi:bQ->Prop}(h:hA ss q5)(U:∀ss,q5 ss->Yi ss):hA ss Yi:=fun N C cq a w r=>by
 obtain⟨bo,O,V⟩:=h N C cq a w r
 exact⟨bo,U _ O,V⟩
structure eS(A:(an->bQ->Prop)->Prop)(K:an->bQ->Prop):Prop where
 out:A K\/∃lZ:an->bQ->Prop,A (fun C ss=>hA ss (lZ C))/\∀C ss,lZ C ss->K C ss
theorem eS.go{A:(an->bQ->Prop)->Prop}{K:an->bQ->Prop}(h:A K):eS A K:=⟨.inl h⟩
theorem eS.cut{A:(an->bQ->Prop)->Prop}{K:an->bQ->Prop}(lZ:an->bQ->Prop)(h:A (fun C ss=>hA ss (lZ C)))(U:∀C ss,lZ C ss->K C ss):eS A K:=⟨.inr ⟨lZ,h,U⟩⟩
structure c9(B:an->bQ->(an->bQ->Prop)->Prop)(C:an)(ss:bQ):Prop where
 out:∀hn:an->bQ->Prop,(∀C ss K,B C ss K->(∀aG bo,K aG bo->hn aG bo)->hn C ss)->(∀C ss (q5:bQ->Prop),hA ss q5->(∀bo,q5 bo->hn C bo)->hn C ss)->hn C ss
theorem c9.intro{B:an->bQ->(an->bQ->Prop)->Prop}{C:an}{ss:bQ}(Inv:Nat->an->bQ->Prop)(n:Nat)(aT:hA ss (Inv n C))(h:∀n C ss,Inv n C ss->B C ss fun aG bo=> ∃dT,dT<n/\hA bo (Inv dT aG)):c9 B C ss:=by
 refine⟨fun hn O V=>?_⟩
 have key:∀n C ss,Inv n C ss->hn C ss:=by
  intro n
  induction n using Nat.strongRecOn with
  |ind n cy=>intro C ss hi;exact O C ss _ (h n C ss hi) fun aG bo ⟨dT,aB,au⟩=>V aG bo _ au fun Bw ar=>cy dT aB aG Bw ar
 exact V C ss _ aT fun bo ar=>key n C bo ar
theorem c9.vd{B:an->bQ->(an->bQ->Prop)->Prop}{C:an}{ss:bQ}(h:B C ss fun aG bo=>c9 B aG bo):c9 B C ss:=
 ⟨fun hn O V=>O C ss _ h fun aG bo ai=>ai.out hn O V⟩
def tH:List (Nat×cD)->(Nat->Value)->Nat->cD
 |[],r,t=> .v (r t)
 |(d,x)::l,r,t=>bif Nat.beq t d then x else tH l r t
def tG:List (Nat×TypeId×List Value)->Nat->Option (TypeId×List Value)
 |[],_=>none
 |(d,x)::l,t=>bif Nat.beq t d then some x else tG l t
def CA(ss:bQ):List (Nat×cD)->Prop
 |[]=>True
 |(d,x)::l=>ss.s d=x/\CA ss l
def Cz(ss:bQ):List (Nat×TypeId×List Value)->Prop
 |[]=>True
 |(d,x)::l=>ss.b d=some x/\Cz ss l
def we(a0:List (Nat×TypeId×List Value)):List (Nat×cD)->Bool
 |[]=>true
 |(_,.p b _)::l=>(tG a0 b).isSome&&we a0 l
 |(_,.v _)::l=>we a0 l
theorem beq_false{t d:Nat}(h:t≠d):Nat.beq t d=false:=by
 cases e:Nat.beq t d with
 |false=>rfl
 |true=>exact absurd (mA e) h
theorem NX{ss:bQ}:∀{a0:List (Nat×TypeId×List Value)},Cz ss a0->∀b x,tG a0 b=some x->ss.b b=some x
 |[],_,b,x,h=>by cases h
 |(d,y)::l,aK,b,x,h=>by
  by_cases e:b=d
  ·subst e
   simp only[tG,B7,cond_true] at h
   rw[aK.1,h]
  ·simp only[tG,beq_false e,cond_false] at h
   exact NX aK.2 b x h
theorem Uj{ss:bQ}{cq:Nat->Nat}:∀{l:List (Nat×cD)},CA ss l->∀t,(tH l (fun t=>(ss.s t).den cq) t).den cq=(ss.s t).den cq
 |[],_,t=>rfl
 |(d,y)::l,aK,t=>by
  by_cases e:t=d
  ·subst e
   simp only[tH,B7,cond_true]
   rw[aK.1]
  ·simp only[tH,beq_false e,cond_false]
   exact Uj aK.2 t
theorem Uk{a0:List (Nat×TypeId×List Value)}{r:Nat->Value}:∀{l:List (Nat×cD)},we a0 l=true->∀t b off,tH l r t= .p b off->(tG a0 b).isSome=true
 |[],_,t,b,off,h=>by cases h
 |(d,y)::l,bh,t,b,off,h=>by
  have ai:we a0 l=true:=by
   cases y with
   |v x=>exact bh
   |p b off=>simp only[we,e3] at bh;exact bh.2
  by_cases e:t=d
  ·subst e
   simp only[tH,B7,cond_true] at h
   subst h
   simp only[we,e3] at bh
   exact bh.1
  ·simp only[tH,beq_false e,cond_false] at h
   exact Uk ai t b off h
theorem hA.fit{ss:bQ}{q5:bQ->Prop}(l:List (Nat×cD))(a0:List (Nat×TypeId×List Value))(O:CA ss l)(V:Cz ss a0)(bh:we a0 l=true)(h:∀r,q5 ⟨tH l r,tG a0⟩):hA ss q5:=fun N C cq a w r=>by
 refine⟨_,h fun t=>(ss.s t).den cq,r.size,r.qM,fun t=>?_,fun b ty cs ab=>r.box b ty cs (NX V b _ ab),fun b cu ab dQ e=>?_,fun t b off bs=>Uk bh t b off bs,r.rest⟩
 ·rw[r.slot t]
  exact(Uj O t).symm
 ·have Wy:∀b,(tG a0 b).isSome=true->(ss.b b).isSome=true:=fun b h=>by
   obtain⟨x,aW⟩:=Option.isSome_iff_exists.1 h
   rw[NX V b x aW];rfl
  exact r.inj b cu (Wy b ab) (Wy cu dQ) e
abbrev oL:=Exit->an->bQ->Prop
def QW(id:Nat)(K:an->bQ->Prop)(E:oL):oL:=fun e C ss=>match e with
 | .exit Iu=>match Nat.beq Iu id with
  |true=>K C ss
  |false=>E (.exit Iu) C ss
 |e=>E e C ss
def hv(P:Program)(T:List (Nat×c5))(N:gI)(D:Nat->fx):Code->an->bQ->(an->bQ->Prop)->oL->Prop
 | .skip,C,ss,K,_=>K C ss
 | .label _,C,ss,K,_=>K C ss
 | .region id ops draw,C,ss,K,E=>match draw with
  |false=>I7 P T N ops.toList ops.toList (fun ch C ss=>E (.panic ch) C ss) C ss K
  |true=>jC P T N ops.toList (Ae (fun ch C ss=>E (.panic ch) C ss) (yK ops.toList)) (D id) C ss K
 | .seq x y,C,ss,K,E=>match Ti D x with
  |true=>eS (fun lZ=>hv P T N D x C ss lZ E) fun aG bo=>hv P T N D y aG bo K E
  |false=>hv P T N D x C ss (fun aG bo=>hv P T N D y aG bo K E) E
 | .cond c x y,C,ss,K,E=>match ss.eval c with
  | .v (.bool b)=>ba b (hv P T N D x C ss K E) (hv P T N D y C ss K E)
  |_=>False
 | .block id c,C,ss,K,E=>hv P T N D c C ss K (QW id K E)
 | .loop c,C,ss,_,E=>c9 (fun C ss K=>hv P T N D c C ss K E) C ss
 | .exit id,C,ss,_,E=>E (.exit id) C ss
 | .goto l,C,ss,_,E=>E (.goto l) C ss
 | .ret,C,ss,_,E=>E .ret C ss
 | .scope _,_,_,_,_=>False
 | .rangeFunc ..,_,_,_,_=>False
 | .refuse _,_,_,_,_=>False
end Go.Proofs.YtcflcebplhdcpaaGreat
