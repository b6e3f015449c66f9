/- Lemmas, part 1; each states its own conditions. -/
import Derived.WalkKit
import Derived.Test.YtcflcebplhdcpaaGreatProg
import Derived.Maps.AppendAt
import Derived.Deep.AppendSrc
import Derived.Deep.Draws
import Derived.Lib.Hide
import Derived.RegionTactic
import Derived.Deep.DeepCutAuto
import Derived.Laws.StructEq
import Derived.DeepKeys
import Derived.Deep.AppendLies
import Derived.ProofKit
import Derived.OpenShut
import Derived.Deep.Slices
import Derived.Deep.Fields
import Derived.ChangeSame
namespace Go.Proofs.YtcflcebplhdcpaaGreat
open Go.RowKit
set_option linter.unusedSimpArgs false
set_option linter.unusedVariables false
set_option maxRecDepth 100000
set_option maxHeartbeats 16000000
theorem B0:type_of%@List.any_eq_true:=@List.any_eq_true
theorem B1:type_of%@List.count_append:=@List.count_append
theorem B2:type_of%@List.count_cons:=@List.count_cons
theorem B3:type_of%@List.length_range:=@List.length_range
theorem B4:type_of%@List.perm_iff_count:=@List.perm_iff_count
theorem B5:type_of%@List.set_set:=@List.set_set
theorem B7:type_of%@Nat.beq_refl:=@Nat.beq_refl
theorem BP:type_of%@Bool.not_true:=@Bool.not_true
theorem BQ:type_of%@Bool.true_and:=@Bool.true_and
theorem BZ:type_of%@Int.tmod_lt_of_pos:=@Int.tmod_lt_of_pos
theorem D0:type_of%@Array.getElem?_replicate:=@Array.getElem?_replicate
theorem D1:type_of%@Array.getElem?_setIfInBounds:=@Array.getElem?_setIfInBounds
theorem D2:type_of%@Array.length_toList:=@Array.length_toList
theorem D3:type_of%@Array.toList_map:=@Array.toList_map
theorem D4:type_of%@Bool.eq_false_or_eq_true:=@Bool.eq_false_or_eq_true
theorem DZ:type_of%@Array.getElem?_append:=@Array.getElem?_append
theorem Ee:type_of%@List.drop_eq_getElem_cons:=@List.drop_eq_getElem_cons
theorem Ef:type_of%@List.getD_eq_getElem?_getD:=@List.getD_eq_getElem?_getD
theorem Eg:type_of%@List.getElem?_range:=@List.getElem?_range
theorem Eh:type_of%@List.nil_append:=@List.nil_append
theorem Ei:type_of%@List.replicate_succ:=@List.replicate_succ
theorem Ej:type_of%@List.set_cons_zero:=@List.set_cons_zero
theorem Ek:type_of%@List.take_length:=@List.take_length
theorem El:type_of%@Nat.lt_succ_self:=@Nat.lt_succ_self
theorem Em:type_of%@Nat.mod_eq_of_lt:=@Nat.mod_eq_of_lt
theorem En:type_of%@Nat.not_lt_zero:=@Nat.not_lt_zero
theorem Eo:type_of%@Option.bind_some:=@Option.bind_some
theorem GN:type_of%@List.Perm.append_right:=@List.Perm.append_right
theorem GO:type_of%@List.filterMap_cons:=@List.filterMap_cons
theorem GP:type_of%@List.getElem?_append_left:=@List.getElem?_append_left
theorem GQ:type_of%@List.getElem?_append_right:=@List.getElem?_append_right
theorem GR:type_of%@List.getElem_cons_succ:=@List.getElem_cons_succ
theorem Kp:type_of%@Int.mul_le_mul_of_nonneg_left:=@Int.mul_le_mul_of_nonneg_left
theorem Kq:type_of%@Int.mul_le_mul_of_nonneg_right:=@Int.mul_le_mul_of_nonneg_right
theorem cY:type_of%@Nat.zero_le:=@Nat.zero_le
theorem cZ:type_of%@if_false:=@if_false
theorem dH:type_of%@Bool.false_eq_true:=@Bool.false_eq_true
theorem db:type_of%@List.mem_append_right:=@List.mem_append_right
theorem dm:type_of%@if_true:=@if_true
theorem dr:type_of%@List.Mem.tail:=@List.Mem.tail
theorem e3:type_of%@Bool.and_eq_true:=@Bool.and_eq_true
theorem fM:type_of%@List.getElem_mem:=@List.getElem_mem
theorem gC:type_of%@List.length_append:=@List.length_append
theorem h1:type_of%@Nat.mul_one:=@Nat.mul_one
theorem iw:type_of%@List.mem_append:=@List.mem_append
theorem jc:type_of%@List.mem_filterMap:=@List.mem_filterMap
theorem jr:type_of%@Nat.le_trans:=@Nat.le_trans
theorem kA:type_of%@Nat.add_mul:=@Nat.add_mul
theorem kO:type_of%@List.Perm.swap:=@List.Perm.swap
theorem kz:type_of%@List.length_map:=@List.length_map
theorem l0:type_of%@List.getElem?_eq_some_iff:=@List.getElem?_eq_some_iff
theorem lB:type_of%@Nat.lt_of_lt_of_le:=@Nat.lt_of_lt_of_le
theorem mA:type_of%@Nat.eq_of_beq_eq_true:=@Nat.eq_of_beq_eq_true
theorem my:type_of%@Int.le_refl:=@Int.le_refl
theorem mz:type_of%@List.mem_cons:=@List.mem_cons
theorem nJ:type_of%@List.length_set:=@List.length_set
theorem nK:type_of%@List.mem_singleton:=@List.mem_singleton
theorem nl:type_of%@Int.lt_irrefl:=@Int.lt_irrefl
theorem nm:type_of%@Nat.le_of_ble_eq_true:=@Nat.le_of_ble_eq_true
theorem oH:type_of%@Array.ext':=@Array.ext'
theorem oI:type_of%@Array.getElem?_eq_some_iff:=@Array.getElem?_eq_some_iff
theorem oM:type_of%@List.length_cons:=@List.length_cons
theorem ob:type_of%@List.append_assoc:=@List.append_assoc
theorem oc:type_of%@List.getElem?_map:=@List.getElem?_map
theorem od:type_of%@List.sublist_append_right:=@List.sublist_append_right
theorem pB:type_of%@Nat.lt_or_ge:=@Nat.lt_or_ge
theorem pC:type_of%@Nat.mul_le_mul_right:=@Nat.mul_le_mul_right
theorem pD:type_of%@Option.some.injEq:=@Option.some.injEq
theorem py:type_of%@List.getElem?_take:=@List.getElem?_take
theorem pz:type_of%@List.length_nil:=@List.length_nil
theorem q8:type_of%@List.eq_nil_of_length_eq_zero:=@List.eq_nil_of_length_eq_zero
theorem q9:type_of%@List.getElem?_set_self:=@List.getElem?_set_self
theorem qn:type_of%@List.flatMap_cons:=@List.flatMap_cons
theorem qo:type_of%@List.getElem?_drop:=@List.getElem?_drop
theorem qp:type_of%@Nat.le_succ:=@Nat.le_succ
theorem r4:type_of%@Bool.or_eq_true:=@Bool.or_eq_true
theorem r8:type_of%@Int.toNat_natCast:=@Int.toNat_natCast
theorem r9:type_of%@List.length_take:=@List.length_take
theorem ra:type_of%@List.mem_map:=@List.mem_map
theorem rb:type_of%@List.take_of_length_le:=@List.take_of_length_le
theorem s5:type_of%@List.Sublist.cons_cons:=@List.Sublist.cons_cons
theorem sa:type_of%@List.not_mem_nil:=@List.not_mem_nil
theorem sb:type_of%@Option.map_some:=@Option.map_some
theorem uc:type_of%@Int.eq_ofNat_of_zero_le:=@Int.eq_ofNat_of_zero_le
theorem ue:type_of%@List.take_succ_eq_append_getElem:=@List.take_succ_eq_append_getElem
theorem vn:type_of%@List.map_cons:=@List.map_cons
theorem vo:type_of%@List.perm_middle:=@List.perm_middle
theorem vp:type_of%@Nat.add_zero:=@Nat.add_zero
theorem vq:type_of%@Nat.zero_add:=@Nat.zero_add
theorem wH:type_of%@Array.getD_eq_getD_getElem?:=@Array.getD_eq_getD_getElem?
theorem wI:type_of%@Bool.false_or:=@Bool.false_or
theorem wN:type_of%@Int.zero_ne_one:=@Int.zero_ne_one
theorem wO:type_of%@List.map_map:=@List.map_map
theorem yf:type_of%@List.Sublist.cons:=@List.Sublist.cons
theorem yg:type_of%@List.all_eq_true:=@List.all_eq_true
theorem yh:type_of%@List.length_drop:=@List.length_drop
theorem yi:type_of%@List.nodup_cons:=@List.nodup_cons
theorem yj:type_of%@List.perm_append_comm:=@List.perm_append_comm
theorem yk:type_of%@List.sublist_cons_self:=@List.sublist_cons_self
theorem yl:type_of%@Nat.add_assoc:=@Nat.add_assoc
theorem ym:type_of%@Nat.zero_mul:=@Nat.zero_mul
theorem z4:type_of%@Nat.min_eq_left:=@Nat.min_eq_left
theorem z5:type_of%@Nat.succ_mul:=@Nat.succ_mul
theorem zV:type_of%@Int.tmod_nonneg:=@Int.tmod_nonneg
theorem zW:type_of%@List.cons_append:=@List.cons_append
theorem zX:type_of%@List.flatMap_append:=@List.flatMap_append
theorem zY:type_of%@List.getElem?_set_ne:=@List.getElem?_set_ne
theorem zZ:type_of%@List.map_append:=@List.map_append
theorem b7{ck:Type _}{a:ck}{l:List ck}(h:a∈l:=by repeat(first|exact List.Mem.head _|refine dr _ ?_)):a∈l:=h
theorem dn{ck:Type _}{a:ck}{l ib:List ck}(g:a∈l)(h:a∈l->a∈ib:=by intro g;repeat(first|exact g|refine dr _ ?_)):a∈ib:=h g
theorem nh{P:Prop}(h:P:=by repeat(first|exact List.Mem.head _|refine dr _ ?_|exact db _ (List.Mem.head _))):P:=h
theorem cn{P:Prop}(h:P:=by repeat(first|exact List.Sublist.refl _|refine s5 _ ?_|refine yf _ ?_)):P:=h
theorem ua{P:Prop}(h:P:=by repeat(first|exact List.Sublist.refl _|refine yf _ ?_)):P:=h
theorem mw{P:Prop}(h:P:=by repeat(first|exact h8.here|apply h8.there)):P:=h
theorem S{P:Prop}(h:P:=by omega):P:=h
theorem W{P:Prop}(h:P:=by rfl):P:=h
theorem bP{P:Prop}(h:P:=by kernel_rfl):P:=h
theorem av{P:Prop}(h:P:=by assumption):P:=h
theorem bC{P:Prop}(h:P:=by decide):P:=h
theorem aD{P:Prop}(h:P:=by exact e8 _ _ (by rfl)):P:=h
abbrev ae(b:Nat):Value:= .pointer (some ⟨b,0,none⟩)
abbrev J(i:Int):Value:= .int .i64 i
def dU(w:World)(B:Nat)(A:Option Addr)(xs:List Value):Prop:=
 xs=[]\/∃b off,A=some ⟨b,off,none⟩/\b<B/\∀j u,xs[j]?=some u->w.cell? ⟨b,off+j,none⟩=some u
section
variable{w w':World}{B r3:Nat}{A:Option Addr}{xs:List Value}
theorem dU.nil:dU w B A []:= .inl rfl
theorem dU.ee(h:dU w B A xs)(U:∀p:Addr,p.block<B->w'.cell? p=w.cell? p):dU w' B A xs:=by
 rcases h with rfl|⟨b,off,rfl,ab,aj⟩
 ·exact .inl rfl
 ·exact .inr ⟨b,off,rfl,ab,fun j u aS=>(U _ ab).trans (aj j u aS)⟩
theorem dU.more(h:dU w B A xs)(eZ:B<=r3):dU w r3 A xs:=by
 rcases h with rfl|⟨b,off,rfl,ab,aj⟩
 ·exact .inl rfl
 ·exact .inr ⟨b,off,rfl,by omega,aj⟩
theorem dU.below(h:dU w B A xs)(ab:Below B w w'):dU w' B A xs:=h.ee fun _ bh=>ab.cell bh
theorem dU.top(h:dU w B A xs):dU w w.heap.size A xs:=by
 rcases h with rfl|⟨b,off,rfl,ab,aj⟩
 ·exact .inl rfl
 ·rcases xs with _|⟨x,xs⟩
  ·exact .inl rfl
  ·exact .inr ⟨b,off,rfl,World.block_lt_of_cell? w _ (aj 0 x rfl),aj⟩
theorem dU.on(h:dU w B A xs)(ab:Below w.heap.size w w'):dU w' w'.heap.size A xs:=(h.top.below ab).top
theorem dU.alloc(h:dU w B A xs)(o:Obj):dU (w.alloc o) (w.heap.size+1) A xs:=by
 refine(h.top.ee fun p bh=>World.cell?_alloc_lt w o p bh).more S
theorem dU.drew(h:dU w B A xs):dU w.drew B A xs:=h
theorem dU.at_(h:dU w B A xs){k:Nat}{u:Value}(U:xs[k]?=some u):∃b off,A=some ⟨b,off,none⟩/\b<B/\w.cell? ⟨b,off+k,none⟩=some u:=by
 rcases h with rfl|⟨b,off,rfl,ab,aj⟩
 ·simp at U
 ·exact⟨b,off,rfl,ab,aj k u U⟩
theorem dU.cut(h:dU w B A xs){k cap:Nat}(aj:xs.length<=cap):dU w B (if cap=k then A else A.map (·.add k)) (xs.drop k):=by
 rcases h with rfl|⟨b,off,rfl,ab,gw⟩
 ·left;simp
 ·by_cases U:cap=k
  ·left;simp;omega
  ·right
   refine⟨b,off+k,by simp[U,Addr.add_lit],ab,fun j u aS=>?_⟩
   rw[yl]
   exact gw _ u (by rw[<-aS,qo])
theorem dU.take(h:dU w B A xs)(k:Nat):dU w B A (xs.take k):=by
 rcases h with rfl|⟨b,off,rfl,ab,gw⟩
 ·left;simp
 ·refine .inr ⟨b,off,rfl,ab,fun j u aS=>gw j u ?_⟩
  rw[py] at aS
  split at aS
  ·exact aS
  ·simp at aS
theorem dU.ame{base:Nat}{e:TypeId}{n c:Nat}(h:w.ownsRow base e 1 (.slice A n c) n xs):dU w w.heap.size A xs:=by
 rcases h.2 with⟨ah,aB⟩|⟨g,cap,cur,ah,_,aZ,_⟩
 ·left
  have:=h.1
  exact q8 S
 ·injection ah with b0
  subst b0
  refine .inr ⟨g,0,rfl,(oI.1 aZ).1,fun j u aS=>?_⟩
  have:=h.cells (g:=g) rfl j u aS
  rw[Addr.add_lit] at this
  exact this
end
def Qj(w:World)(row:Option Nat)(v:Value):Prop:=v.ownBlock=row\/∃g,v.ownBlock=some g/\w.heap.size<=g
theorem Qj.refl(w:World)(v:Value):Qj w v.ownBlock v:= .inl rfl
def jt(l:List Nat):List Value:=l.map fun(b:Nat)=>Value.int .u8 (b:Int)
def is(l:List Int):List Value:=l.map fun b=>J b
@[simp] theorem auW (l:List Nat):(jt l).length=l.length:=by simp[jt]
@[simp] theorem awy (l:List Int):(is l).length=l.length:=by simp[is]
@[simp] theorem auV (l m:List Nat):jt (l++m)=jt l++jt m:=by simp[jt]
@[simp] theorem Nk (l m:List Int):is (l++m)=is l++is m:=by simp[is]
theorem ahq(l:List Int)(k:Nat):is (l.drop k)=(is l).drop k:=by simp[is]
theorem Tg(l:List Int)(k:Nat):is (l.take k)=(is l).take k:=by simp[is]
theorem IB(l:List Int):∀u∈is l,u.oneCell'=true:=by
 intro u aS;obtain⟨_,_,rfl⟩:=ra.1 aS;rfl
theorem Nl(l:List Int)(k:Nat)(h:k<l.length):(is l)[k]?=some (J l[k]):=by simp[is,h]
section
variable{P:Program}(w:World)
theorem apg (base:Nat) (t n7 ty e:TypeId) (i:TypeInfo) (z:Value) (size bytes:Nat) (bs:P.underlying t=some (.slice e)) (hi:P.info? e=some i) (b3:i.zero=some z)
  (nw:i.size=size) (xj:i.bytes=bytes) (tu:z.cells.size=size) (rF:0<size)
  (v:Value) (n:Nat) (xs:List Value) (AT:w.ownsRow base e size v n xs) (x:Value) (m:Nat) (news:List Value) (ar:Src P size n7 x m news w)
  (CJ:n+m<=maxLen) (HM:(n+m)*bytes<=140737488355328) (ae4:base<=w.heap.size):
  ∃dw w',(Builtin.append_ #[t,n7] ty #[v,x]).run P w= .ok dw w'/\w'.ownsRow base e size dw (n+m) (xs++news)/\w.grownBy w' v.ownBlock/\
   (dw.ownBlock=v.ownBlock\/dw.ownBlock=some (w.heap.size+0)):=by
 subst nw
 subst xj
 have ai:=ar.newsLen
 have hlen:(xs++news).length=(n+m)*i.size:=by rw[gC,AT.1,ai,kA]
 have grown:∀(fk:Nat) (row:Option Nat),
   (w.drew.alloc (.cells ((xs++news).toArray++Builtin.zeroCells z.cells (grownCap w (n+m) fk e-(n+m))) e)).ownsRow base e i.size
    (.slice (some ⟨w.heap.size,0,none⟩) (n+m) (grownCap w (n+m) fk e)) (n+m) (xs++news)/\
   w.grownBy (w.drew.alloc (.cells ((xs++news).toArray++Builtin.zeroCells z.cells (grownCap w (n+m) fk e-(n+m))) e)) row:=by
  intro fk row
  have sx:=grownCap_ge w (n+m) fk e
  have pS:grownCap w (n+m) fk e<=maxLen:=grownCap_le_maxLen w (n+m) fk e CJ
  refine⟨⟨hlen,.inr ⟨w.heap.size,_,_,rfl,ae4,heap_alloc_new w.drew _,sx,pS,?_,?_⟩⟩,⟨rfl,rfl,rfl,by simp,fun k U _=>Below.heap_alloc w.drew _ k U⟩⟩
  ·rw[Array.size_append,List.size_toArray,size_zeroCells,tu,hlen,<-kA]
   congr 1
   omega
  ·rw[Array.toList_append,<-hlen]
   exact List.take_left
 rcases AT.2 with⟨rfl,rfl⟩|⟨g,cap,cur,rfl,ae6,aZ,Ib,pS,jV,agu⟩
 ·have aW:xs=[]:=q8 (by simpa using AT.1)
  subst aW
  by_cases ad:m=0
  ·subst ad
   have aB:news=[]:=q8 (by simpa using ai)
   subst aB
   refine⟨.slice none 0 0,w,?_,World.ownsRow_nil w base e i.size,World.grownBy.refl _ _,Or.inl rfl⟩
   rcases ar.kind with⟨hJ,U⟩|U<;>simp[Builtin.append_,run_underlying bs,run_underlying U,sizeOf,typeInfo,hi,ar.len,ar.cells]
  ·have aP:=run_append_grow_src (P:=P) w t n7 ty e i z bs hi b3 none 0 0 [] (run_firstCells_none w.drew _ _ _ _) x m news ar S (by simp only[maxLen] at CJ;omega) (growslice_fits S HM)
   have Fe:=grown 0 (Value.ownBlock (.slice none 0 0))
   exact⟨_,_,aP,Fe.1,Fe.2,Or.inr rfl⟩
 ·by_cases kW:n+m<=cap
  ·have CS:n*i.size+news.length<=cur.size:=by rw[ai,jV,<-kA];exact pC _ kW
   have gg:=run_storeCells_at P g (n*i.size) e news 0 cur w aZ (by simpa using CS) ar.one
   simp only[vp] at gg
   have aP:(Builtin.append_ #[t,n7] ty #[.slice (some ⟨g,0,none⟩) n cap,x]).run P w=
     .ok (.slice (some ⟨g,0,none⟩) (n+m) cap) (w.setRow g (cur.toList.take (n*i.size)++news++cur.toList.drop (n*i.size+news.length)).toArray):=by
    rcases ar.kind with⟨hJ,U⟩|U<;>simp[Builtin.append_,run_underlying bs,run_underlying U,sizeOf,typeInfo,hi,ar.len,kW,ar.cells,Addr.add_lit,gg]
   refine⟨_,_,aP,⟨hlen,.inr ⟨g,cap,_,rfl,ae6,setRow_heap w g cur _ e _ aZ,kW,pS,?_,?_⟩⟩,⟨rfl,rfl,rfl,by simp,fun k _ U=>setRow_other w g k _ (fun e=>U (by simp[Value.ownBlock,e]))⟩,Or.inl rfl⟩
   ·simp only[List.size_toArray,gC,r9,yh,D2]
    omega
   ·rw[agu,<-hlen]
    exact List.take_left
  ·have holds:(Builtin.firstCells i.size n (.slice (some ⟨g,0,none⟩) n cap)).run P w.drew= .ok xs.toArray w.drew:=
    run_firstCells_some w.drew i.size n ⟨g,0,none⟩ n cap xs AT.1 (by simpa using AT.cells (g:=g) rfl)
   have aP:=run_append_grow_src (P:=P) w t n7 ty e i z bs hi b3 (some ⟨g,0,none⟩) n cap xs holds x m news ar S (by simp only[maxLen] at CJ;omega) (growslice_fits S HM)
   have Fe:=grown cap (Value.ownBlock (.slice (some ⟨g,0,none⟩) n cap))
   exact⟨_,_,aP,Fe.1,Fe.2,Or.inr rfl⟩
end

inductive cD where
 |v (x:Value)
 |p (b off:Nat)
def cD.den(cq:Nat->Nat):cD->Value
 | .v x=>x
 | .p b off=> .pointer (some ⟨cq b,off,none⟩)
structure bQ where
 s:Nat->cD
 b:Nat->Option (TypeId×List Value)
def fm{ck:Type}(f:Nat->ck)(d:Nat)(x:ck):Nat->ck:=fun t=>bif Nat.beq t d then x else f t
theorem po{ck:Type}(f:Nat->ck)(d:Nat)(x:ck):fm f d x d=x:=by simp[fm]
theorem lv{ck:Type}(f:Nat->ck){d t:Nat}(x:ck)(h:t≠d):fm f d x t=f t:=by
 have:Nat.beq t d=false:=by
  cases e:Nat.beq t d with
  |false=>rfl
  |true=>exact absurd (mA e) h
 simp[fm,this]
theorem asw{ck:Type}(f:Nat->ck){d e:Nat}(x y:ck)(h:d≠e):fm (fm f d x) e y=fm (fm f e y) d x:=by
 funext t
 by_cases O:t=d
 ·subst O;rw[po,lv _ _ h,po]
 ·by_cases V:t=e
  ·subst V;rw[po,lv _ _ O,po]
  ·rw[lv _ _ V,lv _ _ O,lv _ _ O,lv _ _ V]
structure an where
 rn:Nat->Prop
 R:World->Prop
 lt:∀w,R w->∀k,rn k->k<w.heap.size
 wt:∀w w',R w->(∀k,rn k->w'.heap[k]?=w.heap[k]?)->w.heap.size<=w'.heap.size->w'.os=w.os->w'.tape=w.tape->w'.output=w.output->R w'
structure iJ(C:an)(w:World)(aG:an)(w':World):Prop where
 size:w.heap.size<=w'.heap.size
 block:∀k,k<w.heap.size->¬C.rn k->w'.heap[k]?=w.heap[k]?
 new:∀k,aG.rn k->C.rn k\/w.heap.size<=k
theorem iJ.refl(C:an)(w:World):iJ C w C w:=⟨Nat.le_refl _,fun _ _ _=>rfl,fun _ h=> .inl h⟩
structure gI where
 n:Nat
 ds:List Deferred:=[]
 esc:Nat->Bool:=fun _=>false
structure fR(N:gI)(C:an)(cq:Nat->Nat)(ss:bQ)(a:Act)(w:World):Prop where
 size:a.tmps.size=N.n
 qM:a.defers=N.ds
 slot:∀t,a.tmps.getD t undef=(ss.s t).den cq
 box:∀b ty cs,ss.b b=some (ty,cs)->w.heap[cq b]?=some (.cells cs.toArray ty (0,0))/\¬C.rn (cq b)
 inj:∀b cu,(ss.b b).isSome=true->(ss.b cu).isSome=true->cq b=cq cu->b=cu
 wf:∀t b off,ss.s t= .p b off->(ss.b b).isSome=true
 rest:C.R w
def s6(N:gI)(C:an)(ss:bQ)(a:Act)(w:World):Prop:=∃cq,fR N C cq ss a w
def bQ.eval(ss:bQ):Operand->cD
 | .tmp t=>ss.s t
 | .const v=> .v v
 | .global g=> .v (ae g)
 | .func f=> .v (.func (.func f) #[] #[])
section
variable{N:gI}{C aG:an}{cq:Nat->Nat}{ss:bQ}{a:Act}{w w':World}
theorem fR.eval(r:fR N C cq ss a w)(x:Operand):a.eval x=(ss.eval x).den cq:=by
 cases x with
 |tmp t=>exact r.slot t
 |const v=>rfl
 |global g=>rfl
 |func f=>rfl
theorem fR.DT(r:fR N C cq ss a w)(x:Operand):∀b off,ss.eval x= .p b off->(ss.b b).isSome=true:=by
 cases x with
 |tmp t=>exact r.wf t
 |const v=>intro b off h;cases h
 |global g=>intro b off h;cases h
 |func f=>intro b off h;cases h
theorem aed(fl:Array Value)(d t:Nat)(v:Value)(aL:d<fl.size):(fl.setIfInBounds d v).getD t undef=if t=d then v else fl.getD t undef:=by
 rw[wH,wH,D1]
 by_cases h:d=t
 ·subst h;simp[aL]
 ·simp[h,Ne.symm h]
theorem fR.put(r:fR N C cq ss a w){d:Nat}(aL:d<N.n)(x:cD)(aW:∀b off,x= .p b off->(ss.b b).isSome=true):fR N C cq ⟨fm ss.s d x,ss.b⟩ (a.put (some d) (x.den cq)) w:=by
 refine⟨?_,r.qM,fun t=>?_,r.box,r.inj,fun t b off h=>?_,r.rest⟩
 ·simpa[Act.put] using r.size
 ·simp only[Act.put]
  rw[aed _ _ _ _ (by rw[r.size];exact aL)]
  by_cases e:t=d
  ·subst e;simp[po]
  ·simp only[e,cZ];rw[lv _ _ e];exact r.slot t
 ·by_cases e:t=d
  ·subst e;rw[show(bQ.mk (fm ss.s t x) ss.b).s t=x from po _ _ _] at h;exact aW b off h
  ·rw[show(bQ.mk (fm ss.s d x) ss.b).s t=ss.s t from lv _ _ e] at h;exact r.wf t b off h
theorem fR.vM(r:fR N C cq ss a w)(g:iJ C w aG w')(h:aG.R w'):fR N aG cq ss a w':=by
 refine⟨r.size,r.qM,r.slot,fun b ty cs ab=>?_,r.inj,r.wf,h⟩
 obtain⟨O,V⟩:=r.box b ty cs ab
 have cc:cq b<w.heap.size:=(oI.1 O).1
 refine⟨(g.block _ cc V).trans O,fun aL=>?_⟩
 rcases g.new _ aL with aa|aa
 ·exact V aa
 ·omega
theorem fR.drew(r:fR N C cq ss a w):fR N C cq ss a w.drew:=
 ⟨r.size,r.qM,r.slot,r.box,r.inj,r.wf,C.wt _ _ r.rest (fun _ _=>rfl) (Nat.le_refl _) rfl rfl rfl⟩
theorem fR.new(r:fR N C cq ss a w)(d:Nat)(aL:ss.b d=none)(t:TypeId)(cs:List Value):fR N C (fm cq d w.heap.size) ⟨ss.s,fm ss.b d (some (t,cs))⟩ a (w.alloc (.cells cs.toArray t)):=by
 have kr:∀t off b,ss.s t= .p b off->b≠d:=fun t off b h e=>by
  have:=r.wf t b off h
  rw[e,aL] at this
  cases this
 have awl:∀b,(ss.b b).isSome=true->b≠d:=fun b h e=>by rw[e,aL] at h;cases h
 have cc:∀b,(ss.b b).isSome=true->cq b<w.heap.size:=fun b h=>by
  obtain⟨⟨ty,cs⟩,ab⟩:=Option.isSome_iff_exists.1 h
  exact(oI.1 (r.box b ty cs ab).1).1
 have ar:(w.alloc (.cells cs.toArray t)).heap.size=w.heap.size+1:=by simp
 have hold:∀k,k<w.heap.size->(w.alloc (.cells cs.toArray t)).heap[k]?=w.heap[k]?:=fun k U=>Below.heap_alloc w _ k U
 refine⟨r.size,r.qM,fun t=>?_,fun b ty gp ab=>?_,fun b cu h ak e=>?_,fun t b off h=>?_,C.wt _ _ r.rest (fun k U=>hold k (C.lt _ r.rest k U)) (by rw[ar];omega) rfl rfl rfl⟩
 ·rw[r.slot t]
  cases e:ss.s t with
  |v x=>rfl
  |p b off=>simp only[cD.den];rw[lv _ _ (kr t off b e)]
 ·by_cases e:b=d
  ·subst e
   rw[show(bQ.mk ss.s (fm ss.b b (some (t,cs)))).b b=some (t,cs) from po _ _ _] at ab
   injection ab with ab
   injection ab with O V
   subst O V
   rw[po]
   exact⟨heap_alloc_new w _,fun aL=>absurd (C.lt _ r.rest _ aL) S⟩
  ·rw[show(bQ.mk ss.s (fm ss.b d (some (t,cs)))).b b=ss.b b from lv _ _ e] at ab
   rw[lv _ _ e]
   obtain⟨O,V⟩:=r.box b ty gp ab
   exact⟨(hold _ (cc b (by rw[ab];rfl))).trans O,V⟩
 ·by_cases e1:b=d
  ·by_cases e2:cu=d
   ·rw[e1,e2]
   ·rw[show(bQ.mk ss.s (fm ss.b d (some (t,cs)))).b cu=ss.b cu from lv _ _ e2] at ak
    rw[e1,po,lv _ _ e2] at e
    have:=cc cu ak
    omega
  ·rw[show(bQ.mk ss.s (fm ss.b d (some (t,cs)))).b b=ss.b b from lv _ _ e1] at h
   by_cases e2:cu=d
   ·rw[e2,po,lv _ _ e1] at e
    have:=cc b h
    omega
   ·rw[show(bQ.mk ss.s (fm ss.b d (some (t,cs)))).b cu=ss.b cu from lv _ _ e2] at ak
    rw[lv _ _ e1,lv _ _ e2] at e
    exact r.inj b cu h ak e
 ·have:=r.wf t b off h
  by_cases e:b=d
  ·subst e;rw[show(bQ.mk ss.s (fm ss.b b _)).b b=_ from po _ _ _];rfl
  ·rw[show(bQ.mk ss.s (fm ss.b d _)).b b=ss.b b from lv _ _ e];exact this
theorem fR.Wp(r:fR N C cq ss a w){b:Nat}{ty:TypeId}{cs gp:List Value}(ab:ss.b b=some (ty,cs)):fR N C cq ⟨ss.s,fm ss.b b (some (ty,gp))⟩ a (w.setRow (cq b) gp.toArray):=by
 obtain⟨O,V⟩:=r.box b ty cs ab
 have cc:cq b<w.heap.size:=(oI.1 O).1
 have SA:∀k,k≠cq b->(w.setRow (cq b) gp.toArray).heap[k]?=w.heap[k]?:=fun k U=>setRow_other w _ k _ U
 have Pd:∀c,(fm ss.b b (some (ty,gp)) c).isSome=(ss.b c).isSome:=fun c=>by
  by_cases e:c=b
  ·subst e;rw[po,ab];rfl
  ·rw[lv _ _ e]
 refine⟨r.size,r.qM,r.slot,fun c Xh acE aj=>?_,fun c aN h ak e=>r.inj c aN (by rw[<-Pd];exact h) (by rw[<-Pd];exact ak) e,fun t c off h=>by rw[show(bQ.mk ss.s (fm ss.b b (some (ty,gp)))).b c=fm ss.b b (some (ty,gp)) c from rfl,Pd];exact r.wf t c off h,?_⟩
 ·by_cases e:c=b
  ·subst e
   rw[show(bQ.mk ss.s (fm ss.b c (some (ty,gp)))).b c=some (ty,gp) from po _ _ _] at aj
   injection aj with aj
   injection aj with aa ag
   subst aa ag
   exact⟨setRow_heap w _ _ _ _ _ O,V⟩
  ·rw[show(bQ.mk ss.s (fm ss.b b (some (ty,gp)))).b c=ss.b c from lv _ _ e] at aj
   obtain⟨aa,ag⟩:=r.box c Xh acE aj
   refine⟨(SA _ fun hJ=>e (r.inj c b (by rw[aj];rfl) (by rw[ab];rfl) hJ)).trans aa,ag⟩
 ·exact C.wt _ _ r.rest (fun k U=>SA k (fun e=>V (e▸U))) (by simp) rfl rfl rfl
end
abbrev r5:=Option IntKind
def EX(P:Program)(g:TypeId->Option (List r5)):Nat->List Field->Option (List r5)
 |_,[]=>some []
 |off,f::fs=>match decide (f.name≠ "_" /\f.offset=off) with
  |true=>match g f.type with
   |some a=>match decide (P.cellsOf f.type=a.length) with
    |true=>match EX P g (off+a.length) fs with
     |some b=>some (a++b)
     |none=>none
    |false=>none
   |none=>none
  |false=>none
def vL(P:Program):Nat->TypeId->Option (List r5)
 |0,_=>none
 |n+1,t=>match P.underlying t with
  |some (.int k)=>some [some k]
  |some .bool=>some [none]
  |some (.struct fs)=>match P.stoodInHeld t with
   |true=>none
   |false=>EX P (vL P n) 0 fs.toList
  |_=>none
def fit:List r5->List Value->Bool
 |[],[]=>true
 |some k::cL,.int k' _::l=>decide (k=k')&&fit cL l
 |none::cL,.bool _::l=>fit cL l
 |_,_=>false
def mF:List Value->List Value->Bool
 | .int _ a::l,.int _ b::m=>(a==b)&&mF l m
 | .bool a::l,.bool b::m=>(a==b)&&mF l m
 |_,_=>true
theorem Hu:∀{a b:List r5} {l:List Value},fit (a++b) l=true->∃x y,l=x++y/\fit a x=true/\fit b y=true/\x.length=a.length
 |[],b,l,h=>⟨[],l,rfl,rfl,h,rfl⟩
 |some k::a,b,l,h=>by
  match l,h with
  | .int k' n::l,h=>
   simp only[zW,fit,e3,decide_eq_true_eq] at h
   obtain⟨x,y,rfl,O,V,aa⟩:=Hu h.2
   exact⟨.int k' n::x,y,rfl,by simp[fit,h.1,O],V,by simp[aa]⟩
 |none::a,b,l,h=>by
  match l,h with
  | .bool n::l,h=>
   simp only[zW,fit] at h
   obtain⟨x,y,rfl,O,V,aa⟩:=Hu h
   exact⟨.bool n::x,y,rfl,by simp[fit,O],V,by simp[aa]⟩
theorem LA:∀{a:List r5} {x de y wD:List Value},fit a x=true->fit a de=true->mF (x++y) (de++wD)=(mF x de&&mF y wD)
 |[],x,de,y,wD,h,ak=>by
  match x,de,h,ak with
  |[],[],_,_=>simp[mF]
 |some k::a,x,de,y,wD,h,ak=>by
  match x,de,h,ak with
  | .int iY dI::x,.int hV cN::de,h,ak=>
   simp only[fit,e3] at h ak
   simp only[zW,mF,LA h.2 ak.2,Bool.and_assoc]
 |none::a,x,de,y,wD,h,ak=>by
  match x,de,h,ak with
  | .bool dI::x,.bool cN::de,h,ak=>
   simp only[fit] at h ak
   simp only[zW,mF,LA h ak,Bool.and_assoc]
inductive yn(P:Program)(t:TypeId):List Value->Value->Prop where
 |st (fs:Array Field) (h:P.underlying t=some (.struct fs)) (xs:List Value):yn P t xs (.agg xs.toArray)
 |int (k:IntKind) (h:P.underlying t=some (.int k)) (n:Int):yn P t [.int k n] (.int k n)
 |bool (h:P.underlying t=some .bool) (b:Bool):yn P t [.bool b] (.bool b)
section
variable{P:Program}
theorem We{n:Nat}{t:TypeId}{a:List r5}(h:vL P n t=some a)(aj:P.cellsOf t=a.length){l x y:List Value}{off:Nat}(ai:l.drop off=x++y)(aW:fit a x=true)(lM:x.length=a.length)(w:World):∃v,(part t l.toArray off).run P w= .ok v w/\yn P t x v:=by
 cases n with
 |zero=>cases h
 |succ n=>
  unfold vL at h
  cases aS:P.underlying t with
  |none=>rw[aS] at h;cases h
  |some d=>
   rw[aS] at h
   obtain⟨i,hi⟩:=info_of_underlying aS
   have one:∀v,x=[v]->l[off]?=some v:=fun v ah=>by
    have:(l.drop off)[0]?=some v:=by rw[ai,ah];rfl
    rw[qo] at this
    simpa using this
   cases d<;>try(cases h;done)
   case bool=>
    simp only[pD] at h
    subst h
    match x,aW with
    |[.bool b],_=>
     have:=one _ rfl
     exact⟨.bool b,by simp[part,isAgg,run_underlying aS,this],.bool aS b⟩
   case int k=>
    simp only[pD] at h
    subst h
    match x,aW with
    | .int k' m::ib,aW=>
     simp only[fit,e3,decide_eq_true_eq] at aW
     obtain⟨rfl,aW⟩:=aW
     match ib,aW with
     |[],_=>
      have:=one _ rfl
      exact⟨.int k m,by simp[part,isAgg,run_underlying aS,this],.int k aS m⟩
   case struct fs=>
    have rF:i.size=x.length:=by
     have:P.cellsOf t=i.size:=by simp[Program.cellsOf,hi]
     omega
    have tt:List.take x.length (List.drop off l)=x:=by rw[ai];simp
    exact⟨.agg x.toArray,by simp[part,isAgg,run_underlying aS,sizeOf,typeInfo,hi,rF,tt],.st fs aS x⟩
theorem V9{n e:Nat}(cy:∀(t:TypeId) (cL:List r5),vL P n t=some cL->∀(xs fT:List Value) (x y:Value),yn P t xs x->yn P t fT y->fit cL xs=true->fit cL fT=true->∀w,(Op.equalIn (n+e) t x y).run P w= .ok (mF xs fT) w):∀(fs:List Field) (off:Nat) (cL:List r5),EX P (vL P n) off fs=some cL->∀(l m:List Value),fit cL (l.drop off)=true->fit cL (m.drop off)=true->∀w,(Op.eqFields (n+e) l.toArray m.toArray fs).run P w= .ok (mF (l.drop off) (m.drop off)) w
 |[],off,cL,h,l,m,ai,ad,w=>by
  simp only[EX,pD] at h
  subst h
  match l.drop off,m.drop off,ai,ad with
  |[],[],_,_=>simp[Op.eqFields,mF]
 |f::fs,off,cL,h,l,m,ai,ad,w=>by
  unfold EX at h
  split at h
  ·rename_i aL
   have aL:=of_decide_eq_true aL
   split at h
   ·rename_i a a8
    split at h
    ·rename_i CO
     have CO:=of_decide_eq_true CO
     split at h
     ·rename_i b ab
      simp only[pD] at h
      subst h
      obtain⟨x,de,O,V,aa,ag⟩:=Hu ai
      obtain⟨y,wD,a6,bU,dh,cT⟩:=Hu ad
      obtain⟨v,ah,cP⟩:=We a8 CO O V ag w
      obtain⟨u,aS,amx⟩:=We a8 CO a6 bU cT w
      have af:=cy f.type a a8 x y v u cP amx V bU w
      have H4:l.drop (off+a.length)=de:=by rw[<-List.drop_drop,O,<-ag];simp
      have dY:m.drop (off+a.length)=wD:=by rw[<-List.drop_drop,a6,<-cT];simp
      have aP:=V9 cy fs (off+a.length) b ab l m (by rw[H4];exact aa) (by rw[dY];exact dh) w
      rw[H4,dY] at aP
      rw[O,a6,LA V bU]
      simp only[Op.eqFields,aL.1,ne_eq,not_false_eq_true,dm,aL.2,Sem.run_bind,ah,Result.andThen_ok,aS,af]
      cases mF x y with
      |true=>simpa using aP
      |false=>simp
     ·cases h
    ·cases h
   ·cases h
  ·cases h
theorem V7:∀(n e:Nat) (t:TypeId) (cL:List r5),vL P n t=some cL->∀(xs fT:List Value) (x y:Value),yn P t xs x->yn P t fT y->fit cL xs=true->fit cL fT=true->∀w,(Op.equalIn (n+e) t x y).run P w= .ok (mF xs fT) w
 |0,e,t,cL,h,_,_,_,_,_,_,_,_,_=>by cases h
 |n+1,e,t,cL,h,xs,fT,x,y,amE,Ok,Hy,Hz,w=>by
  rw[show n+1+e=(n+e)+1 by omega]
  unfold vL at h
  cases amE with
  |st fs aS=>
   cases Ok with
   |st gq jZ=>
    rw[aS] at h
    simp only at h
    split at h
    ·cases h
    ·rename_i ar
     have aK:P.fieldsOf t=fs:=by simp[Program.fieldsOf,aS]
     rw[run_equalIn_struct w (n+e) t _ _ (by rw[aK];exact aS) (by simpa using ar),aK]
     have:=V9 (fun t cL h=>V7 n e t cL h) fs.toList 0 cL h xs fT (by simpa using Hy) (by simpa using Hz) w
     simpa using this
   |int k jZ m=>rw[aS] at jZ;cases jZ
   |bool jZ b=>rw[aS] at jZ;cases jZ
  |int k aS m=>
   cases Ok with
   |st fs jZ=>rw[aS] at jZ;cases jZ
   |int k' jZ gR=>
    rw[aS] at jZ
    injection jZ with jZ
    injection jZ with jZ
    subst jZ
    rw[run_equalIn_int w (n+e) t k k m gR aS]
    simp[mF]
   |bool jZ b=>rw[aS] at jZ;cases jZ
  |bool aS b=>
   cases Ok with
   |st fs jZ=>rw[aS] at jZ;cases jZ
   |int k' jZ gR=>rw[aS] at jZ;cases jZ
   |bool jZ cu=>
    rw[run_equalIn_bool w (n+e) t b cu aS]
    simp[mF]
theorem apk{t:TypeId}{cL:List r5}(U:vL P 5 t=some cL)(ar:(match P.underlying t with|some (.struct _)=>true|_=>false)=true)(aZ:P.eqGuardType P.depth t=false){xs fT:List Value}(Hy:fit cL xs=true)(Hz:fit cL fT=true)(x y:Operand)(w:World):
  ((do eqGuard .eql t x y (.agg xs.toArray) (.agg fT.toArray);binOp .eql t (.agg xs.toArray) (.agg fT.toArray)):Sem Value).run P w= .ok (.bool (mF xs fT)) w/\((do eqGuard .neq t x y (.agg xs.toArray) (.agg fT.toArray);binOp .neq t (.agg xs.toArray) (.agg fT.toArray)):Sem Value).run P w= .ok (.bool (!mF xs fT)) w:=by
 have aS:∃fs,P.underlying t=some (.struct fs):=by
  split at ar
  ·rename_i fs h;exact⟨fs,h⟩
  ·cases ar
 obtain⟨fs,aS⟩:=aS
 have:=V7 5 9995 t cL U xs fT _ _ (.st fs aS xs) (.st fs aS fT) Hy Hz w
 rw[show 5+9995=10000 from rfl] at this
 constructor
 ·rw[Sem.run_bind,run_eqGuard_agg w .eql t x y _ _ aZ,Result.andThen_ok,run_eql_struct,this];rfl
 ·rw[Sem.run_bind,run_eqGuard_agg w .neq t x y _ _ aZ,Result.andThen_ok,run_neq_struct,this];rfl
end
structure iH(C:Nat->Prop)(w w':World):Prop where
 os:w'.os=w.os
 tape:w'.tape=w.tape
 output:w'.output=w.output
 size:w.heap.size<=w'.heap.size
 block:∀k,k<w.heap.size->¬C k->w'.heap[k]?=w.heap[k]?
section
variable{C D:Nat->Prop}{w be az:World}
theorem iH.refl(C:Nat->Prop)(w:World):iH C w w:=⟨rfl,rfl,rfl,Nat.le_refl _,fun _ _ _=>rfl⟩
theorem iH.trans(h:iH C w be)(V:iH C be az):iH C w az:=
 ⟨V.os.trans h.os,V.tape.trans h.tape,V.output.trans h.output,jr h.size V.size,fun k U aj=>(V.block k (lB U h.size) aj).trans (h.block k U aj)⟩
theorem iH.then(h:iH C w be)(V:iH D be az)(aL:∀k,D k->C k\/w.heap.size<=k):iH C w az:=
 ⟨V.os.trans h.os,V.tape.trans h.tape,V.output.trans h.output,jr h.size V.size,fun k U aj=>(V.block k (lB U h.size) (fun o3=>by rcases aL k o3 with O|O;exact aj O;omega)).trans (h.block k U aj)⟩
theorem iH.mono(h:iH C w be)(aL:∀k,k<w.heap.size->C k->D k):iH D w be:=
 ⟨h.os,h.tape,h.output,h.size,fun k U aj=>h.block k U (fun yZ=>aj (aL k U yZ))⟩
theorem iH.drew(h:iH C w be):iH C w be.drew:=⟨h.os,h.tape,h.output,h.size,h.block⟩
theorem iH.alloc(h:iH C w be)(o:Obj):iH C w (be.alloc o):=
 ⟨h.os,h.tape,h.output,jr h.size (by simp),fun k U aj=>(Below.heap_alloc be o k (lB U h.size)).trans (h.block k U aj)⟩
theorem iH.setCell(h:iH C w be){p:Addr}(bh:C p.block\/w.heap.size<=p.block)(u:Value):iH C w (be.setCell p u):=
 ⟨h.os,h.tape,h.output,by simpa[World.setCell] using h.size,fun k U aj=>(Below.heap_setCell be p u k (by rintro rfl;rcases bh with O|O;exact aj O;omega)).trans (h.block k U aj)⟩
theorem iH.grown(h:iH C w be){row:Option Nat}(aZ:be.grownBy az row)(aP:∀k,row=some k->C k\/w.heap.size<=k):iH C w az:=
 h.then (D:=fun k=>row=some k) ⟨aZ.os,aZ.tape,aZ.output,aZ.size,fun k U aj=>aZ.block k U (fun e=>aj e.symm)⟩ aP
theorem iH.FJ(h:Below w.heap.size w be)(C:Nat->Prop):iH C w be:=⟨h.os,h.tape,h.output,h.size,fun k U _=>h.block k U⟩
theorem iH.below(h:iH C w be){B:Nat}(eZ:B<=w.heap.size)(aj:∀k,C k->B<=k):Below B w be:=
 ⟨h.os,h.tape,h.output,h.size,fun k U=>h.block k S (fun O=>by have:=aj k O;omega)⟩
theorem iH.cell(h:iH C w be){p:Addr}(bh:p.block<w.heap.size)(aj:¬C p.block):be.cell? p=w.cell? p:=World.cell?_of_block (h.block _ bh aj)
end
def iT(w:World)(g:Nat)(t:TypeId)(cs:Array Value):Prop:=w.heap[g]?=some (.cells cs t (0,0))
section
variable{w w':World}{g:Nat}{t:TypeId}{cs:Array Value}
theorem iT.lt(h:iT w g t cs):g<w.heap.size:=(oI.1 h).1
theorem iT.cell(h:iT w g t cs)(i:Nat):w.cell? ⟨g,i,none⟩=cs[i]?:=cell_of_row w g i cs t (0,0) h
theorem iT.new(w:World)(t:TypeId)(cs:Array Value):iT (w.alloc (.cells cs t)) w.heap.size t cs:=heap_alloc_new w _
theorem iT.drew(h:iT w g t cs):iT w.drew g t cs:=h
theorem iT.alloc(h:iT w g t cs)(o:Obj):iT (w.alloc o) g t cs:=(Below.heap_alloc w o g h.lt).trans h
theorem iT.set(h:iT w g t cs)(i:Nat)(u:Value):iT (w.setCell ⟨g,i,none⟩ u) g t (cs.setIfInBounds i u):=by
 unfold iT at h|-
 simp[World.setCell,Array.getElem?_modify,h]
theorem iT.jR{C:Nat->Prop}(h:iT w g t cs)(aK:iH C w w')(aj:¬C g):iT w' g t cs:=(aK.block g h.lt aj).trans h
theorem iT.below{B:Nat}(h:iT w g t cs)(ab:Below B w w')(aZ:g<B):iT w' g t cs:=(ab.block g aZ).trans h
theorem iT.inj{t':TypeId}{gp:Array Value}(h:iT w g t cs)(ak:iT w g t' gp):cs=gp/\t=t':=by
 unfold iT at h ak
 rw[h] at ak
 injection ak with ak
 injection ak with O V
 exact⟨O,V⟩
end
theorem dU.jR{C:Nat->Prop}{w w':World}{A:Option Addr}{xs:List Value}(h:dU w w.heap.size A xs)(aK:iH C w w')(aj:∀eV,A=some eV->¬C eV.block):dU w' w'.heap.size A xs:=by
 rcases h with rfl|⟨b,off,rfl,ab,gw⟩
 ·exact .inl rfl
 ·refine .inr ⟨b,off,rfl,lB ab aK.size,fun j u aS=>?_⟩
  rw[aK.cell (p:=⟨b,off+j,none⟩) ab (aj ⟨b,off,none⟩ rfl)]
  exact gw j u aS
def l3(w:World)(e:TypeId)(size g n cap:Nat)(xs:List Value):Prop:=w.ownsRow 0 e size (.slice (some ⟨g,0,none⟩) n cap) n xs
section
variable{w w':World}{e:TypeId}{size g n cap:Nat}{xs:List Value}
theorem l3.oS(h:l3 w e size g n cap xs):∃cur,iT w g e cur/\n<=cap/\cap<=9223372036854775807/\cur.size=cap*size/\cur.toList.take (n*size)=xs:=by
 rcases h.2 with⟨ak,_⟩|⟨bH,fD,cur,ak,_,aZ,O,V,aa,ag⟩
 ·cases ak
 ·injection ak with a8 _ aj
  injection a8 with a8
  injection a8 with a8
  subst a8 aj
  exact⟨cur,aZ,O,V,aa,ag⟩
theorem l3.lt(h:l3 w e size g n cap xs):g<w.heap.size:=by obtain⟨cur,ab,_⟩:=h.oS;exact ab.lt
theorem l3.len(h:l3 w e size g n cap xs):xs.length=n*size:=h.1
theorem l3.kl(h:l3 w e size g n cap xs):n<=cap/\cap<=9223372036854775807:=by obtain⟨cur,_,O,V,_⟩:=h.oS;exact⟨O,V⟩
theorem l3.cell(h:l3 w e size g n cap xs)(j:Nat)(a9:j<n*size):w.cell? ⟨g,j,none⟩=xs[j]?:=World.ownsRow.cellAt h j a9
theorem l3.set(h:l3 w e size g n cap xs)(j:Nat)(u:Value):l3 (w.setCell ⟨g,j,none⟩ u) e size g n cap (xs.set j u):=(World.ownsRow.stored h j u).1
theorem l3.jR{C:Nat->Prop}(h:l3 w e size g n cap xs)(aK:iH C w w')(aj:¬C g):l3 w' e size g n cap xs:=by
 refine⟨h.1,?_⟩
 rcases h.2 with⟨ak,_⟩|⟨bH,fD,cur,ak,ab,aZ,O⟩
 ·cases ak
 ·have afy:bH=g:=by injection ak with a8;injection a8 with a8;injection a8 with a8;exact a8.symm
  subst afy
  exact .inr ⟨bH,fD,cur,ak,ab,(aK.block bH (oI.1 aZ).1 aj).trans aZ,O⟩
theorem l3.alloc(h:l3 w e size g n cap xs)(o:Obj):l3 (w.alloc o) e size g n cap xs:=h.jR ((iH.refl (fun _=>False) w).alloc o) (fun h=>h)
theorem l3.new(w:World)(e:TypeId)(size n:Nat)(cs:Array Value)(ad:n<=9223372036854775807)(ar:cs.size=n*size):l3 (w.alloc (.cells cs e)) e size w.heap.size n n cs.toList:=
 World.ownsRow_lit w cs n (cY _) ad ar
theorem l3.rd(h:l3 w e 1 g n cap xs):dU w w.heap.size (some ⟨g,0,none⟩) xs:=dU.ame h
end
theorem oQ {A B C : Prop} (k : B) (l : C) (h : B -> C -> A := by
  intro k l
  first | exact ⟨k, l⟩ | exact ba.dec k l | exact ba.v7 k l | exact ba.sk k l | exact ba.sM k l) : A := h k l
theorem aaQ {A B C : Prop} (k : B) (l : C) (h : B -> C -> A := by
  intro k l
  first | exact ba.dec k l | exact ba.v7 k l | exact ba.sk k l | exact ba.sM k l | exact ba.eq k l) : A := h k l
theorem axS {A B C : Prop} (k : B) (l : C) (h : B -> C -> A := by
  intro k l
  first | exact ba.Uy k l) : A := h k l
theorem axT {A B C : Prop} (k : B) (l : C) (h : B -> C -> A := by
  intro k l
  first | exact gs k l) : A := h k l
theorem QB {A B C : Prop} (k : B) (l : C) (h : B -> C -> A := by
  intro k l
  first | exact ⟨k, l⟩ | exact ba.dec k l | exact ba.v7 k l | exact ba.sk k l | exact ba.sM k l | exact ba.intro k l) : A := h k l
theorem auG {A B C : Prop} (k : B) (l : C) (h : B -> C -> A := by
  intro k l
  first | exact ⟨k, l⟩ | exact ba.Uy k l) : A := h k l
theorem aaR {A B C : Prop} (k : B) (l : C) (h : B -> C -> A := by
  intro k l
  first | exact ba.dec k l | exact ba.v7 k l | exact ba.sk k l | exact ba.sM k l) : A := h k l
theorem lF {A B C : Prop} (k : B) (l : C) (h : B -> C -> A := by
  intro k l
  first | exact ⟨k, l⟩) : A := h k l
theorem iK {A B C : Prop} (k : B) (l : C) (h : B -> C -> A := by
  intro k l
  first | exact ⟨k, l⟩ | exact ba.dec k l | exact ba.v7 k l | exact ba.Uy k l | exact ba.sk k l | exact ba.sM k l | exact ba.intro k l) : A := h k l
theorem QC {A B : Prop} (k : B) (h : B -> A := by
  intro k
  first | exact axN k | exact axP k | exact axQ k | exact hy.go k | exact pE.go k) : A := h k
theorem auH {A B : Prop} (k : B) (h : B -> A := by
  intro k
  first | exact axN k | exact axO k | exact axP k | exact axQ k | exact axR k | exact eS.go k | exact hy.go k | exact pE.go k) : A := h k
theorem aaT {A B : Prop} (k : B) (h : B -> A := by
  intro k
  first | exact axN k | exact axO k | exact axP k | exact hy.go k | exact pE.go k) : A := h k
theorem aaU {A B : Prop} (k : B) (h : B -> A := by
  intro k
  first | exact axN k | exact axO k | exact eS.go k) : A := h k
theorem auI {A B : Prop} (k : B) (h : B -> A := by
  intro k
  first | exact axN k | exact axP k | exact axQ k | exact eS.go k | exact hy.go k | exact pE.go k) : A := h k
theorem auJ {A B : Prop} (k : B) (h : B -> A := by
  intro k
  first | exact axN k | exact axO k | exact axP k | exact axQ k) : A := h k
theorem auK {A B : Prop} (k : B) (h : B -> A := by
  intro k
  first | exact axN k | exact axR k | exact eS.go k | exact hy.go k | exact pE.go k) : A := h k
theorem auL {A B : Prop} (k : B) (h : B -> A := by
  intro k
  first | exact axN k | exact axO k | exact axR k | exact eS.go k | exact hy.go k) : A := h k
theorem Ez {A B : Prop} (k : B) (h : B -> A := by
  intro k
  first | exact axN k | exact axO k | exact axR k | exact eS.go k | exact hy.go k | exact pE.go k) : A := h k
theorem KF {A B : Prop} (k : B) (h : B -> A := by
  intro k
  first | exact axO k | exact axP k | exact axQ k | exact eS.go k | exact hy.go k | exact pE.go k) : A := h k
theorem jJ {A B : Prop} (k : B) (h : B -> A := by
  intro k
  first | exact axN k | exact axO k | exact eS.go k | exact hy.go k | exact pE.go k) : A := h k
theorem auM {A B : Prop} (k : B) (h : B -> A := by
  intro k
  first | exact axN k | exact axO k) : A := h k
theorem QD {A B : Prop} (k : B) (h : B -> A := by
  intro k
  first | exact eS.go k) : A := h k
theorem axU {A B : Prop} (k : B) (h : B -> A := by
  intro k
  first | exact ea k) : A := h k
theorem auN {A B : Prop} (k : B) (h : B -> A := by
  intro k
  first | exact axN k) : A := h k
theorem jK {A B : Prop} (k : B) (h : B -> A := by
  intro k
  first | exact axN k | exact axO k | exact axP k | exact axQ k | exact eS.go k | exact hy.go k | exact pE.go k) : A := h k
theorem axN {A B : Prop} (k : B) (h : B -> A := by intro k; ((with_reducible show bk _ _ _ _); first | exact uS k | exact IM k | exact h2 _ rfl k | exact fv (by repeat (first | exact List.Mem.head _ | refine dr _ ?_)) (e8 _ _ (by rfl)) (by rfl) (by rfl) k | exact ke (by repeat (first | exact List.Mem.head _ | refine dr _ ?_)) (e8 _ _ (by rfl)) (by rfl) k | exact hT (e8 _ _ (by rfl)) _ rfl k)) : A := h k
theorem axO {A B : Prop} (k : B) (h : B -> A := by intro k; ((with_reducible show eB _ _ _ _); first | exact st k | exact tV (e8 _ _ (by rfl)) (by repeat (first | exact h8.here | apply h8.there)) k)) : A := h k
theorem axR {A B : Prop} (k : B) (h : B -> A := by intro k; ((with_reducible show ff _ _ _ _ _); first | exact Oc (by rfl) (e8 _ _ (by rfl)) (by rfl) k | exact Od (by rfl) (by rfl) k)) : A := h k
theorem axQ {A B : Prop} (k : B) (h : B -> A := by intro k; ((with_reducible show gN _ _ _); first | exact gN.mk (ie.refl _) k | exact gN.mk (ie.imp (aJ.sub (by repeat (first | exact List.Sublist.refl _ | refine s5 _ ?_ | refine yf _ ?_)))) k)) : A := h k
theorem axP {A B : Prop} (k : B) (h : B -> A := by intro k; ((with_reducible show ih _ _ _ _); first | exact IS k | exact NM k)) : A := h k
section
open Go.ChangeShapes Go.WideShapes Go.RowKit Go.Deep
def Qf(k:Nat)(w:World)(A:Option Addr)(len cap:Nat)(dG:List Int):Prop:=
 dG.length=len*k/\dU w w.heap.size A (is dG)/\(∀z∈dG, -9223372036854775808<=z/\z<=9223372036854775807)/\len<=cap/\cap<=9223372036854775807
section
variable{j6:Type}{fZ:TypeId×Value->j6}{P:Program}{w:World}{base:Nat}{spare:Nat->Bool}{held:Bool}
end
end
end Go.Proofs.YtcflcebplhdcpaaGreat
