/- Lemmas, part 2; each states its own conditions. -/
import Derived.Laws.Tables
import Derived.Test.YtcflcebplhdcpaaGreatL1
namespace Go.Proofs.YtcflcebplhdcpaaGreat
open Go.RowKit
set_option linter.unusedSimpArgs false
set_option linter.unusedVariables false
set_option maxRecDepth 100000
set_option maxHeartbeats 16000000
def km{ck:Type}:List ck->(List ck->Prop)->Prop
 |[],K=>K []
 |x::l,K=>km l fun ib=>K (x::ib)
theorem mI{ck:Type}(l:List ck)(K:List ck->Prop):km l K=K l:=by
 induction l generalizing K with
 |nil=>rfl
 |cons x l cy=>exact cy fun ib=>K (x::ib)
def hf:List Value->Nat->List Value->List Value
 |[],_,_=> []
 |x::l,n+1,vs=>x::hf l n vs
 |x::l,0,[]=>x::l
 |x::l,0,v::vs=>v::hf l 0 vs
theorem xN(cs:List Value)(off:Nat):hf cs off []=cs:=by
 induction cs generalizing off with
 |nil=>rfl
 |cons x l cy=>cases off with
  |zero=>rfl
  |succ n=>simp[hf,cy]
theorem xM(cs:List Value)(off:Nat)(v:Value)(vs:List Value):hf cs off (v::vs)=hf (cs.set off v) (off+1) vs:=by
 induction cs generalizing off with
 |nil=>rfl
 |cons x l cy=>cases off with
  |zero=>simp[hf]
  |succ n=>simp[hf,cy]
theorem OF(cs:List Value)(off:Nat)(vs:List Value)(h:off+vs.length<=cs.length):hf cs off vs=cs.take off++vs++cs.drop (off+vs.length):=by
 induction cs generalizing off vs with
 |nil=>
  simp at h
  obtain⟨rfl,rfl⟩:=h
  rfl
 |cons x l cy=>cases off with
  |succ n=>
   simp[hf]
   rw[cy n vs (by simp at h;omega)]
   rw[show n+1+vs.length=(n+vs.length)+1 by omega]
   simp
  |zero=>cases vs with
   |nil=>simp[hf]
   |cons v vs=>
    simp[hf]
    rw[cy 0 vs (by simp at h;omega)]
    simp
theorem LO(vs:List Value)(cs:List Value)(off k:Nat):(vs.zipIdx k).foldl (fun(cs:Array Value) (p:Value×Nat)=>cs.setIfInBounds (off+p.2) p.1) cs.toArray=(hf cs (off+k) vs).toArray:=by
 induction vs generalizing cs k with
 |nil=>simp[xN]
 |cons v vs cy=>
  rw[xM]
  simp only[List.zipIdx_cons,List.foldl_cons]
  rw[show(cs.toArray.setIfInBounds (off+k) v)=(cs.set (off+k) v).toArray by simp]
  rw[cy]
  rfl
def jO(b:Bool)(A:Prop):Prop:=match b with
 |true=>A
 |false=>False
theorem oj{b:Bool}{A:Prop}(h:jO b A):b=true/\A:=by cases b with
 |true=>exact⟨rfl,h⟩
 |false=>exact h.elim
def ba(b:Bool)(A B:Prop):Prop:=match b with
 |true=>A
 |false=>B
theorem ba.intro{b:Bool}{A B:Prop}(O:b=true->A)(V:b=false->B):ba b A B:=by cases b with
 |true=>exact O rfl
 |false=>exact V rfl
def nr(x:Value)(K:List Value->Prop):Prop:=match x with
 | .agg cs=>match cs with
  |⟨l⟩=>km l K
 | .bool b=>K [.bool b]
 | .int k n=>K [.int k n]
 | .string s=>K [.string s]
 | .pointer a=>K [.pointer a]
 | .slice a n c=>K [.slice a n c]
 | .nilFunc=>K [.nilFunc]
 | .func f a b=>K [.func f a b]
 | .iface t v=>K [.iface t v]
 | .nilIface=>K [.nilIface]
 | .map r=>K [.map r]
 |_=>False
theorem An{x:Value}{K:List Value->Prop}(h:nr x K):K x.cells.toList:=by
 cases x with
 |agg cs=>exact(mI cs.toList K)▸h
 |_=>first|exact h|exact False.elim h
def wU:List Value->Bool
 |[]=>true
 | .agg _::_=>false
 | .tuple _::_=>false
 |_::l=>wU l
theorem Ce{l:List Value}(h:wU l=true):∀u∈l,u.oneCell'=true:=by
 induction l with
 |nil=>simp
 |cons x l cy=>
  intro u aS
  cases aS with
  |head=>cases x<;>first|rfl|(simp[wU] at h)
  |tail _ aS=>exact cy (by cases x<;>first|exact h|(simp[wU] at h)) u aS
inductive j7 where
 |st (fs:List (Nat×Option Nat))
 |pF (n:Nat) (e:Option Nat)
 |eN (e:Option Nat)
 |int (k:IntKind)
 |str
 |other
def j7.of(P:Program):TypeDesc->j7
 | .struct fs=> .st (fs.toList.map fun f=>(f.offset,(P.info? f.type).map (·.size)))
 | .array n e=> .pF n ((P.info? e).map (·.size))
 | .slice e=> .eN ((P.info? e).map (·.size))
 | .int k=> .int k
 | .string=> .str
 |_=> .other
structure c5 where
 size:Nat
 lX:Value
 d:j7
 bZ:List r5:=[]
def j7.full:j7->Bool
 | .st fs=>fs.all fun f=>f.2.isSome
 | .eN e=>e.isSome
 | .pF _ e=>e.isSome
 |_=>true
structure e7(P:Program)(t:TypeId)(i:c5):Prop where
 full:i.d.full=true
 size:(P.info? t).map (·.size)=some i.size
 zero:(P.info? t).bind (·.zero)=some i.lX
 desc:(P.underlying t).map (j7.of P)=some i.d
 adD:i.bZ=[]\/vL P 5 t=some i.bZ/\(match P.underlying t with|some (.struct _)=>true|_=>false)=true/\P.eqGuardType P.depth t=false
def nZ:List (Nat×c5)->Nat->Option c5
 |[],_=>none
 |(k,i)::l,t=>bif Nat.beq k t then some i else nZ l t
def gO(P:Program)(T:List (Nat×c5)):Prop:=∀t i,nZ T t=some i->e7 P t i
theorem gO.nil(P:Program):gO P []:=fun t i h=>by cases h
theorem gO.cons{P:Program}{t:TypeId}{i:c5}{l:List (Nat×c5)}(h:e7 P t i)(ai:gO P l):gO P ((t,i)::l):=fun t' Iq ak=>by
 unfold nZ at ak
 cases e:Nat.beq t t' with
 |true=>
  rw[e] at ak
  injection ak with ak
  have:=mA e
  subst this ak
  exact h
 |false=>rw[e] at ak;exact ai t' Iq ak
section
variable{P:Program}{t:TypeId}{i:c5}{w:World}
theorem e7.u0(h:e7 P t i):(sizeOf t).run P w= .ok i.size w:=by
 have O:=h.size
 cases e:P.info? t with
 |none=>rw[e] at O;cases O
 |some c2=>
  rw[e] at O
  injection O with O
  simp[sizeOf,typeInfo,e,O]
theorem e7.Jq(h:e7 P t i):(zeroValue t).run P w= .ok i.lX w:=by
 have O:=h.zero
 cases e:P.info? t with
 |none=>rw[e] at O;cases O
 |some c2=>
  rw[e] at O
  have O:c2.zero=some i.lX:=O
  simp[zeroValue,typeInfo,e,O]
def j7.agg:j7->Bool
 | .st _=>true
 | .pF _ _=>true
 |_=>false
theorem e7.rR(h:e7 P t i):(isAgg t).run P w= .ok i.d.agg w:=by
 have O:=h.desc
 cases e:P.underlying t with
 |none=>rw[e] at O;cases O
 |some d=>
  rw[e] at O
  injection O with O
  rw[<-O]
  cases d<;>simp[isAgg,run_underlying e,j7.of,j7.agg]
end
structure bk(P:Program)(C:an)(m:Sem Value)(K:Value->an->Prop):Prop where
 out:∀w,C.R w->∃v w' aG,m.run P w= .ok v w'/\iJ C w aG w'/\aG.R w'/\K v aG
structure eB(P:Program)(C:an)(m:Sem Unit)(K:an->Prop):Prop where
 out:∀w,C.R w->∃w' aG,m.run P w= .ok () w'/\iJ C w aG w'/\aG.R w'/\K aG
def oa(P:Program)(f:FuncId):Prop:=∀args w,(callFunc f args).run P w= .ok (.enter f args) w
abbrev bF:=List PanicEntry->an->Prop
structure ay(P:Program)(C:an)(f:FuncId)(args:Array Value)(K:Value->an->Prop)(Z:bF):Prop where
 out:oa P f/\∀w,C.R w->Calls P f args w fun e w'=>(∃v aG,e= .returned v/\iJ C w aG w'/\aG.R w'/\K v aG)\/∃ch aG,e= .panicked ch/\iJ C w aG w'/\aG.R w'/\Z ch aG
structure ff(P:Program)(C:an)(m:Sem Next)(K:Value->an->Prop)(Z:bF):Prop where
 out:∀w,C.R w->(∃v w' aG,m.run P w= .ok (.value v) w'/\iJ C w aG w'/\aG.R w'/\K v aG)\/(∃w' aG,m.run P w= .ok .skip w'/\iJ C w aG w'/\aG.R w'/\K undef aG)\/∃v w' aG,m.run P w= .halt (.panic v) w'/\iJ C w aG w'/\aG.R w'/\Z [{v,recovered:=false}] aG
structure gn(A:Option Addr)(n:Nat)(i:Int)(sz:Nat)(K:Value->Prop):Prop where
 out:∃a,A=some a/\0<=i/\i<n/\K (.pointer (some (a.add (i.toNat*sz))))
structure kN(A:Option Addr)(n c sz:Nat)(lo hi:Option Int)(K:Value->Prop):Prop where
 out:0<=lo.getD 0/\lo.getD 0<=hi.getD n/\hi.getD n<=(if hi.isSome then c else n)/\K (.slice (if c=(lo.getD 0).toNat then A else A.map (·.add ((lo.getD 0).toNat*sz))) ((hi.getD n).toNat-(lo.getD 0).toNat) (c-(lo.getD 0).toNat))
def xa(x:cD)(K:cD->Prop):Prop:=match x with
 | .v x=>K (.v x)
 | .p b o=>K (.p b o)
theorem Hx(x:cD)(K:cD->Prop):xa x K=K x:=by cases x<;>rfl
abbrev yq:=an->cD->Option (Nat×TypeId×List Value)->Prop
def ht(x:cD)(K:Value->Prop):Prop:=match x with
 | .v x=>K x
 | .p _ _=>False
def ki(ao:Operand->cD):List Operand->(List Value->Prop)->Prop
 |[],K=>K []
 |x::l,K=>ht (ao x) fun v=>ki ao l fun vs=>K (v::vs)
def oC(ao:Operand->cD):List (Nat×Operand)->(List (Nat×Value)->Prop)->Prop
 |[],K=>K []
 |(i,x)::l,K=>ht (ao x) fun v=>oC ao l fun vs=>K ((i,v)::vs)
def pM(ji:List (Nat×Option Nat)):List Value->List (Nat×Value)->(List Value->Prop)->Prop
 |cs,[],K=>K cs
 |cs,(i,v)::l,K=>match ji[i]? with
  |some (o,some sz)=>nr v fun vs=>jO (Nat.beq vs.length sz&&Nat.ble (o+vs.length) cs.length) (km (hf cs o vs) fun gp=>pM ji gp l K)
  |_=>False
def xz(op:BinOp)(k:IntKind)(a b:Int)(K:Value->Prop):Prop:=
 match op with
 | .add=>K (.int k (k.wrap (a+b)))
 | .sub=>K (.int k (k.wrap (a-b)))
 | .mul=>K (.int k (k.wrap (a*b)))
 | .quo=>b≠0/\K (.int k (k.wrap (a.tdiv b)))
 | .rem=>b≠0/\K (.int k (a.tmod b))
 | .eql=>K (.bool (a==b))
 | .neq=>K (.bool (a !=b))
 | .lss=>K (.bool (decide (a<b)))
 | .leq=>K (.bool (decide (a<=b)))
 | .gtr=>K (.bool (decide (a>b)))
 | .geq=>K (.bool (decide (a>=b)))
 |_=>False
def G1(T:List (Nat×c5))(op:BinOp)(t:TypeId)(a b:Value):Option Bool:=match a,b,nZ T t with
 | .agg xs,.agg fT,some i=>match i.bZ with
  |[]=>none
  |k::cL=>match fit (k::cL) xs.toList&&fit (k::cL) fT.toList with
   |true=>match op with
    | .eql=>some (mF xs.toList fT.toList)
    | .neq=>some (!mF xs.toList fT.toList)
    |_=>none
   |false=>none
 |_,_,_=>none
theorem aaY{P:Program}{T:List (Nat×c5)}(bX:gO P T){op:BinOp}{t:TypeId}{a b:Value}{r:Bool}(h:G1 T op t a b=some r)(x y:Operand)(w:World):((do eqGuard op t x y a b;binOp op t a b):Sem Value).run P w= .ok (.bool r) w:=by
 unfold G1 at h
 split at h
 ·rename_i xs fT i ai
  split at h
  ·cases h
  ·rename_i k cL yZ
   split at h
   ·rename_i aK
    simp only[e3] at aK
    rcases(bX _ _ ai).adD with O|⟨O,V,aa⟩
    ·rw[O] at yZ;cases yZ
    ·rw[yZ] at O
     have:=apk O V aa aK.1 aK.2 x y w
     split at h
     ·injection h with h;subst h;exact this.1
     ·injection h with h;subst h;exact this.2
     ·cases h
   ·cases h
 ·cases h
def wZ(P:Program)(T:List (Nat×c5))(op:BinOp)(t:TypeId)(x y:Operand)(C:an)(a b:Value)(K:Value->an->Prop):Prop:=
 match a,b with
 | .int k a,.int k' b=>match op with
  | .shl=>bk P C (Op.shift .shl k a k' b) K
  | .shr=>bk P C (Op.shift .shr k a k' b) K
  | .and=>bk P C (binOp .and t (.int k a) (.int k' b)) K
  | .or=>bk P C (binOp .or t (.int k a) (.int k' b)) K
  | .xor=>bk P C (binOp .xor t (.int k a) (.int k' b)) K
  | .andNot=>bk P C (binOp .andNot t (.int k a) (.int k' b)) K
  |op=>jO (decide (k=k')) (xz op k a b fun v=>K v C)
 |a,b=>match G1 T op t a b with
  |some r=>K (.bool r) C
  |none=>bk P C (do eqGuard op t x y a b;binOp op t a b) K
def te(P:Program)(T:List (Nat×c5))(C:an)(ty:TypeId)(c:Call)(ao:Operand->cD)(K:Value->an->Prop)(Z:bF):Prop:=
 match c.callee with
 | .value (.func f)=>ki ao c.args.toList fun vs=>ay P C f vs.toArray K Z
 | .value (.tmp t)=>match ao (.tmp t) with
  | .v (.func (.func f) first cap)=>ki ao c.args.toList fun vs=>km (first.toList++vs++cap.toList) fun l=>ay P C f l.toArray K Z
  |_=>False
 | .builtin .len=>ki ao c.args.toList fun vs=>match vs,c.argTypes.toList with
  |[.slice _ n _],[t]=>match nZ T t with
   |some i=>match i.d with
    | .eN _=>K (J n) C
    |_=>False
   |none=>False
  |vs,fl=>bk P C (Builtin.len_ c.argTypes ty vs.toArray) K
 | .builtin .append=>ki ao c.args.toList fun vs=>bk P C (Builtin.append_ c.argTypes ty vs.toArray) K
 | .builtin .copy=>ki ao c.args.toList fun vs=>bk P C (Builtin.copy_ c.argTypes ty vs.toArray) K
 | .builtin .cap=>ki ao c.args.toList fun vs=>bk P C (Builtin.cap_ c.argTypes ty vs.toArray) K
 | .builtin .max=>ki ao c.args.toList fun vs=>bk P C (Builtin.max_ c.argTypes ty vs.toArray) K
 | .builtin .min=>ki ao c.args.toList fun vs=>bk P C (Builtin.min_ c.argTypes ty vs.toArray) K
 |_=>False
def p6(ao:Operand->cD)(x:Option Operand)(K:Option Value->Prop):Prop:=match x with
 |none=>K none
 |some x=>ht (ao x) fun v=>K (some v)
def xW(P:Program)(T:List (Nat×c5))(C:an)(t:TypeId)(x:Value)(lo hi:Option Value)(K:Value->an->Prop):Prop:=
 match x,nZ T t with
 | .slice A n c,some i=>match i.d with
  | .eN (some sz)=>match lo,hi with
   |none,some (.int _ h)=>kN A n c sz none (some h) fun v=>K v C
   |some (.int _ l),none=>kN A n c sz (some l) none fun v=>K v C
   |some (.int _ l),some (.int _ h)=>kN A n c sz (some l) (some h) fun v=>K v C
   |lo,hi=>bk P C (Instr.sliceAt t (.slice A n c) lo hi none) K
  |_=>False
 |x,_=>bk P C (Instr.sliceAt t x lo hi none) K
def valOf(ao:Operand->cD)(x:Operand):Value:=match ao x with
 | .v v=>v
 | .p _ _=>undef
def Ah(ao:Operand->cD):List Operand->Bool
 |[]=>true
 |x::l=>match ao x with
  | .v _=>Ah ao l
  | .p _ _=>false
def js(P:Program)(C:an)(ao:Operand->cD)(o:Oper)(K:yq)(Z:bF):Prop:=jO (Ah ao o.op.operands.toList) (ff P C (execOp (valOf ao) o) (fun v aG=>K aG (.v v) none) Z)
def qP(P:Program)(T:List (Nat×c5))(e:Bool)(o:Oper)(C:an)(ao:Operand->cD)(jN:Nat->Option (TypeId×List Value))(K:yq)(Z:bF):Prop:=
 match o.op with
 | .move x=>xa (ao x) fun x=>K C x none
 | .assign x=>xa (ao x) fun x=>K C x none
 | .pick c a b=>match ao c with
  | .v (.bool t)=>ba t (xa (ao a) fun x=>K C x none) (xa (ao b) fun x=>K C x none)
  |_=>False
 | .alloc t=>match e with
  |true=>bk P C (Instr.alloc t true (.tuple #[])) fun v aG=>K aG (.v v) none
  |false=>match o.dst with
   |some d=>match jN d,nZ T t with
    |none,some i=>nr i.lX fun cs=>K C (.p d 0) (some (d,t,cs))
    |_,_=>False
   |none=>False
 | .box t x=>match e with
  |true=>ht (ao x) fun x=>bk P C (Instr.box t x) fun v aG=>K aG (.v v) none
  |false=>match o.dst with
   |some d=>match jN d with
    |none=>ht (ao x) fun x=>nr x fun cs=>K C (.p d 0) (some (d,t,cs))
    |_=>False
   |none=>False
 | .build t parts=>match nZ T t with
  |some i=>match i.d with
   | .st ji=>oC ao parts.toList fun ps=>nr i.lX fun cs=>pM ji cs ps fun cs=>K C (.v (.agg cs.toArray)) none
   |_=>oC ao parts.toList fun ps=>bk P C (Instr.build t ps.toArray) fun v aG=>K aG (.v v) none
  |none=>False
 | .fieldAddr t x f=>match nZ T t with
  |some i=>match i.d with
   | .st ji=>match ji[f]? with
    |some (o,some (sz+1))=>match ao x with
     | .p b off=>K C (.p b (off+o)) none
     | .v (.pointer (some a))=>K C (.v (.pointer (some (a.add o)))) none
     |_=>False
    |_=>False
   |_=>False
  |none=>False
 | .load t x=>match ao x with
  | .p b off=>match jN b,nZ T t with
   |some (_,cs),some i=>match i.d.agg with
    |true=>km ((cs.drop off).take i.size) fun l=>jO (Nat.beq l.length i.size) (K C (.v (.agg l.toArray)) none)
    |false=>match cs.drop off with
     |v::_=>K C (.v v) none
     |[]=>False
   |_,_=>False
  | .v x=>bk P C (Instr.loadAt t x) fun v aG=>K aG (.v v) none
 | .store t x y=>match ao x with
  | .p b off=>match jN b,nZ T t with
   |some (ty,cs),some i=>ht (ao y) fun y=>nr y fun vs=>jO (Nat.beq vs.length i.size&&Nat.ble (off+vs.length) cs.length&&wU vs) (km (hf cs off vs) fun gp=>K C (.v undef) (some (b,ty,gp)))
   |_,_=>False
  | .v x=>ht (ao y) fun y=>eB P C (Instr.storeAt t x y) fun aG=>K aG (.v undef) none
 | .binOp op t x y _=>ht (ao x) fun a=>ht (ao y) fun b=>wZ P T op t x y C a b fun v aG=>K aG (.v v) none
 | .unOp op _ x=>ht (ao x) fun a=>match op,a with
  | .not,.bool b=>K C (.v (.bool !b)) none
  |op,a=>bk P C (Op.unary op a) fun v aG=>K aG (.v v) none
 | .convert s d x=>ht (ao x) fun a=>bk P C (convert s d a) fun v aG=>K aG (.v v) none
 | .extract x i=>match ao x with
  | .v (.tuple vs)=>match vs.toList[i]? with
   |some v=>K C (.v v) none
   |none=>False
  |_=>False
 | .indexAddr t x i=>match ao x with
  | .v (.slice A n c)=>match nZ T t,ao i with
   |some c2,.v (.int _ k)=>match c2.d with
    | .eN (some sz)=>gn A n k sz fun v=>K C (.v v) none
    |_=>False
   |_,_=>False
  | .v (.pointer a)=>ht (ao i) fun k=>bk P C (Instr.indexAt t (.pointer a) k) fun v aG=>K aG (.v v) none
  |_=>False
 | .slice t x lo hi none=>ht (ao x) fun x=>p6 ao lo fun lo=>p6 ao hi fun hi=>xW P T C t x lo hi fun v aG=>K aG (.v v) none
 | .buildSlice t n parts=>oC ao parts.toList fun ps=>bk P C (Instr.buildSlice t n ps.toArray) fun v aG=>K aG (.v v) none
 | .makeSlice t l c=>ht (ao l) fun l=>ht (ao c) fun c=>bk P C (Instr.makeSlice t l c) fun v aG=>K aG (.v v) none
 | .call c=>te P T C o.type c ao (fun v aG=>K aG (.v v) none) Z
 | .slice _ _ _ _ (some _)=>js P C ao o K Z
 | .nilCheck x=>match ao x with
  | .p b off=>K C (.p b off) none
  | .v (.pointer (some eV))=>K C (.v (.pointer (some eV))) none
  |_=>js P C ao o K Z
 | .makeInterface _ _=>js P C ao o K Z
 | .makeFunc _ _ _=>js P C ao o K Z
 | .field _ _ _=>js P C ao o K Z
 | .index _ _ _=>js P C ao o K Z
 | .typeAssert _ _ _ _=>js P C ao o K Z
 | .panic _=>js P C ao o K Z
 | .insert _ _ _ _=>js P C ao o K Z
 | .mapUpdate _ _ _ _=>js P C ao o K Z
 | .makeMap _ _=>js P C ao o K Z
 | .lookup _ _ _ _=>js P C ao o K Z
 |_=>False
def hM(N:gI)(dst:Option Tmp)(x:cD)(ss:bQ)(K:bQ->Prop):Prop:=match dst with
 |none=>K ss
 |some d=>jO (Nat.blt d N.n) (match ss with|⟨s,b⟩=>K ⟨fm s d x,b⟩)
def wV(b:Nat->Option (TypeId×List Value))(jb:Option (Nat×TypeId×List Value)):Nat->Option (TypeId×List Value):=match jb with
 |none=>b
 |some (d,t,cs)=>fm b d (some (t,cs))
def l2(N:gI)(K:an->bQ->Prop)(a:Act)(w:World):Prop:=∃C ss,s6 N C ss a w/\K C ss
theorem qh{x:cD}{K:Value->Prop}(h:ht x K):∃v,x= .v v/\K v:=by
 cases x with
 |v x=>exact⟨x,rfl,h⟩
 |p b off=>exact False.elim h
theorem wy{ao:Operand->cD}:∀{l:List Operand} {K:List Value->Prop},ki ao l K->∃vs,l.map ao=vs.map cD.v/\K vs
 |[],K,h=>⟨[],rfl,h⟩
 |x::l,K,h=>by
  obtain⟨v,O,V⟩:=qh h
  obtain⟨vs,aa,ag⟩:=wy V
  exact⟨v::vs,by simp[O,aa],ag⟩
theorem Jc{ao:Operand->cD}:∀{l:List (Nat×Operand)} {K:List (Nat×Value)->Prop},oC ao l K->∃ps,l.map (fun p=>(p.1,ao p.2))=ps.map (fun p=>(p.1,cD.v p.2))/\K ps
 |[],K,h=>⟨[],rfl,h⟩
 |(i,x)::l,K,h=>by
  obtain⟨v,O,V⟩:=qh h
  obtain⟨vs,aa,ag⟩:=Jc V
  exact⟨(i,v)::vs,by simp[O,aa],ag⟩
theorem UP{ao:Operand->cD}{x:Option Operand}{K:Option Value->Prop}(h:p6 ao x K):∃v,x.map ao=v.map cD.v/\K v:=by
 cases x with
 |none=>exact⟨none,rfl,h⟩
 |some x=>obtain⟨v,O,V⟩:=qh h;exact⟨some v,by simp[O],V⟩
theorem Rr{ji:List (Nat×Option Nat)}{zw:List (Nat×Nat)}(bh:ji=zw.map fun p=>(p.1,some p.2)):∀{ps:List (Nat×Value)} {cs:List Value} {K:List Value->Prop},pM ji cs ps K->∃gp,Instr.fill (zw.toArray[·]?) cs.toArray ps=some gp.toArray/\K gp
 |[],cs,K,h=>⟨cs,rfl,h⟩
 |(i,v)::ps,cs,K,h=>by
  unfold pM at h
  split at h
  ·rename_i o sz aU
   have O:=An h
   obtain⟨V,aa⟩:=oj O
   rw[mI] at aa
   obtain⟨gp,ag,a6⟩:=Rr bh aa
   refine⟨gp,?_,a6⟩
   simp only[e3] at V
   have ai:=mA V.1
   have ab:=nm V.2
   simp only[D2] at ai ab
   have zc:zw[i]?=some (o,sz):=by
    rw[bh] at aU
    rw[oc] at aU
    cases e:zw[i]? with
    |none=>rw[e] at aU;cases aU
    |some q=>rw[e] at aU;simp at aU;obtain⟨rfl,rfl⟩:=aU;rfl
   simp only[Instr.fill,List.getElem?_toArray,zc,ai,ne_eq,not_true_eq_false,decide_false,wI,List.size_toArray]
   rw[if_neg (by simp;omega)]
   have e1:v.cells.zipIdx.foldl (fun cs (x:Value×Nat)=>match x with|(c,j)=>cs.setIfInBounds (o+j) c) cs.toArray=(hf cs o v.cells.toList).toArray:=by
    have:=LO v.cells.toList cs o 0
    rw[vp] at this
    rw[<-this,<-Array.foldl_toList,Array.toList_zipIdx]
   rw[e1]
   simpa using ag
  ·exact False.elim h
section
variable{P:Program}{T:List (Nat×c5)}{N:gI}{C:an}{cq:Nat->Nat}{ss:bQ}{a:Act}{w:World}{o:Oper}{K:an->bQ->Prop}{Q:Exit->Act->World->Prop}
theorem mP{v:Value}{w':World}{next:Act->World->Prop}(h:(execOp a.eval o).run P w= .ok (.value v) w')(aB:next (a.put o.dst v) w'):o.wp P a w next Q:=by
 unfold Oper.wp
 rw[h]
 exact aB
theorem yQ(r:fR N C cq ss a w){x:cD}(aW:∀b off,x= .p b off->(ss.b b).isSome=true){dst:Option Tmp}(h:hM N dst x ss (K C)):l2 N K (a.put dst (x.den cq)) w:=by
 cases dst with
 |none=>exact⟨C,ss,⟨cq,r⟩,h⟩
 |some d=>
  obtain⟨O,V⟩:=oj h
  exact⟨C,_,⟨cq,r.put (nm O) x aW⟩,V⟩
theorem mH(r:fR N C cq ss a w){x:Value}{dst:Option Tmp}(h:hM N dst (.v x) ss (K C)):l2 N K (a.put dst x) w:=yQ (x:= .v x) r (fun _ _ h=>by cases h) h
theorem sS{m:Sem Value}(ad:(execOp a.eval o).run P w=(do pure (Next.value (<-m))).run P w)(r:fR N C cq ss a w)(h:bk P C m fun v aG=>hM N o.dst (.v v) ss (K aG)):o.wp P a w (l2 N K) Q:=by
 replace h:=h.out
 obtain⟨v,w',aG,O,V,aa,ag⟩:=h w r.rest
 refine mP (v:=v) (w':=w') ?_ (mH (r.vM V aa) ag)
 rw[ad]
 simp[O]
theorem Ag(b off n:Nat):(⟨b,off,none⟩:Addr).add n=⟨b,off+n,none⟩:=by unfold Addr.add;split<;>simp_all
theorem O0{ty:TypeId}{i:c5}(hi:e7 P ty i){g off:Nat}{t:TypeId}{cs:List Value}(aZ:w.heap[g]?=some (.cells cs.toArray t (0,0)))(dX:i.d.agg=true){l:List Value}(ai:(cs.drop off).take i.size=l)(ar:l.length=i.size):
  (loadVar ty ⟨g,off,none⟩).run P w= .ok (.agg l.toArray) w:=by
 have O:(loadCells ⟨g,off,none⟩ l.length).run P w= .ok l.toArray w:=run_loadCells_list w _ l fun j v ah=>by
  rw[Ag,cell_of_row w g _ cs.toArray t (0,0) aZ]
  rw[<-ai] at ah
  have a9:=(l0.1 ah).1
  rw[py,if_pos (by simp at a9;omega),qo] at ah
  simpa using ah
 rw[ar] at O
 simp[loadVar,hi.rR,dX,hi.u0,O]
theorem Wb{ty:TypeId}{i:c5}(hi:e7 P ty i){g off:Nat}{t:TypeId}{cs:List Value}(aZ:w.heap[g]?=some (.cells cs.toArray t (0,0)))(dX:i.d.agg=false){v:Value}{l:List Value}(ai:cs.drop off=v::l):
  (loadVar ty ⟨g,off,none⟩).run P w= .ok v w:=by
 have O:w.cell? ⟨g,off,none⟩=some v:=by
  rw[cell_of_row w g _ cs.toArray t (0,0) aZ]
  have:(cs.drop off)[0]?=some v:=by rw[ai];rfl
  rw[qo] at this
  simpa using this
 simp[loadVar,hi.rR,dX,load,Sem.run,O]
theorem O1{ty:TypeId}{i:c5}(hi:e7 P ty i){g off:Nat}{t:TypeId}{cs:List Value}(aZ:w.heap[g]?=some (.cells cs.toArray t (0,0))){v:Value}(ar:v.cells.toList.length=i.size)(ai:off+v.cells.toList.length<=cs.length)(O:∀u∈v.cells.toList,u.oneCell'=true):
  (storeVar ty ⟨g,off,none⟩ v).run P w= .ok () (w.setRow g (hf cs off v.cells.toList).toArray):=by
 have V:=run_storeCells_at P g off t v.cells.toList 0 cs.toArray w aZ (by simpa using ai) O
 rw[OF _ _ _ ai]
 simp only[vp] at V
 have kG:v.cells.size=i.size:=by simpa using ar
 simp[storeVar,hi.u0,kG,V]
theorem V8{ty:TypeId}{i:c5}(hi:e7 P ty i){ji:List (Nat×Option Nat)}(aL:i.d= .st ji){f off sz:Nat}(aU:ji[f]?=some (off,some (sz+1)))(eV:Addr):
  (Instr.fieldAt ty (.pointer (some eV)) f).run P w= .ok (.pointer (some (eV.add off))) w:=by
 have O:=hi.desc
 cases e:P.underlying ty with
 |none=>rw[e] at O;cases O
 |some d=>
  rw[e,aL] at O
  injection O with O
  cases d<;>try(simp[j7.of] at O;done)
  rename_i fs
  simp only[j7.of,j7.st.injEq] at O
  subst O
  rw[oc] at aU
  cases Ar:fs.toList[f]? with
  |none=>rw[Ar] at aU;cases aU
  |some Cw=>
   rw[Ar] at aU
   simp at aU
   obtain⟨rfl,q,V,aa⟩:=aU
   have aK:fs[f]?=some Cw:=by simpa using Ar
   simp[Instr.fieldAt,run_underlying e,aK,Instr.sureAddr,fieldPlace,sizeOf,typeInfo,V,aa]
theorem e7.built{ty:TypeId}{i:c5}(hi:e7 P ty i){ji:List (Nat×Option Nat)}(aL:i.d= .st ji){ps:List (Nat×Value)}{K:List Value->Prop}(h:pM ji i.lX.cells.toList ps K):∃cs,P.built ty ps=some cs.toArray/\K cs:=by
 have O:=hi.desc
 have xo:=hi.full
 have b3:=hi.zero
 rw[aL] at O xo
 cases e:P.underlying ty with
 |none=>rw[e] at O;cases O
 |some d=>
  rw[e] at O
  injection O with O
  cases d<;>try(simp[j7.of] at O;done)
  rename_i fs
  simp only[j7.of,j7.st.injEq] at O
  have ad:∃zw:List (Nat×Nat),fs.toList.mapM (fun f=>(P.info? f.type).map fun i=>(f.offset,i.size))=some zw/\ji=zw.map fun p=>(p.1,some p.2):=by
   rw[<-O] at xo|-
   simp only[j7.full] at xo
   generalize fs.toList=l at*
   clear O e h
   induction l with
   |nil=>exact⟨[],rfl,rfl⟩
   |cons f l cy=>
    simp only[vn,List.all_cons,e3] at xo
    obtain⟨amZ,V,aa⟩:=cy xo.2
    obtain⟨q,bd⟩:=Option.isSome_iff_exists.1 xo.1
    cases mW:P.info? f.type with
    |none=>rw[mW] at bd;cases bd
    |some adT=>exact⟨(f.offset,adT.size)::amZ,by simp[List.mapM_cons,mW,V],by simp[mW,aa]⟩
  obtain⟨zw,V,aa⟩:=ad
  obtain⟨cs,ag,a6⟩:=Rr aa h
  refine⟨cs,?_,a6⟩
  cases mW:P.info? ty with
  |none=>rw[mW] at b3;cases b3
  |some c2=>
   rw[mW] at b3
   have b3:c2.zero=some i.lX:=b3
   simp only[Program.built,mW,e,b3,V]
   exact ag
end
section
variable{P:Program}{T:List (Nat×c5)}{N:gI}{C:an}{cq:Nat->Nat}{ss:bQ}{a:Act}{w:World}{o:Oper}{K:an->bQ->Prop}{Q:Exit->Act->World->Prop}
abbrev Kn(N:gI)(ss:bQ)(dst:Option Tmp)(K:an->bQ->Prop):yq:=fun aG x jb=>hM N dst x ⟨ss.s,wV ss.b jb⟩ (K aG)
theorem G8(r:fR N C cq ss a w){l:List Operand}{vs:List Value}(h:l.map ss.eval=vs.map cD.v):l.map a.eval=vs:=by
 have:l.map a.eval=(l.map ss.eval).map (cD.den cq):=by
  rw[wO]
  exact List.map_congr_left fun x _=>r.eval x
 rw[this,h,wO]
 simp[Function.comp_def,cD.den]
theorem Ot(r:fR N C cq ss a w){l:List (Nat×Operand)}{ps:List (Nat×Value)}(h:l.map (fun p=>(p.1,ss.eval p.2))=ps.map (fun p=>(p.1,cD.v p.2))):l.map (fun p=>(p.1,a.eval p.2))=ps:=by
 have:l.map (fun p=>(p.1,a.eval p.2))=(l.map (fun p=>(p.1,ss.eval p.2))).map (fun p=>(p.1,p.2.den cq)):=by
  rw[wO]
  exact List.map_congr_left fun x _=>by simp[r.eval]
 rw[this,h,wO]
 simp[Function.comp_def,cD.den]
theorem UQ(r:fR N C cq ss a w){x:Option Operand}{v:Option Value}(h:x.map ss.eval=v.map cD.v):x.map a.eval=v:=by
 cases x with
 |none=>cases v with
  |none=>rfl
  |some v=>cases h
 |some x=>cases v with
  |none=>cases h
  |some v=>simp at h|-;rw[r.eval,h];rfl
theorem Uq(r:fR N C cq ss a w){d:Nat}{t:TypeId}{cs:List Value}(aL:ss.b d=none)(aU:o.dst=some d)(fI:(execOp a.eval o).run P w= .ok (.value (.pointer (some ⟨w.heap.size,0,none⟩))) (w.alloc (.cells cs.toArray t)))(h:Kn N ss o.dst K C (.p d 0) (some (d,t,cs))):o.wp P a w (l2 N K) Q:=by
 refine mP fI ?_
 have fA:=r.new d aL t cs
 have:=yQ (K:=K) (x:= .p d 0) (dst:=o.dst) fA (fun b off e=>by
  cases e
  show(fm ss.b d _ d).isSome=true
  rw[po];rfl) h
 simpa[cD.den,po] using this
theorem abD(bX:gO P T)(r:fR N C cq ss a w){op:BinOp}{t t':TypeId}{x y:Operand}(aU:o.op= .binOp op t x y t'){tY wz:Value}(aW:ss.eval x= .v tY)(bV:ss.eval y= .v wz)(h:wZ P T op t x y C tY wz fun v aG=>hM N o.dst (.v v) ss (K aG)):o.wp P a w (l2 N K) Q:=by
 have ex:a.eval x=tY:=by rw[r.eval,aW];rfl
 have Rp:a.eval y=wz:=by rw[r.eval,bV];rfl
 have HW:(execOp a.eval o).run P w=(do pure (Next.value (<-(do eqGuard op t x y tY wz;binOp op t tY wz)))).run P w:=by
  simp only[execOp,aU,ex,Rp]
 have rest:(bk P C (do eqGuard op t x y tY wz;binOp op t tY wz) fun v aG=>hM N o.dst (.v v) ss (K aG))->o.wp P a w (l2 N K) Q:=fun h=>sS HW r h
 have int:∀iY dI hV cN,tY= .int iY dI->wz= .int hV cN->(eqGuard op t x y tY wz).run P w= .ok () w:=by
  intro iY dI hV cN e1 e2
  subst e1 e2
  unfold eqGuard
  split<;>simp
 unfold wZ at h
 split at h
 ·rename_i iY dI hV cN
  have aZ:=int _ _ _ _ rfl rfl
  have SK:∀v,(binOp op t (.int iY dI) (.int hV cN)).run P w= .ok v w->hM N o.dst (.v v) ss (K C)->o.wp P a w (l2 N K) Q:=fun v O V=>by
   refine mP (v:=v) (w':=w) ?_ (mH r V)
   rw[HW]
   simp[aZ,O]
  have C4:(bk P C (binOp op t (.int iY dI) (.int hV cN)) fun v aG=>hM N o.dst (.v v) ss (K aG))->o.wp P a w (l2 N K) Q:=fun h=>by
   refine sS (m:=binOp op t (.int iY dI) (.int hV cN)) ?_ r h
   rw[HW]
   simp[aZ]
  split at h
  ·exact C4 (by simpa[binOp] using h)
  ·exact C4 (by simpa[binOp] using h)
  ·exact C4 h
  ·exact C4 h
  ·exact C4 h
  ·exact C4 h
  ·obtain⟨U,ak⟩:=oj h
   clear h
   have U:=of_decide_eq_true U
   subst U
   cases op
   all_goals first
    |exact False.elim ak
    |exact SK _ (by simp only[binOp,ne_eq,not_true_eq_false,cZ,Op.intArith,Op.intCmp];rfl) ak
    |(obtain⟨aT,ak⟩:=ak;exact SK _ (by simp only[binOp,ne_eq,not_true_eq_false,cZ,Op.intDiv,aT];rfl) ak)
 ·split at h
  ·rename_i fO aP
   refine mP (v:= .bool fO) (w':=w) ?_ (mH r h)
   rw[HW]
   have:=aaY bX aP x y w
   simp only[Sem.run_bind,Sem.run_pure] at this|-
   rw[this]
   rfl
  ·exact rest h
end
end Go.Proofs.YtcflcebplhdcpaaGreat
