/- Lemmas, part 13; each states its own conditions. -/
import Derived.Test.YtcflcebplhdcpaaGreatL9
import Derived.Test.YtcflcebplhdcpaaGreatL12
namespace Go.Proofs.YtcflcebplhdcpaaGreat
open Go.RowKit
set_option linter.unusedSimpArgs false
set_option linter.unusedVariables false
set_option maxRecDepth 100000
set_option maxHeartbeats 16000000
variable{H w0:World}{X:Nat->Prop}{M:aw}{K:Value->an->Prop}{Z:bF}
section
variable{H w0:World}{X:Nat->Prop}{M aE:aw}
theorem Cg {A:Option Addr} {n cap:Nat} {xs:List Int} {x:Value} {m:Nat} {news:List Value} (fT:List Int) (ar:fy Tryz.prog H w0 X M 1 23 x m news) (bV:news=is fT) {i:Nat} (aS:h8 M i (.slice A n cap) (.row 3 1 (is xs))) (U:n+m<=1000000000) {ty:TypeId} {K:Value->an->Prop}
  (h:∀aR fD,n+m<=fD->(0<fD->∃b,aR=some ⟨b,0,none⟩)->qc M i (.slice aR (n+m) fD,.row 3 1 (is (xs++fT))) fun aE=>K (.slice aR (n+m) fD) (Y H w0 X aE)):bk Tryz.prog (Y H w0 X M) (Builtin.append_ #[23,23] ty #[.slice A n cap,x]) K:=by
 subst bV
 exact QR gK ar aS U (fun aR fD=>by rw[<-Nk];exact h aR fD)
theorem QQ {A:Option Addr} {x:Value} {m:Nat} {news:List Value} (fT:List Int) (ar:fy Tryz.prog H w0 X M 1 23 x m news) (bV:news=is fT) (U:m<=1000000000) {ty:TypeId} {K:Value->an->Prop}
  (h:∀aR fD,m<=fD->(0<fD->∃b,aR=some ⟨b,0,none⟩)->K (.slice aR m fD) (Y H w0 X ((.slice aR m fD,.row 3 1 (is fT))::M))):bk Tryz.prog (Y H w0 X M) (Builtin.append_ #[23,23] ty #[.slice A 0 0,x]) K:=by
 subst bV
 exact EB gK ar U h
theorem aqk{b n cap:Nat}{xs:List Int}(ad:(Value.slice (some ⟨b,0,none⟩) n cap,aY.row 3 1 (is xs))∈M)(off m c:Nat)(ai:off+m<=xs.length):fy Tryz.prog H w0 X M 1 23 (.slice (some ⟨b,off,none⟩) m c) m (is ((xs.drop off).take m)):=
 fy.part gK ad off m c _ (by simp;omega) (fun j u aS=>by
  rw[Tg,ahq] at aS
  have a9:=(l0.1 aS).1
  rw[py,if_pos (by simp at a9;omega),qo] at aS
  exact aS) (IB _)
theorem cK{x:Int}(h: -9223372036854775808<=x/\x<=9223372036854775807):IntKind.i64.wrap x=x:=by
 simp[IntKind.wrap,IntKind.bits,IntKind.signed]
 omega
theorem aJ.shrink{A:Option Addr}{n cap:Nat}{t:TypeId}{sz:Nat}{l:List Value}{i:Nat}(h:h8 M i (.slice A n cap) (.row t sz l))(dT:Nat)(aB:dT<=n):aJ M (DF M i (.slice A dT cap,.row t sz (l.take (dT*sz)))):=by
 have ab:fH (.slice A dT cap)=fH (.slice A n cap):=by cases A<;>rfl
 have aS:=h.fm (.slice A dT cap) (.row t sz (l.take (dT*sz)))
 refine⟨fun H w0 X w au=>?_,fun k U=>?_⟩
 have aL:aY.ok (.row t sz (l.take (dT*sz))) (.slice A dT cap) w:=by
  obtain⟨aR,dI,fD,af,O,V,aa,ag⟩:=au.new _ h.mem
  injection af with vR xn su
  subst vR xn su
  have ad:dT*sz<=n*sz:=pC _ aB
  refine⟨A,dT,cap,rfl,by simp;omega,by omega,aa,?_⟩
  rcases ag with ag|⟨b,rfl,a6,cur,bU,dh,cT⟩
  ·exact .inl ag
  ·refine .inr ⟨b,rfl,a6,cur,bU,dh,?_⟩
   rw[<-cT,List.take_take,z4 ad]
 exact(yS au aS rfl rfl rfl (Nat.le_refl _) (fun _ _ _=>rfl) aL (fun b h=> .inl (by rw[<-ab];exact h))).2
 obtain⟨e,af,sq⟩:=jc.1 U
 rcases aS.sL e af with rfl|af
 ·exact qI h.mem (ab▸sq)
 ·exact qI af sq
theorem acG{A:Option Addr}{n c sz:Nat}{h:Int}{K:Value->Prop}(aT:0<=h)(O:h<=c)(U:K (.slice A h.toNat c)):kN A n c sz none (some h) K:=by
 refine⟨by simp,by simpa using aT,by simpa using O,?_⟩
 have e:(if c=((none:Option Int).getD 0).toNat then A else A.map (·.add (((none:Option Int).getD 0).toNat*sz)))=A:=by
  split
  ·rfl
  ·cases A with
   |none=>rfl
   |some a=>simp[Addr.add]
 rw[e]
 simpa using U
theorem acI{A:Option Addr}{n c sz:Nat}{l:Int}{K:Value->Prop}(aT:0<=l)(O:l<=n)(U:K (.slice (if c=l.toNat then A else A.map (·.add (l.toNat*sz))) (n-l.toNat) (c-l.toNat))):kN A n c sz (some l) none K:=
 ⟨by simpa using aT,by simpa using O,by simp,by simpa using U⟩
theorem aqm{A:Option Addr}{n cap:Nat}{xs:List Int}(ad:(Value.slice A n cap,aY.row 3 1 (is xs))∈M)(b0:0<cap->∃b,A=some ⟨b,0,none⟩)(aW:n=xs.length)(aj:n<=cap)(left m c:Nat)(ai:left+m=n):fy Tryz.prog H w0 X M 1 23 (.slice (if cap=left then A else A.map (·.add (left*1))) m c) m (is (xs.drop left)):=by
 by_cases aT:m=0
 ·have:xs.drop left=[]:=by simp;omega
  rw[this,aT]
  exact fy.zero gK _ _
 ·obtain⟨b,rfl⟩:=b0 S
  have:¬cap=left:=by omega
  rw[if_neg this]
  have:=aqk (H:=H) (w0:=w0) (X:=X) ad left m c S
  have e:(xs.drop left).take m=xs.drop left:=rb (by simp;omega)
  rw[e] at this
  simpa[Addr.add_lit] using this
theorem M7{A:Option Addr}{n cap:Nat}{i:Int}{sz:Nat}{K:Value->Prop}(b0:0<cap->∃b,A=some ⟨b,0,none⟩)(aj:n<=cap)(aT:0<=i)(O:i<n)(U:∀b,A=some ⟨b,0,none⟩->K (.pointer (some ⟨b,i.toNat*sz,none⟩))):gn A n i sz K:=by
 obtain⟨b,ab⟩:=b0 S
 refine⟨⟨b,0,none⟩,ab,aT,O,?_⟩
 rw[Addr.add_lit,vq]
 exact U b ab
theorem aJ.Wu{A:Option Addr}{n cap:Nat}{xs:List Int}{i:Nat}(h:h8 M i (.slice A n cap) (.row 3 1 (is xs)))(dT:Nat)(aB:dT<=n):aJ M (DF M i (.slice A dT cap,.row 3 1 (is (xs.take dT)))):=by
 have:=aJ.shrink h dT aB
 rw[h1,<-Tg] at this
 exact this
theorem Le{A:Option Addr}{n c sz:Nat}{x:Int}(l m:Nat)(e:x=(l:Int))(ad:l+m=n){K:Value->Prop}(U:K (.slice (if c=l then A else A.map (·.add (l*sz))) m (c-l))):kN A n c sz (some x) none K:=by
 subst e
 refine acI S S ?_
 simp only[r8]
 rw[show n-l=m by omega]
 exact U
theorem Ld{A:Option Addr}{n c sz:Nat}{x:Int}(l:Nat)(e:x=(l:Int))(h:l<=c){K:Value->Prop}(U:K (.slice A l c)):kN A n c sz none (some x) K:=by
 subst e
 refine acG S S ?_
 simpa using U
theorem alc(a:Int)(n:Nat)(aB:n<=62):IntKind.i64.wrap (((BitVec.ofInt 64 a&&&BitVec.ofInt 64 ((2^n-1:Nat):Int)).toNat:Nat):Int)=a%((2^n:Nat):Int):=by
 have O:(2^n:Nat)<=2^62:=Nat.pow_le_pow_right S aB
 have V:0<(2^n:Nat):=Nat.two_pow_pos n
 have e2:(BitVec.ofInt 64 ((2^n-1:Nat):Int)).toNat=2^n-1:=by
  rw[BitVec.ofInt_natCast,BitVec.toNat_ofNat]
  exact Em S
 rw[BitVec.toNat_and,e2,Nat.and_two_pow_sub_one_eq_mod,BitVec.toNat_ofInt]
 have afi:((2^n:Nat):Int)∣((2^64:Nat):Int):=by
  have:(2^n:Nat)∣2^64:=Nat.pow_dvd_pow 2 S
  exact Int.natCast_dvd_natCast.2 this
 have cR:(((a%((2^64:Nat):Int)).toNat%2^n:Nat):Int)=a%((2^n:Nat):Int):=by
  rw[Int.natCast_emod,Int.toNat_of_nonneg (Int.emod_nonneg _ bC),Int.emod_emod_of_dvd _ afi]
 rw[cR]
 have aa:=Int.emod_nonneg a (b:=((2^n:Nat):Int)) S
 have ag:=Int.emod_lt_of_pos a (b:=((2^n:Nat):Int)) S
 exact cK S
theorem Aj{P:Program}{C:an}{t:TypeId}{a b:Int}(n:Nat)(aB:Nat.ble n 62=true)(ab:b=((2^n-1:Nat):Int)){K:Value->an->Prop}(h:K (J (a%((2^n:Nat):Int))) C):bk P C (binOp .and t (J a) (J b)) K:=by
 subst ab
 refine nc (fun w=>?_) h
 have:=alc a n (nm aB)
 simp only[binOp,Op.intBits,ne_eq,not_true_eq_false,cZ]
 show(pure (J (IntKind.i64.wrap (((BitVec.ofInt 64 a&&&BitVec.ofInt 64 ((2^n-1:Nat):Int)).toNat:Nat):Int))):Sem Value).run P w=_
 rw[this]
 rfl
theorem QO{P:Program}{C:an}{t:TypeId}{a:Int}{K:Value->an->Prop}(h:K (J (a%4294967296)) C):bk P C (binOp .and t (J a) (J 4294967295)) K:=Aj 32 rfl bC h
theorem aa5{P:Program}{C:an}{t:TypeId}{a:Int}{K:Value->an->Prop}(h:K (J (a%65536)) C):bk P C (binOp .and t (J a) (J 65535)) K:=Aj 16 rfl bC h
theorem Fq{xs:List Int}(j:Nat)(h:j<xs.length):(is xs)[j]?=some (J (xs.getD j 0)):=by
 simp[is,h,List.getD]
theorem anO{xs:List Int}(j:Nat)(x:Int)(h:j<xs.length):hf (is xs) j [J x]=is (xs.set j x):=by
 rw[xM,xN]
 simp[is,List.map_set]
theorem uQ{A:Option Addr}{n cap:Nat}{i:Int}{K:Value->Prop}(b0:0<cap->∃b,A=some ⟨b,0,none⟩)(aj:n<=cap)(aT:0<=i)(O:i<n)(U:∀b,A=some ⟨b,0,none⟩->K (.pointer (some ⟨b,i.toNat,none⟩))):gn A n i 1 K:=
 M7 b0 aj aT O fun b ab=>by rw[h1];exact U b ab
theorem jx{A:Option Addr}{b n cap:Nat}{xs:List Int}{off:Nat}(j:Nat)(ab:A=some ⟨b,0,none⟩)(ad:(Value.slice A n cap,aY.row 3 1 (is xs))∈M)(aU:off=j)(a9:j<xs.length){K:Value->an->Prop}(h:K (J (xs.getD j 0)) (Y H w0 X M)):bk Tryz.prog (Y H w0 X M) (Instr.loadAt 3 (.pointer (some ⟨b,off,none⟩))) K:=by
 subst ab aU
 exact akC ad aD W (Fq off a9) h
theorem sU{A:Option Addr}{b n cap:Nat}{xs:List Int}{off:Nat}{x:Int}(j:Nat){i:Nat}(ab:A=some ⟨b,0,none⟩)(aS:h8 M i (Value.slice A n cap) (.row 3 1 (is xs)))(aU:off=j)(a9:j<xs.length){K:an->Prop}(h:qc M i (Value.slice A n cap,.row 3 1 (is (xs.set j x))) fun aE=>K (Y H w0 X aE)):eB Tryz.prog (Y H w0 X M) (Instr.storeAt 3 (.pointer (some ⟨b,off,none⟩)) (J x)) K:=by
 subst ab aU
 exact Gf aD _ aS W (by simp[Value.cells];omega) (by simp[Value.cells]) W (anO off x a9) h
theorem rG{A:Option Addr}{n:Nat}{i:Int}{sz:Nat}{K:Value->Prop}(b o:Nat)(b0:A=some ⟨b,o,none⟩)(aT:0<=i)(O:i<n)(U:K (.pointer (some ⟨b,o+i.toNat*sz,none⟩))):gn A n i sz K:=
 ⟨⟨b,o,none⟩,b0,aT,O,by rw[Addr.add_lit];exact U⟩
theorem aJ.apW{x a b c g:Value×aY}{l:aw}:aJ (x::a::b::c::g::l) (a::b::c::x::l):=
 aJ.trans (aJ.perm (vo (l₁:=[a,b,c]) (a:=x) (l₂:=g::l)).symm) (aJ.sub (.cons_cons _ (.cons_cons _ (.cons_cons _ (.cons_cons _ (.cons _ (.refl _)))))))
end
structure jq where
 task:Int
 dst:Int
def ks:List jq->List Value
 |[]=> []
 |k::l=> J k.task:: J k.dst::ks l
structure hg where
 bS:Option Addr
 aX:Nat
 bb:Nat
 fY:Option Addr
 bB:Nat
 dD:Nat
 maps:Int
 dj:Int
 cF:Int
 main:Int
 args:Int
 locals:Int
 eU:Option Addr
 b6:Nat
 ci:Nat
 task:Int
 bW:Option Addr
 np:Nat
 bI:Nat
 fn:Int
 bq:Option Addr
 a5:Nat
 bZ:Nat
 many:Int
 path:List Int
 kids:List jq
structure mS where
 aA:Int
 aH:Int
 fail:Bool
 bK:Option Addr
 aM:Nat
 bD:Nat
 loc:List Int
 b4:Option Addr
 ns:Nat
 cs:Nat
 aO:List Int
structure l5 where
 kind:Int
 a:Int
 b:Int
 o0:Int
 o1:Int
 aQ:Int
 bl:Int
 ed:Option Addr
 ev:Nat
 bp:Nat
 got:List Int
def alg(k:hg)(v:mS)(q:l5):List Value:=[.slice k.bS k.aX k.bb,.slice k.fY k.bB k.dD,J k.maps,J k.dj,J k.cF,J k.main,J k.args,J k.locals,.slice k.eU k.b6 k.ci,
 J k.task,.slice k.bW k.np k.bI,J k.fn,J v.aA,.slice v.bK v.aM v.bD,.slice v.b4 v.ns v.cs,.slice k.bq k.a5 k.bZ,J k.many,J v.aH,.bool v.fail,
 J q.kind,J q.a,J q.b,J q.o0,J q.o1,J q.aQ,J q.bl,.slice q.ed q.ev q.bp]
def cb(k:hg)(v:mS)(q:l5)(bm:Nat)(M:aw):aw:=(ae bm,.cs 209 (alg k v q))::(.slice v.b4 v.ns v.cs,.row 3 1 (is v.aO))::(.slice v.bK v.aM v.bD,.row 3 1 (is v.loc))::(.slice q.ed q.ev q.bp,.row 3 1 (is q.got))::(.slice k.bq k.a5 k.bZ,.row 252 2 (ks k.kids))::(.slice k.bW k.np k.bI,.row 3 1 (is k.path))::M
structure eO(k:hg)(v:mS):Prop where
 aA:0<=v.aA/\v.aA<=1000000
 aH:0<=v.aH/\v.aH<=2000
 ns:v.ns=v.aO.length
 aM:v.aM=v.loc.length
 dB:v.ns<=100
 b4:0<v.cs->∃b,v.b4=some ⟨b,0,none⟩
 cs:v.ns<=v.cs
 bK:0<v.bD->∃b,v.bK=some ⟨b,0,none⟩
 bD:v.aM<=v.bD
 a5:k.a5=k.kids.length
 bq:0<k.bZ->∃b,k.bq=some ⟨b,0,none⟩
 bZ:k.a5<=k.bZ
 zk:k.a5<=1000000
theorem eO.less{k:hg}{v:mS}(h:eO k v)(m:Nat):eO k {v with ns:=v.ns-m,aO:=v.aO.take (v.ns-m)}:=
 ⟨h.aA,h.aH,by have:=h.ns;simp;omega,h.aM,by have:=h.dB;show v.ns-m<=100;omega,h.b4,by have:=h.cs;show v.ns-m<=v.cs;omega,h.bK,h.bD,h.a5,h.bq,h.bZ,h.zk⟩
abbrev iX(e:Int):Value:= .iface 27 (J e)
def bJ:l5:=⟨0,0,0,0,0,0,0,none,0,0,[]⟩
def se(l:List jq)(a:Int):Bool:=l.any fun k=>k.dst==a
theorem Fw:∀l:List jq,(ks l).length=l.length*2
 |[]=>rfl
 |k::l=>by simp only[ks,oM,Fw l];omega
theorem NB:∀(l:List jq) (i:Nat) (h:i<l.length),((ks l).drop (i*2)).take 2=[J l[i].task,J l[i].dst]
 |k::l,0,h=>rfl
 |k::l,i+1,h=>by
  have:(i+1)*2=i*2+2:=by omega
  rw[this]
  simp only[ks,List.drop_succ_cons,GR]
  exact NB l i (by simpa using h)
theorem as3 {P:Prop} (h:P:=by
 repeat'((first
  |(show ay _ _ _ _ _ _;first|(refine JV aK.loc ?_;cases Il:kL f.loc)|(refine JV aK.aO ?_;cases Im:kL f.aO))
  |(refine cd.drop (K:=K) M (List.Sublist.refl _) ?_;refine yP _ ?_;simp only[*,BQ,Bool.false_and,Bool.and_true,Bool.and_false,decide_true,decide_false];(try omega);done)
  |(refine gd sI ?_;intro be bM)
  |refine eg ?_
  |(refine eh ?_ ?_<;>(try with_reducible intro ab))
  |with_reducible intro r)<;>(try conv=>whnf))):P:=h
structure fG(H:World)(A:Option Addr)(n c:Nat)(xs:List Int):Prop where
 rd:dU H H.heap.size A (is xs)
 len:n=xs.length
 cap:n<=c
 dB:n<=1000000
structure vr(H:World)(A:Option Addr)(n c:Nat)(xs:List jq):Prop where
 rd:dU H H.heap.size A (ks xs)
 len:n=xs.length
 cap:n<=c
 dB:n<=1000000
def zO(x:Int):Bool:=decide (0<=x)&&decide (x<4294967296)
theorem asz{x:Int}(h:0<=x/\x<4294967296):zO x=true:=by simp only[zO,e3,decide_eq_true_eq];exact h
theorem asy{x:Int}(h:¬(0<=x/\x<4294967296)):zO x=false:=by
 cases e:zO x with
 |false=>rfl
 |true=>simp only[zO,e3,decide_eq_true_eq] at e;exact absurd e h
def kL(xs:List Int):Bool:=xs.all zO
def lH(d locals:Int):Bool:=decide (d= -1)||decide (0<=d)&&decide (d<locals)
def tz(locals:Int)(k:jq):Bool:=decide (1<=k.task)&&lH k.dst locals
structure fe where
 op:Int
 a:Int
 b:Int
 c:Int
def xy:List fe->List Value
 |[]=> []
 |i::l=> J i.op:: J i.a:: J i.b:: J i.c::xy l
structure nj where
 args:Int
 locals:Int
 eU:Option Addr
 b6:Nat
 ci:Nat
 ins:List fe
def nj.l(b:nj):List Value:=[J b.args,J b.locals,.slice b.eU b.b6 b.ci]
structure cr where
 bS:Option Addr
 aX:Nat
 bb:Nat
 fY:Option Addr
 bB:Nat
 dD:Nat
 maps:Int
 dj:Int
 cF:Int
 main:Int
 dC:List nj
def cr.l(c:cr):List Value:=[.slice c.bS c.aX c.bb,.slice c.fY c.bB c.dD,J c.maps,J c.dj,J c.cF,J c.main]
structure hP(H:World)(c:cr):Prop where
 aX:c.aX=c.dC.length
 dB:c.aX<=1000000
 apu:c.bB<=1000000
 body:∀i (h:i<c.dC.length),∃b o,c.bS=some ⟨b,o,none⟩/\∀q v,c.dC[i].l[q]?=some v->H.cell? ⟨b,o+i*3+q,none⟩=some v
 ins:∀i (h:i<c.dC.length),dU H H.heap.size c.dC[i].eU (xy c.dC[i].ins)/\c.dC[i].b6=c.dC[i].ins.length/\c.dC[i].b6<=1000000
structure a3 where
 task:Int
 bW:Option Addr
 np:Nat
 bI:Nat
 path:List Int
 fn:Int
 aA:Int
 bK:Option Addr
 aM:Nat
 bD:Nat
 loc:List Int
 b4:Option Addr
 ns:Nat
 cs:Nat
 aO:List Int
 bq:Option Addr
 a5:Nat
 bZ:Nat
 kids:List jq
 many:Int
 aH:Int
 fail:Bool
def a3.l(f:a3):List Value:=[J f.task,.slice f.bW f.np f.bI,J f.fn,J f.aA,.slice f.bK f.aM f.bD,.slice f.b4 f.ns f.cs,.slice f.bq f.a5 f.bZ,J f.many,J f.aH,.bool f.fail]
structure i1(H:World)(f:a3):Prop where
 path:fG H f.bW f.np f.bI f.path
 loc:fG H f.bK f.aM f.bD f.loc
 aO:fG H f.b4 f.ns f.cs f.aO
 kids:vr H f.bq f.a5 f.bZ f.kids
def b8(c:cr)(fn:Int):nj:=c.dC.getD fn.toNat ⟨0,0,none,0,0,[]⟩
def iB(c:cr)(f:a3):Bool:=
 if f.task<1\/¬(0<=f.fn/\f.fn<c.aX) then false else
 if ¬(0<=f.aA/\f.aA<(b8 c f.fn).b6+1)\/(f.aM:Int)≠(b8 c f.fn).locals\/f.ns>100 then false else
 if f.kids.all (tz (b8 c f.fn).locals)=false then false else
 kL f.loc&&(kL f.aO&&(decide (f.many>=0)&&(decide (0<=f.aH)&&decide (f.aH<2001))))
theorem Ck{K:Value->an->Prop}{C:an}{b cu:Bool}(h:cu=b)(U:K (.bool b) C):K (.bool cu) C:=by subst h;exact U
theorem akf{l:Int}{k:jq}(h:k.task<1\/¬(k.dst= -1\/0<=k.dst/\k.dst<l)):tz l k=false:=by
 cases e:tz l k with
 |false=>rfl
 |true=>simp only[tz,lH,e3,r4,decide_eq_true_eq] at e;omega
theorem akg{l:Int}{k:jq}(h:1<=k.task)(V:k.dst= -1\/0<=k.dst/\k.dst<l):tz l k=true:=by
 simp only[tz,lH,e3,r4,decide_eq_true_eq];exact⟨h,V⟩
section
theorem tv{A:Option Addr}{n c:Nat}{xs:List Int}(h:fG H A n c xs){i:Int}(j:Nat)(a9:i=j)(O:j<n){K:Value->Prop}(U:∀b off,A=some ⟨b,off,none⟩->H.cell? ⟨b,off+j,none⟩=some (J (xs.getD j 0))->K (.pointer (some ⟨b,off+j,none⟩))):gn A n i 1 K:=by
 subst a9
 have aW:(is xs)[j]?=some (J (xs.getD j 0)):=Fq j (by have:=h.len;omega)
 obtain⟨b,off,b0,_,aj⟩:=h.rd.at_ aW
 refine⟨_,b0,by omega,by omega,?_⟩
 rw[Addr.add_lit]
 simpa using U b off b0 aj
theorem Iv{A:Option Addr}{n c:Nat}{xs:List jq}(h:vr H A n c xs){i:Int}(j:Nat)(a9:i=j)(O:j<xs.length){K:Value->Prop}(U:∀b off,A=some ⟨b,off,none⟩->(∀q v,[J xs[j].task,J xs[j].dst][q]?=some v->H.cell? ⟨b,off+j*2+q,none⟩=some v)->K (.pointer (some ⟨b,off+j*2,none⟩))):gn A n i 2 K:=by
 subst a9
 have key:∀q v,[J xs[j].task,J xs[j].dst][q]?=some v->(ks xs)[j*2+q]?=some v:=fun q v ah=>by
  have:=NB xs j O
  rw[<-this] at ah
  have bd:=(l0.1 ah).1
  rw[py,if_pos (by simp at bd;omega),qo] at ah
  exact ah
 obtain⟨b,off,b0,ab,_⟩:=h.rd.at_ (key 0 _ rfl)
 refine⟨_,b0,by omega,by have:=h.len;omega,?_⟩
 rw[Addr.add_lit]
 simp only[r8]
 refine U b off b0 fun q v ah=>?_
 obtain⟨cu,FK,fE,_,aj⟩:=h.rd.at_ (key q v ah)
 rw[b0] at fE
 injection fE with fE
 injection fE with e1 e2
 subst e1 e2
 rw[yl]
 exact aj
theorem JV{A:Option Addr}{n c:Nat}{xs:List Int}(h:fG H A n c xs)(U:K (.bool (kL xs)) (Y H w0 X M)):ay Tryz.prog (Y H w0 X M) 85 #[.slice A n c] K Z:=by
 refine a7 aj5 ?_
 intro az aF
 conv=>whnf
 refine c9.on (X:=Nat) (fun i=> [(5,.v (.slice A n c)),(6,.v (J n)),(7,.v (J (i:Int)))]) (fun _=> []) (fun _=>Y H az aF M) (fun i=>i<=n/\∀j,j<i->zO (xs.getD j 0)=true) (fun i=>n-i) 0 ⟨cY _,fun _ h=>absurd h S⟩ ⟨rfl,rfl,rfl,trivial⟩ trivial ?_
 intro i r ⟨hi,mj⟩
 conv=>whnf
 have KQ:zO (xs.getD i 0)=false->i<n->K (.bool false) (Y H w0 X M):=fun ah cc=>by
  have:kL xs=false:=by
   unfold kL
   rw[List.all_eq_false]
   have aW:i<xs.length:=by have:=h.len;omega
   refine⟨xs[i],fM aW,?_⟩
   have e:xs.getD i 0=xs[i]:=by simp[List.getD,aW]
   rw[e] at ah
   simp[ah]
  rw[this] at U
  exact U
 refine ba.dec (fun cc=>?_) (fun sx=>?_)
 ·have cc:i<n:=by omega
  conv=>whnf
  refine tv h i rfl cc (fun b off b0 aj=>?_)
  conv=>whnf
  refine mo aj aD W ?_
  conv=>whnf
  repeat'(first
   |(refine cd.drop (K:=K) M (List.Sublist.refl _) ?_;exact KQ (asy S) cc)
   |exact cC (X:=Nat) (i+1) S ⟨by omega,fun j a9=>by
     by_cases e:j=i
     ·subst e;exact asz S
     ·exact mj j S⟩ ⟨rfl,rfl,by show cD.v (J (IntKind.i64.wrap ((i:Int)+1)))=_;rw[cK (by have:=h.dB;omega)];rfl,trivial⟩ trivial
   |(refine eS.go ?_;conv=>whnf)
   |(refine hy.go ?_;conv=>whnf)
   |(refine gd Tj ?_;intro be bM;conv=>whnf)
   |(refine gd sI ?_;intro be bM;conv=>whnf)
   |(refine ba.dec (fun ab=>?_) (fun ab=>?_)<;>conv=>whnf)
   |(refine ba.v7 (fun ab=>?_) (fun ab=>?_)<;>conv=>whnf))
 ·conv=>whnf
  refine cd.drop (K:=K) M (List.Sublist.refl _) ?_
  have:kL xs=true:=by
   unfold kL
   rw[yg]
   intro x aW
   obtain⟨j,a9,rfl⟩:=List.mem_iff_getElem.1 aW
   have:=mj j (by have:=h.len;omega)
   simpa[List.getD,a9] using this
  rw[this] at U
  exact U
theorem hP.at_{c:cr}(h:hP H c){fn:Int}(aT:0<=fn)(O:fn<c.aX):∃b o,c.bS=some ⟨b,o,none⟩/\∀q v,(b8 c fn).l[q]?=some v->H.cell? ⟨b,o+fn.toNat*3+q,none⟩=some v:=by
 have hi:fn.toNat<c.dC.length:=by have:=h.aX;omega
 have e:b8 c fn=c.dC[fn.toNat]:=by simp[b8,List.getD,hi]
 rw[e]
 exact h.body _ hi
theorem hP.b6{c:cr}(h:hP H c){fn:Int}(aT:0<=fn)(O:fn<c.aX):dU H H.heap.size (b8 c fn).eU (xy (b8 c fn).ins)/\(b8 c fn).b6=(b8 c fn).ins.length/\(b8 c fn).b6<=1000000:=by
 have hi:fn.toNat<c.dC.length:=by have:=h.aX;omega
 have e:b8 c fn=c.dC[fn.toNat]:=by simp[b8,List.getD,hi]
 rw[e]
 exact h.ins _ hi
theorem ao1{c:cr}{f:a3}(aj:hP H c)(aK:i1 H f)(U:K (.bool (iB c f)) (Y H w0 X M)):ay Tryz.prog (Y H w0 X M) 123 #[.agg c.l.toArray,.agg f.l.toArray] K Z:=by
 refine a7 ahz ?_
 intro az aF
 conv=>whnf
 repeat'(first
  |(show eS _ _;first|(refine eS.go ?_;conv=>whnf))
  |(refine cd.drop (K:=K) M (List.Sublist.refl _) ?_;refine Ck ?_ U;rw[iB,if_pos S])
  |(refine hy.go ?_;conv=>whnf)
  |(refine gd sI ?_;intro be bM;conv=>whnf)
  |(refine ba.dec (fun ab=>?_) (fun ab=>?_)<;>conv=>whnf)
  |(refine ba.v7 (fun ab=>?_) (fun ab=>?_)<;>conv=>whnf))
 rename_i bJ m8
 obtain⟨b,o,b0,im⟩:=aj.at_ m8 ab
 obtain⟨_,lK,awm⟩:=aj.b6 m8 ab
 refine rG b o b0 m8 ab ?_
 conv=>whnf
 refine iZ (b8 c f.fn).l im aD W W ?_
 conv=>whnf
 have e1:IntKind.i64.wrap (((b8 c f.fn).b6:Int)+1)=(b8 c f.fn).b6+1:=cK S
 repeat'(first
  |(show eS _ _;first|(refine eS.go ?_;conv=>whnf))
  |(refine cd.drop (K:=K) M (List.Sublist.refl _) ?_;refine Ck ?_ U;rw[iB,if_neg S,if_pos S])
  |(refine hy.go ?_;conv=>whnf)
  |(refine gd sI ?_;intro be bM;conv=>whnf)
  |(refine ba.dec (fun ab=>?_) (fun ab=>?_)<;>conv=>whnf)
  |(refine ba.sM (fun ab=>?_) (fun ab=>?_)<;>conv=>whnf)
  |(refine ba.v7 (fun ab=>?_) (fun ab=>?_)<;>conv=>whnf))
 refine c9.on (X:=Nat) (fun i=> [(2,.p 2 0),(3,.p 3 0),(5,.p 5 0),(49,.v (.slice f.bq f.a5 f.bZ)),(50,.v (J f.a5)),(51,.v (J (i:Int)))]) (fun _=> [(2,25,c.l),(3,108,f.l),(5,63,(b8 c f.fn).l)]) (fun _=>Y H az aF M) (fun i=>i<=f.a5/\∀j (h:j<f.kids.length),j<i->tz (b8 c f.fn).locals f.kids[j]=true) (fun i=>f.a5-i) 0 ⟨cY _,fun _ _ h=>absurd h S⟩ ⟨rfl,rfl,rfl,rfl,rfl,rfl,trivial⟩ ⟨rfl,rfl,rfl,trivial⟩ ?_
 rename_i p8 wg Ji
 intro i r ⟨hi,mj⟩
 conv=>whnf
 have rB:=aK.kids.len
 refine ba.dec (fun cc=>?_) (fun sx=>?_)
 ·have cc:i<f.kids.length:=by omega
  have KQ:tz (b8 c f.fn).locals f.kids[i]=false->K (.bool false) (Y H w0 X M):=fun ah=>by
   refine Ck ?_ U
   have a8:f.kids.all (tz (b8 c f.fn).locals)=false:=List.all_eq_false.2 ⟨f.kids[i],fM cc,by simp[ah]⟩
   rw[iB,if_neg S,if_neg S,if_pos a8]
  conv=>whnf
  refine Iv aK.kids i rfl cc (fun cu fX fE jd=>?_)
  conv=>whnf
  refine iZ _ jd aD W W ?_
  conv=>whnf
  repeat'(first
   |(refine cd.drop (K:=K) M (List.Sublist.refl _) ?_;exact KQ (akf S))
   |exact cC (X:=Nat) (i+1) S ⟨by omega,fun j a9 iq=>by
     by_cases e:j=i
     ·subst e;exact akg S S
     ·exact mj j a9 S⟩ ⟨rfl,rfl,rfl,rfl,rfl,by show cD.v (J (IntKind.i64.wrap ((i:Int)+1)))=_;rw[cK (by have:=aK.kids.dB;omega)];rfl,trivial⟩ ⟨rfl,rfl,rfl,trivial⟩
   |(refine eS.go ?_;conv=>whnf)
   |(refine hy.go ?_;conv=>whnf)
   |(refine gd Nt ?_;intro be bM;conv=>whnf)
   |(refine gd sI ?_;intro be bM;conv=>whnf)
   |(refine ba.dec (fun ab=>?_) (fun ab=>?_)<;>conv=>whnf)
   |(refine ba.sk (fun ab=>?_) (fun ab=>?_)<;>conv=>whnf)
   |(refine ba.v7 (fun ab=>?_) (fun ab=>?_)<;>conv=>whnf))
 ·have pR:¬f.kids.all (tz (b8 c f.fn).locals)=false:=by
   have:f.kids.all (tz (b8 c f.fn).locals)=true:=by
    rw[yg]
    intro x aW
    obtain⟨j,a9,rfl⟩:=List.mem_iff_getElem.1 aW
    exact mj j a9 S
   rw[this];simp
  have yP:∀b,b=(kL f.loc&&(kL f.aO&&(decide (f.many>=0)&&(decide (0<=f.aH)&&decide (f.aH<2001)))))->K (.bool b) (Y H w0 X M):=fun b e=>by
   refine Ck ?_ U
   rw[iB,if_neg S,if_neg S,if_neg pR]
   exact e
  conv=>whnf
  exact as3
end
structure cm where
 phase:Int
 at_:Int
 task:Int
 hN:Int
 iA:Int
 gZ:Int
 gG:Int
 hl:Int
 j1:Int
 p3:Int
 gA:Option Addr
 eM:Nat
 gJ:Nat
 o0:Int
 o1:Int
 aQ:Int
 bl:Int
 bK:Option Addr
 aM:Nat
 bD:Nat
 b4:Option Addr
 ns:Nat
 cs:Nat
 ho:Option Addr
 ew:Nat
 h3:Nat
 hold:Int
def cm.l(s:cm):List Value:=[J s.phase,J s.at_,J s.task,J s.hN,J s.iA,J s.gZ,J s.gG,J s.hl,J s.j1,J s.p3,.slice s.gA s.eM s.gJ,J s.o0,J s.o1,J s.aQ,J s.bl,.slice s.bK s.aM s.bD,.slice s.b4 s.ns s.cs,.slice s.ho s.ew s.h3,J s.hold]
def hB(w:World)(cL:List Nat):World:={w with heap:=w.heap.mapIdx fun i o=>if i∈cL then HC else o}
def xA(M:aw):List Nat:=M.filterMap fun e=>fH e.1
theorem yM(w:World)(cL:List Nat):(hB w cL).heap.size=w.heap.size:=by simp[hB]
theorem LD(w:World){cL:List Nat}{k:Nat}(h:k∈cL):¬lz (hB w cL) k:=fun⟨O,V⟩=>by
 rw[yM] at O
 apply V
 simp[hB,h,O]
theorem LG(w:World){cL:List Nat}{k:Nat}(h:k∉cL):(hB w cL).heap[k]?=w.heap[k]?:=by
 simp only[hB,Array.getElem?_mapIdx]
 cases e:w.heap[k]?<;>simp[h]
theorem LC(w:World){cL:List Nat}{k:Nat}(h:lz (hB w cL) k):w.heap[k]?=(hB w cL).heap[k]?:=by
 by_cases U:k∈cL
 ·exact absurd h (LD w U)
 ·exact(LG w U).symm
structure dc(H:World)(M:aw)(E:World):Prop where
 cell:∀a v,H.cell? a=some v->E.cell? a=some v
 row:∀A n c t sz l,(Value.slice A n c,aY.row t sz l)∈M->dU E E.heap.size A l/\l.length=n*sz/\n<=c/\c<=maxLen
 cs:∀b t l,(ae b,aY.cs t l)∈M->∀j v,l[j]?=some v->E.cell? ⟨b,j,none⟩=some v
theorem KB.cell{w:World}{b:Nat}{t:TypeId}{sz n cap:Nat}{l:List Value}(h:KB w b t sz n cap l){j:Nat}{u:Value}(aS:l[j]?=some u):w.cell? ⟨b,j,none⟩=some u:=by
 obtain⟨cur,O,V,aa⟩:=h
 have a9:j<n*sz:=by
  have:=(l0.1 aS).1
  rw[<-aa] at this
  simp at this
  omega
 rw[<-aa,py,if_pos a9] at aS
 rw[cell_of_row _ _ _ _ _ _ O]
 simpa using aS
section
variable{P:Program}{H w0:World}{X:Nat->Prop}{M k9 iU:aw}{K:Value->an->Prop}{Z:bF}
theorem dJ.u2{w:World}(au:dJ H w0 X (k9++iU) w):dc H iU (hB w (xA k9)):=by
 have pU:=au.pc
 rw[List.filterMap_append] at pU
 have E9:=(List.nodup_append.1 pU).2.2
 have im:∀(a:Addr) (v:Value),w.cell? a=some v->a.block∉xA k9->(hB w (xA k9)).cell? a=some v:=fun a v ah aB=>(World.cell?_of_block (LG w aB)).trans ah
 refine⟨fun a v ah=>?_,fun A n c t sz l ad=>?_,fun b t l ad j v ah=>?_⟩
 ·refine im _ _ (dJ.xG au ah) fun U=>?_
  obtain⟨e,af,ab⟩:=jc.1 U
  exact(au.ap e (iw.2 (.inl af)) _ ab).2 (lz.of ah)
 ·obtain⟨aR,dT,fD,e,ai,aB,aW,aP⟩:=au.new _ (iw.2 (.inr ad))
  injection e with e1 e2 cR
  subst e1 e2 cR
  refine⟨?_,ai,aB,aW⟩
  rcases aP with rfl|⟨b,rfl,aT,aP⟩
  ·have:n=0:=by omega
   subst this
   have:l=[]:=q8 S
   exact .inl this
  ·have Mh:fH (Value.slice (some ⟨b,0,none⟩) n c)=some b:=by
    have:¬c=0:=by omega
    simp[fH,this]
   have sq:b∉xA k9:=fun U=>E9 _ U b (jc.2 ⟨_,ad,Mh⟩) rfl
   refine .inr ⟨b,0,rfl,?_,fun j u aS=>?_⟩
   ·obtain⟨cur,O,_⟩:=aP
    rw[yM]
    exact(oI.1 O).1
   ·rw[vq]
    exact im _ _ (aP.cell aS) sq
 ·obtain⟨cu,e,O⟩:=au.new _ (iw.2 (.inr ad))
  injection e with e
  injection e with e
  injection e with e
  subst e
  have sq:b∉xA k9:=fun U=>E9 _ U b (jc.2 ⟨_,ad,rfl⟩) rfl
  refine im _ _ ?_ sq
  rw[cell_of_row _ _ _ _ _ _ O]
  simpa using ah
theorem dJ.aqv{w:World}(au:dJ H w0 X (k9++iU) w):dJ (hB w (xA k9)) w (i4 k9) k9 w:=by
 have pU:=au.pc
 rw[List.filterMap_append] at pU
 exact⟨rfl,rfl,rfl,Nat.le_refl _,fun _ _ _=>rfl,by rw[yM];exact Nat.le_refl _,fun k U=>LC w U,fun e af=>au.new e (iw.2 (.inl af)),fun e af b ab=>⟨.inr (qI af ab),LD w (qI af ab)⟩,(List.nodup_append.1 pU).1⟩
theorem QN{w w':World}{aE:aw}(au:dJ H w0 X (k9++iU) w)(V:dJ (hB w (xA k9)) w (i4 k9) aE w'):iJ (Y H w0 X (k9++iU)) w (Y H w0 X (aE++iU)) w'/\dJ H w0 X (aE++iU) w':=by
 have cc:∀e∈k9++iU,∀b,fH e.1=some b->b<w.heap.size:=fun e af b ab=>(au.new e af).oS ab
 have pU:=au.pc
 rw[List.filterMap_append] at pU
 have E9:=(List.nodup_append.1 pU).2.2
 have afM:∀k,lz H k->¬i4 k9 k:=fun k U ad=>by
  obtain⟨e,af,ab⟩:=jc.1 ad
  exact(au.ap e (iw.2 (.inl af)) _ ab).2 U
 have afN:∀e∈iU,∀b,fH e.1=some b->¬i4 k9 b:=fun e af b ab ad=>E9 _ ad b (jc.2 ⟨e,af,ab⟩) rfl
 refine⟨⟨V.size,fun k U aB=>V.fk k U fun ad=>?_,fun k U=>?_⟩,V.os.trans au.os,V.tape.trans au.tape,V.output.trans au.output,jr au.size V.size,fun k U aW=>(V.fk k (lB U au.size) fun ad=>?_).trans (au.fk k U aW),jr au.nL V.size,fun k U=>(V.fk k (lB U.1 au.nL) (afM k U)).trans (au.rj k U),fun e af=>?_,fun e af b ab=>?_,?_⟩
 ·obtain⟨e,af,ab⟩:=jc.1 ad
  exact aB (.inr (.inr (qI (iw.2 (.inl af)) ab)))
 ·rcases U with U|U|U
  ·exact .inl (.inl U)
  ·exact .inl (.inr (.inl U))
  ·obtain⟨e,af,ab⟩:=jc.1 U
   rcases iw.1 af with af|af
   ·rcases(V.ap e af k ab).1 with aa|aa
    ·exact .inr aa
    ·obtain⟨hJ,xm,dQ⟩:=jc.1 aa
     exact .inl (.inr (.inr (qI (iw.2 (.inl xm)) dQ)))
   ·exact .inl (.inr (.inr (qI (iw.2 (.inr af)) ab)))
 ·obtain⟨e,af,ab⟩:=jc.1 ad
  rcases(au.ap e (iw.2 (.inl af)) k ab).1 with aa|aa
  ·omega
  ·exact aW aa
 ·rcases iw.1 af with af|af
  ·exact V.new e af
  ·exact(au.new e (iw.2 (.inr af))).ee fun b ab=>V.fk b (cc e (iw.2 (.inr af)) b ab) (afN e af b ab)
 ·rcases iw.1 af with af|af
  ·rcases(V.ap e af b ab).1 with aa|aa
   ·exact⟨.inl (jr au.size aa),lz.not au.nL aa⟩
   ·obtain⟨hJ,xm,dQ⟩:=jc.1 aa
    exact au.ap hJ (iw.2 (.inl xm)) b dQ
  ·exact au.ap e (iw.2 (.inr af)) b ab
 ·rw[List.filterMap_append]
  refine List.nodup_append.2 ⟨V.pc,(List.nodup_append.1 pU).2.1,fun a a8 b ab e=>?_⟩
  subst e
  obtain⟨x,aW,SN⟩:=jc.1 a8
  obtain⟨y,bV,SR⟩:=jc.1 ab
  rcases(V.ap x aW a SN).1 with aa|aa
  ·have ag:=cc y (iw.2 (.inr bV)) a SR
   omega
  ·exact E9 _ aa a (jc.2 ⟨y,bV,SR⟩) rfl
structure hR(H w0:World)(X:Nat->Prop)(E w:World)(fV:Nat->Prop)(iU:aw)(K:Value->an->Prop)(v:Value)(C:an):Prop where
 out:∃aE,C=Y E w fV aE/\K v (Y H w0 X (aE++iU))
structure z8(H w0:World)(X:Nat->Prop)(E w:World)(fV:Nat->Prop)(iU:aw)(Z:bF)(ch:List PanicEntry)(C:an):Prop where
 out:∃aE,C=Y E w fV aE/\Z ch (Y H w0 X (aE++iU))
theorem hR.go{E w:World}{fV:Nat->Prop}{v:Value}{aE:aw}(h:K v (Y H w0 X (aE++iU))):hR H w0 X E w fV iU K v (Y E w fV aE):=⟨aE,rfl,h⟩
theorem z8.go{E w:World}{fV:Nat->Prop}{ch:List PanicEntry}{aE:aw}(h:Z ch (Y H w0 X (aE++iU))):z8 H w0 X E w fV iU Z ch (Y E w fV aE):=⟨aE,rfl,h⟩
theorem ay.anchor{f:FuncId}{args:Array Value}(k9 iU:aw){M:aw}(af:oa P f)(b9:M=k9++iU)(h:∀E w fV,dc H iU E->ay P (Y E w fV k9) f args (hR H w0 X E w fV iU K) (z8 H w0 X E w fV iU Z)):ay P (Y H w0 X M) f args K Z:=by
 subst b9
 constructor
 refine⟨af,fun w au=>?_⟩
 refine((h _ w (i4 k9) (dJ.u2 au)).out.2 w (dJ.aqv au)).mono fun e az eb=>?_
 rcases eb with⟨v,aG,O,V,aa,⟨aE,rfl,ag⟩⟩|⟨ch,aG,O,V,aa,⟨aE,rfl,ag⟩⟩
 ·obtain⟨a6,bU⟩:=QN au aa
  exact .inl ⟨v,_,O,a6,bU,ag⟩
 ·obtain⟨a6,bU⟩:=QN au aa
  exact .inr ⟨ch,_,O,a6,bU,ag⟩
theorem dc.less{aE:aw}{E:World}(h:dc H M E)(ar:∀e∈aE,e∈M):dc H aE E:=⟨h.cell,fun A n c t sz l ad=>h.row A n c t sz l (ar _ ad),fun b t l ad=>h.cs b t l (ar _ ad)⟩
theorem dc.trans{aE:aw}{E BU:World}(h:dc H M E)(ak:dc E aE BU):dc H (aE++M) BU:=by
 have rC:∀(A:Option Addr) (xs:List Value),dU E E.heap.size A xs->dU BU BU.heap.size A xs:=fun A xs aP=>by
  rcases aP with rfl|⟨b,off,rfl,ab,aj⟩
  ·exact .inl rfl
  ·cases xs with
   |nil=>exact .inl rfl
   |cons x xs=>exact .inr ⟨b,off,rfl,World.block_lt_of_cell? BU _ (ak.cell _ _ (aj 0 x rfl)),fun j u aS=>ak.cell _ _ (aj j u aS)⟩
 refine⟨fun a v ah=>ak.cell _ _ (h.cell _ _ ah),fun A n c t sz l ad=>?_,fun b t l ad=>?_⟩
 ·rcases iw.1 ad with ad|ad
  ·exact ak.row A n c t sz l ad
  ·obtain⟨O,V⟩:=h.row A n c t sz l ad
   exact⟨rC _ _ O,V⟩
 ·rcases iw.1 ad with ad|ad
  ·exact ak.cs b t l ad
  ·exact fun j v ah=>ak.cell _ _ (h.cs b t l ad j v ah)
theorem dc.rd{E:World}(h:dc H M E){A:Option Addr}{xs:List Value}(aP:dU H H.heap.size A xs):dU E E.heap.size A xs:=by
 rcases aP with rfl|⟨b,off,rfl,ab,aj⟩
 ·exact .inl rfl
 ·cases xs with
  |nil=>exact .inl rfl
  |cons x xs=>exact .inr ⟨b,off,rfl,World.block_lt_of_cell? E _ (h.cell _ _ (aj 0 x rfl)),fun j u aS=>h.cell _ _ (aj j u aS)⟩
theorem dc.FM{E:World}(h:dc H M E){A:Option Addr}{n c:Nat}{xs:List Int}(aU:fG H A n c xs):fG E A n c xs:=⟨h.rd aU.rd,aU.len,aU.cap,aU.dB⟩
theorem dc.aml{E:World}(h:dc H M E){A:Option Addr}{n c:Nat}{xs:List jq}(aU:vr H A n c xs):vr E A n c xs:=⟨h.rd aU.rd,aU.len,aU.cap,aU.dB⟩
theorem dc.kg{E:World}(h:dc H M E){A:Option Addr}{n c:Nat}{t:TypeId}{xs:List Int}(ad:(Value.slice A n c,aY.row t 1 (is xs))∈M)(ar:n<=1000000):fG E A n c xs:=by
 obtain⟨O,V,aa,_⟩:=h.row _ _ _ _ _ _ ad
 exact⟨O,by simpa using V.symm,aa,ar⟩
theorem dc.Oi{E:World}(h:dc H M E){A:Option Addr}{n c:Nat}{t:TypeId}{xs:List jq}(ad:(Value.slice A n c,aY.row t 2 (ks xs))∈M)(ar:n<=1000000):vr E A n c xs:=by
 obtain⟨O,V,aa,_⟩:=h.row _ _ _ _ _ _ ad
 exact⟨O,by rw[Fw] at V;omega,aa,ar⟩
theorem dc.code{E:World}(h:dc H M E){c:cr}(aj:hP H c):hP E c:=by
 refine⟨aj.aX,aj.dB,aj.apu,fun i hi=>?_,fun i hi=>?_⟩
 ·obtain⟨b,o,O,V⟩:=aj.body i hi
  exact⟨b,o,O,fun q v ah=>h.cell _ _ (V q v ah)⟩
 ·obtain⟨O,V,aa⟩:=aj.ins i hi
  exact⟨h.rd O,V,aa⟩
theorem dc.jR{E:World}(h:dc H M E){f:a3}(aK:i1 H f):i1 E f:=⟨h.FM aK.path,h.FM aK.loc,h.FM aK.aO,h.aml aK.kids⟩
end
theorem asO {P:Prop} (h:P:=by
 repeat'((first
  |(refine cd.drop (K:=K) M cn (U _ _ _ _ (by first|(exfalso;omega)|skip;simp only[qY,cB];repeat(first|rfl|refine(if_pos S).trans ?_|refine(if_neg S).trans ?_))))
  |(exact fun h=>absurd h S)
  |refine eg ?_
  |(refine eh ?_ ?_<;>(try with_reducible intro ab))
  |with_reducible intro r)<;>(try conv=>whnf))):P:=h
structure c8 where
 bt:Int
 nodes:Int
 buckets:Int
 h6:Int
 en:Int
 cells:Int
 maps:Int
 dj:Int
 cF:Int
 done:Int
 count:Int
 era:Int
 free:Int
 alive:Int
 owner:Int
 qV:Int
 qv:Int
 ring:Int
 task:Int
 cell:Int
 map:Int
 stack:Int
 chan:Int
 node:Int
 size:Int
def c8.l(a:c8):List Value:=[J a.bt,J a.nodes,J a.buckets,J a.h6,J a.en,J a.cells,J a.maps,J a.dj,J a.cF,J a.done,J a.count,J a.era,J a.free,J a.alive,J a.owner,J a.qV,J a.qv,J a.ring,J a.task,J a.cell,J a.map,J a.stack,J a.chan,J a.node,J a.size]
structure ug where
 val:Int
 eG:Bool
 err:Int
 c0:Int
 ho:Option Addr
 ew:Nat
 h3:Nat
def ug.l(u:ug):List Value:=[J u.val,.bool u.eG,J u.err,J u.c0,.slice u.ho u.ew u.h3]
structure l8 where
 c:cr
 la:c8
 s:cm
 bS:Option Addr
 aX:Nat
 bb:Nat
 a1:Int
 dP:Int
 u:ug
 bN:Int
def l8.l(t:l8):List Value:=[.slice t.c.bS t.c.aX t.c.bb,.slice t.c.fY t.c.bB t.c.dD,J t.c.maps,J t.c.dj,J t.c.cF,J t.c.main,J t.la.bt,J t.la.nodes,J t.la.buckets,J t.la.h6,J t.la.en,J t.la.cells,J t.la.maps,J t.la.dj,J t.la.cF,J t.la.done,J t.la.count,J t.la.era,J t.la.free,J t.la.alive,J t.la.owner,J t.la.qV,J t.la.qv,J t.la.ring,J t.la.task,J t.la.cell,J t.la.map,J t.la.stack,J t.la.chan,J t.la.node,J t.la.size,J t.s.phase,J t.s.at_,J t.s.task,J t.s.hN,J t.s.iA,J t.s.gZ,J t.s.gG,J t.s.hl,J t.s.j1,J t.s.p3,.slice t.s.gA t.s.eM t.s.gJ,J t.s.o0,J t.s.o1,J t.s.aQ,J t.s.bl,.slice t.s.bK t.s.aM t.s.bD,.slice t.s.b4 t.s.ns t.s.cs,.slice t.s.ho t.s.ew t.s.h3,J t.s.hold,.slice t.bS t.aX t.bb,J t.a1,J t.dP,J t.u.val,.bool t.u.eG,J t.u.err,J t.u.c0,.slice t.u.ho t.u.ew t.u.h3,J t.bN]
def dy(t:l8)(bO:Nat)(M:aw):aw:=(ae bO,.cs 249 t.l)::M
structure dp where
 o0:Int
 o1:Int
 aQ:Int
 bl:Int
def dp.l(p:dp):List Value:=[J p.o0,J p.o1,J p.aQ,J p.bl]
def cB(x:Int):Int:=IntKind.i64.wrap x
def qY(n a1 dP at_:Int):dp:=
 if at_=0 then⟨9,a1,0,0⟩ else
 if 1<=at_/\at_<=cB (n-1) then⟨10,(cB (a1+at_)).tmod n,0,0⟩ else
 if 1<=n/\n<=at_/\at_<=cB (cB (2*n)-2) then⟨16,0,(cB (cB (cB (a1+at_)-n)+1)).tmod n,dP⟩ else⟨0,0,0,0⟩
section
theorem Wk{a:c8}{a1 dP at_:Int}(aB:1<=a.bt/\a.bt<=8)(U:∀o0 o1 aQ bl,qY a.bt a1 dP at_=⟨o0,o1,aQ,bl⟩->K (.agg (dp.l ⟨o0,o1,aQ,bl⟩).toArray) (Y H w0 X M)):ay Tryz.prog (Y H w0 X M) 40 #[.agg a.l.toArray,J a1,J dP,J at_] K Z:=by
 refine a7 ajU ?_
 intro az aF
 conv=>whnf
 exact asO
end
theorem r1 {P:Prop} (h:P:=by
 repeat'((first
  |(show ay _ _ _ _ _ _;first|(refine PV S S S (fun v ah=>?_))|(refine PV S S (by rw[cK S];omega) (fun v ah=>?_)))
  |((rw[cK (x:=1+a.h6) S] at ah);exact c1 (U _ ah))
  |(exact c1 (U _ ah))
  |(exact c1 (U _ (if_pos S).symm))
  |((rw[cK (x:=2+a.buckets) S] at ah;rw[cK (x:=2+b) S] at ah);exact c1 (U _ (ah.trans (if_neg S).symm)))
  |((rw[cK (x:=2+a.buckets) S] at ah);exact c1 (U _ (ah.trans (if_neg S).symm)))
  |((rw[cK (x:=1+a.h6) S] at ah;rw[cK (x:=1+i) S] at ah);exact c1 (U _ (ah.trans (if_neg S).symm)))
  |(exact c1 (U _ (ah.trans (if_neg S).symm)))
  |(exact c1 (U _ (as5 aK ad af S)))
  |refine eg ?_
  |(refine eh ?_ ?_<;>(try with_reducible intro ab)<;>(try(exfalso;omega)))
  |with_reducible intro r)<;>(try conv=>whnf))):P:=h
abbrev a4(H w0:World)(X:Nat->Prop)(M:aw)(f:FuncId)(args:Array Value)(K:Value->an->Prop)(Z:bF):Prop:=ay Tryz.prog (Y H w0 X M) f args K Z
section
theorem uS{b:Nat}{t0:TypeId}{l:List Value}{off:Nat}{v:Value}{t:TypeId}{c2:c5}(h:K v (Y H w0 X M))(ad:(ae b,aY.cs t0 l)∈M:=by repeat(first|exact List.Mem.head _|refine dr _ ?_))(hi:e7 Tryz.prog t c2:=by exact e8 _ _ W)(dX:c2.d.agg=false:=by rfl)(ah:l[off]?=some v:=by rfl):bk Tryz.prog (Y H w0 X M) (Instr.loadAt t (.pointer (some ⟨b,off,none⟩))) K:=fv ad hi dX ah h
theorem IM{b:Nat}{t0:TypeId}{l:List Value}{off:Nat}{t:TypeId}{c2:c5}(h:km ((l.drop off).take c2.size) fun vs=>jO (Nat.beq vs.length c2.size) (K (.agg vs.toArray) (Y H w0 X M)))(ad:(ae b,aY.cs t0 l)∈M:=by repeat(first|exact List.Mem.head _|refine dr _ ?_))(hi:e7 Tryz.prog t c2:=by exact e8 _ _ W)(dX:c2.d.agg=true:=by rfl):bk Tryz.prog (Y H w0 X M) (Instr.loadAt t (.pointer (some ⟨b,off,none⟩))) K:=ke ad hi dX h
theorem st{b:Nat}{t0:TypeId}{l:List Value}{t:TypeId}{c2:c5}{off:Nat}{v:Value}{i:Nat}{K:an->Prop}(h:nr v fun vs=>jO (Nat.beq vs.length c2.size&&Nat.ble (off+vs.length) l.length&&wU vs) (km (hf l off vs) fun ib=>qc M i (ae b,.cs t0 ib) fun aE=>K (Y H w0 X aE)))(aS:h8 M i (ae b) (.cs t0 l):=by repeat(first|exact h8.here|apply h8.there))(hi:e7 Tryz.prog t c2:=by exact e8 _ _ W):eB Tryz.prog (Y H w0 X M) (Instr.storeAt t (.pointer (some ⟨b,off,none⟩)) v) K:=tV hi aS h
theorem c1{be:World}{bM:Nat->Prop}{v:Value}{dz eX:aw}(h:K v (Y H w0 X eX))(ar:List.Sublist eX dz:=by repeat(first|exact List.Sublist.refl _|refine s5 _ ?_|refine yf _ ?_)):cd H w0 X be bM K v (Y H be bM dz):=cd.drop eX ar h
theorem cA{be:World}{bM:Nat->Prop}{v:Value}{dz:aw}(h:K v (Y H w0 X dz)):cd H w0 X be bM K v (Y H be bM dz):=cd.drop dz (List.Sublist.refl _) h
theorem hD{be:World}{bM:Nat->Prop}{ch:List PanicEntry}{dz:aw}(h:Z ch (Y H w0 X dz)):ia H w0 X be bM Z ch (Y H be bM dz):=ia.drop dz (List.Sublist.refl _) h
theorem k1{be:World}{bM:Nat->Prop}{ch:List PanicEntry}{dz eX:aw}(h:Z ch (Y H w0 X eX))(ar:List.Sublist eX dz:=by repeat(first|exact List.Sublist.refl _|refine s5 _ ?_|refine yf _ ?_)):ia H w0 X be bM Z ch (Y H be bM dz):=ia.drop eX ar h
end
structure ig(a:c8):Prop where
 bt:1<=a.bt/\a.bt<=8
 nodes:0<=a.nodes/\a.nodes<=1000
 buckets:1<=a.buckets/\a.buckets<=64
 h6:1<=a.h6/\a.h6<=8
 en:1<=a.en/\a.en<=64
 cells:0<=a.cells/\a.cells<=16
 maps:0<=a.maps/\a.maps<=8
 dj:0<=a.dj/\a.dj<=8
 cF:0<=a.cF/\a.cF<=8
 at_:∀x∈[a.done,a.count,a.era,a.free,a.alive,a.owner,a.qV,a.qv,a.ring,a.task,a.cell,a.map,a.stack,a.chan,a.node,a.size],0<=x/\x<=100000
def pq(f m e r i:Int):Int:=if r<0\/m<=r\/i<0\/e<=i then-1 else f+r*e+i
def vy(a:c8)(w:Int):Int:=pq a.alive a.bt 1 w 0
def Dw(a:c8)(w:Int):Int:=pq a.owner a.bt 1 w 0
def Br(a:c8)(s i:Int):Int:=pq a.qV a.bt 3 s i
def nP(a:c8)(s i:Int):Int:=pq a.qv a.bt 3 s i
def pj(a:c8):Int:=if a.en<=4 then 1 else if a.en<=8 then 2 else if a.en<=16 then 3 else if a.en<=32 then 4 else 5
def vx(r:Int):Int:=if r<=0 then 0 else if r=1 then 4 else if r=2 then 12 else if r=3 then 28 else if r=4 then 60 else 124
def ls(a:c8)(s r:Int):Int:=if r<0\/pj a<=r then-1 else pq a.ring a.bt (vx (pj a)) s (vx r)
def hY(a:c8)(t i:Int):Int:=if t<1 then-1 else pq a.task a.en 4 (cB (t-1)) i
def Cl(a:c8)(i:Int):Int:=pq a.cell a.cells 1 i 0
def oA(a:c8)(m i:Int):Int:=if 1<i then-1 else pq a.map a.maps (2+a.buckets) m i
def Cj(a:c8)(m b:Int):Int:=if b<0\/a.buckets<=b then-1 else pq a.map a.maps (2+a.buckets) m (2+b)
def wx(a:c8)(s:Int):Int:=pq a.stack a.dj (1+a.h6) s 0
def Wv(a:c8)(s i:Int):Int:=if i<0\/a.h6<=i then-1 else pq a.stack a.dj (1+a.h6) s (1+i)
def rv(a:c8)(c:Int):Int:=pq a.chan a.cF 2 c 0
def qg(a:c8)(c:Int):Int:=pq a.chan a.cF 2 c 1
def eL(a:c8)(n i:Int):Int:=if n<1 then-1 else pq a.node a.nodes 8 (cB (n-1)) i
section
theorem as5{f m e r i:Int}(aK:0<=f/\f<=100000)(ad:m<=1000)(af:0<=e/\e<=1000)(h:¬(r<0\/m<=r\/i<0\/e<=i)):IntKind.i64.wrap (IntKind.i64.wrap (f+IntKind.i64.wrap (r*e))+i)=pq f m e r i:=by
 have O:0<=r*e:=Int.mul_nonneg S S
 have V:r*e<=1000*1000:=Int.mul_le_mul S S S S
 rw[cK (x:=r*e) S,cK (x:=f+r*e) S,cK S,pq,if_neg h]
theorem PV{f m e r i:Int}(aK:0<=f/\f<=100000)(ad:m<=1000)(af:0<=e/\e<=1000)(U:∀v,v=pq f m e r i->K (J v) (Y H w0 X M)):a4 H w0 X M 92 #[J f,J m,J e,J r,J i] K Z:=by
 refine a7 aka ?_
 intro az aF
 conv=>whnf
 exact r1
theorem KK{a:c8}(a8:ig a){w:Int}(U:∀v,v=vy a w->K (J v) (Y H w0 X M)):a4 H w0 X M 88 #[.agg a.l.toArray,J w] K Z:=by
 have aT:=a8.at_ a.alive (by simp)
 have O:=a8.bt
 refine a7 aj6 ?_
 intro az aF
 conv=>whnf
 exact r1
theorem UZ{a:c8}(a8:ig a){w:Int}(U:∀v,v=Dw a w->K (J v) (Y H w0 X M)):a4 H w0 X M 89 #[.agg a.l.toArray,J w] K Z:=by
 have aT:=a8.at_ a.owner (by simp)
 have O:=a8.bt
 refine a7 aj7 ?_
 intro az aF
 conv=>whnf
 exact r1
theorem DC{a:c8}(a8:ig a){s i:Int}(U:∀v,v=Br a s i->K (J v) (Y H w0 X M)):a4 H w0 X M 354 #[.agg a.l.toArray,J s,J i] K Z:=by
 have aT:=a8.at_ a.qV (by simp)
 have O:=a8.bt
 refine a7 ajy ?_
 intro az aF
 conv=>whnf
 exact r1
theorem ac6{a:c8}(a8:ig a){s i:Int}(U:∀v,v=nP a s i->K (J v) (Y H w0 X M)):a4 H w0 X M 338 #[.agg a.l.toArray,J s,J i] K Z:=by
 have aT:=a8.at_ a.qv (by simp)
 have O:=a8.bt
 refine a7 ajk ?_
 intro az aF
 conv=>whnf
 exact r1
theorem Q8{a:c8}(a8:ig a){i:Int}(U:∀v,v=Cl a i->K (J v) (Y H w0 X M)):a4 H w0 X M 47 #[.agg a.l.toArray,J i] K Z:=by
 have aT:=a8.at_ a.cell (by simp)
 have O:=a8.cells
 refine a7 ajV ?_
 intro az aF
 conv=>whnf
 exact r1
theorem Mr{a:c8}(a8:ig a){c:Int}(U:∀v,v=rv a c->K (J v) (Y H w0 X M)):a4 H w0 X M 166 #[.agg a.l.toArray,J c] K Z:=by
 have aT:=a8.at_ a.chan (by simp)
 have O:=a8.cF
 refine a7 ahL ?_
 intro az aF
 conv=>whnf
 exact r1
theorem WW{a:c8}(a8:ig a){c:Int}(U:∀v,v=qg a c->K (J v) (Y H w0 X M)):a4 H w0 X M 167 #[.agg a.l.toArray,J c] K Z:=by
 have aT:=a8.at_ a.chan (by simp)
 have O:=a8.cF
 refine a7 ahM ?_
 intro az aF
 conv=>whnf
 exact r1
theorem arZ{a:c8}(a8:ig a){s:Int}(U:∀v,v=wx a s->K (J v) (Y H w0 X M)):a4 H w0 X M 255 #[.agg a.l.toArray,J s] K Z:=by
 have aT:=a8.at_ a.stack (by simp)
 have O:=a8.dj
 have V:=a8.h6
 refine a7 ais ?_
 intro az aF
 conv=>whnf
 exact r1
theorem FI{a:c8}(a8:ig a){n i:Int}(U:∀v,v=eL a n i->K (J v) (Y H w0 X M)):a4 H w0 X M 162 #[.agg a.l.toArray,J n,J i] K Z:=by
 have aT:=a8.at_ a.node (by simp)
 have O:=a8.nodes
 refine a7 ahH ?_
 intro az aF
 conv=>whnf
 exact r1
theorem JP{a:c8}(a8:ig a){t i:Int}(U:∀v,v=hY a t i->K (J v) (Y H w0 X M)):a4 H w0 X M 90 #[.agg a.l.toArray,J t,J i] K Z:=by
 have aT:=a8.at_ a.task (by simp)
 have O:=a8.en
 refine a7 aj8 ?_
 intro az aF
 conv=>whnf
 exact r1
theorem ap1{a:c8}(a8:ig a){s i:Int}(U:∀v,v=Wv a s i->K (J v) (Y H w0 X M)):a4 H w0 X M 306 #[.agg a.l.toArray,J s,J i] K Z:=by
 have aT:=a8.at_ a.stack (by simp)
 have O:=a8.dj
 have V:=a8.h6
 refine a7 aiQ ?_
 intro az aF
 conv=>whnf
 exact r1
theorem Dk{a:c8}(a8:ig a){m i:Int}(U:∀v,v=oA a m i->K (J v) (Y H w0 X M)):a4 H w0 X M 163 #[.agg a.l.toArray,J m,J i] K Z:=by
 have aT:=a8.at_ a.map (by simp)
 have O:=a8.maps
 have V:=a8.buckets
 refine a7 ahI ?_
 intro az aF
 conv=>whnf
 exact r1
theorem QX{a:c8}(a8:ig a){m b:Int}(U:∀v,v=Cj a m b->K (J v) (Y H w0 X M)):a4 H w0 X M 164 #[.agg a.l.toArray,J m,J b] K Z:=by
 have aT:=a8.at_ a.map (by simp)
 have O:=a8.maps
 have V:=a8.buckets
 refine a7 ahJ ?_
 intro az aF
 conv=>whnf
 exact r1
end
end Go.Proofs.YtcflcebplhdcpaaGreat
