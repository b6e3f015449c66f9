/- Lemmas, part 26; each states its own conditions. -/
import Derived.Test.YtcflcebplhdcpaaGreatL23
import Derived.Test.YtcflcebplhdcpaaGreatL24
import Derived.Test.YtcflcebplhdcpaaGreatL25
namespace Go.Proofs.YtcflcebplhdcpaaGreat
open Go.RowKit
set_option linter.unusedSimpArgs false
set_option linter.unusedVariables false
set_option maxRecDepth 100000
set_option maxHeartbeats 16000000
variable{H w0:World}{X:Nat->Prop}{M:aw}{K:Value->an->Prop}{Z:bF}
theorem asQ {P:Prop} (h:P:=by
 repeat'((first
  |(show ay _ _ _ _ _ _;first|(refine ay.anchor [] _ Nw.dg rfl (fun E w fV a2=>RO (s:=t.s) (a2.code aj) (aK E (a2.less (fun e af=> .tail _ af))) (fun aP=>hR.to (dy t bO M) rfl ?_) (fun aP e af=>hR.to (dy t bO M) rfl ?_) (fun aP bW bI bq bZ v q ad bd U af dE o0 o1 aQ bl aU=>hR.to (tR (gh t.c f bW bI bq bZ) v q (dy t bO M)) rfl ?_)))|(refine ay.aa4 (dy {t with s:=kD t.s q ⟨dE,o0,o1,aQ,bl⟩} bO []) (tR (gh t.c f bW bI bq bZ) v q M) Tq.dg (vo (l₁:=tR (gh t.c f bW bI bq bZ) v q [])) (fun Ea asH auO Mc=>Xa (t:={t with s:=kD t.s q ⟨dE,o0,o1,aQ,bl⟩}) bs (f:=tk (gh t.c f bW bI bq bZ) v) (Mc.fs dM) aT (fun b n aB=>hR.to (dy {t with s:=kD t.s q ⟨dE,o0,o1,aQ,bl⟩,bS:=some ⟨b,0,none⟩,aX:=n,bb:=n} bO ((.slice (some ⟨b,0,none⟩) n n,.row 108 10 ((kh fs task (tk (gh t.c f bW bI bq bZ) v)).flatMap a3.l))::tR (gh t.c f bW bI bq bZ) v q M)) rfl ?_))))
  |(refine ia.drop (Z:=Z) (dy t bO M) cn (O 1 (.inl ⟨by assumption,rfl⟩)))
  |(refine ia.drop (Z:=Z) (dy t bO M) cn (O _ (.inr ⟨by assumption,by assumption⟩)))
  |(refine ba.sM (fun ab=>?_) (fun ab=>absurd ab (N4 af)))
  |(exact cd.drop (K:=K) _ (List.Sublist.refl _) (V _ q dE o0 o1 aQ bl b n ((.slice (some ⟨b,0,none⟩) n n,.row 108 10 ((kh fs task (tk (gh t.c f bW bI bq bZ) v)).flatMap a3.l))::tR (gh t.c f bW bI bq bZ) v q []) (aep (aK E (a2.less (fun e af=> .tail _ af))) dM ad bd aP U af aB aT) aU))
  |refine eg ?_
  |(refine eh ?_ ?_<;>(try with_reducible intro ab)<;>(try(exfalso;omega)))
  |with_reducible intro r)<;>(try conv=>whnf))):P:=h
def ui.dB(n:Nat):ui->Prop
 | .go f=>f.aO.length<=100/\f.loc.length=n
 | .ask f q=>(f.aO.length<=100/\f.loc.length=n)/\q.got.length<=100
 | .err _=>True
theorem Jx{c:Prop}[Decidable c]{a b:ui}{n:Nat}(O:c->a.dB n)(V:¬c->b.dB n):(if c then a else b).dB n:=by
 split
 ·rename_i h;exact O h
 ·rename_i h;exact V h
theorem ahm{k:hg}{cW:Int->Int}{f:bR}{i:fe}(h:f.aO.length<=100):(gD k cW f i).dB f.loc.length:=by
 unfold gD ij bR.two
 repeat'(first|exact trivial|(refine Jx (fun aj=>?_) (fun aj=>?_)))
 all_goals(simp only[ui.dB,bR.ej,bR.pop,gC,r9,oM,pz,nJ,yh,and_true]<;>omega)
theorem V4{k:hg}{cW:Int->Int}{b:nj}:∀(n:Nat) (f:bR) {c6:bR} {q:z9},f.aO.length<=100->nb k cW b n f= .ok c6 q->(c6.aO.length<=100/\c6.loc.length=f.loc.length)/\q.got.length<=100
 |0,f,c6,q,_,h=>by simp only[nb] at h;cases h
 |n+1,f,c6,q,ar,h=>by
  have gg:(qd k cW b f).dB f.loc.length:=by
   unfold qd
   refine Jx (fun _=>trivial) (fun _=>Jx (fun _=>trivial) (fun _=>Jx (fun _=>trivial) (fun _=>ahm ar)))
  simp only[nb] at h
  split at h
  ·rename_i f1 O
   rw[O] at gg
   have:=V4 n f1 gg.1 h
   rw[gg.2] at this
   exact this
  ·rename_i f1 m8 O
   rw[O] at gg
   injection h with V aa
   subst V aa
   exact gg
  ·cases h
theorem I3{c:cr}{f:a3}{c6:bR}{q:z9}(ar:f.aO.length<=100)(h:jh c f= .ok c6 q):(c6.aO.length<=100/\c6.loc.length=f.loc.length)/\q.got.length<=100:=V4 _ _ ar h
def tk(k:hg)(v:mS):a3:=⟨k.task,k.bW,k.np,k.bI,k.path,k.fn,v.aA,v.bK,v.aM,v.bD,v.loc,v.b4,v.ns,v.cs,v.aO,k.bq,k.a5,k.bZ,k.kids,k.many,v.aH,v.fail⟩
theorem at4(w:World):i1 w r2:=⟨⟨.inl rfl,rfl,Nat.le_refl _,by decide⟩,⟨.inl rfl,rfl,Nat.le_refl _,by decide⟩,⟨.inl rfl,rfl,Nat.le_refl _,by decide⟩,⟨.inl rfl,rfl,Nat.le_refl _,by decide⟩⟩
theorem anP(fs:List a3)(task:Nat)(f:a3):(kh fs task f).length=max fs.length task:=by
 simp only[kh,nJ,gC,List.length_replicate];omega
theorem Vl{w:World}{fs:List a3}{task:Nat}{g:a3}(aT:∀i (h:i<fs.length),i+1≠task->i1 w fs[i])(bs:1<=task)(aZ:i1 w g):∀f∈kh fs task g,i1 w f:=fun f aK=>by
 obtain⟨i,hi,rfl⟩:=List.mem_iff_getElem.1 aK
 simp only[kh,List.getElem_set]
 split
 ·exact aZ
 ·rename_i kr
  rw[List.getElem_append]
  split
  ·rename_i h;exact aT i h S
  ·rw[List.getElem_replicate];exact at4 w
section
theorem ay.aa4{P:Program}{f:FuncId}{args:Array Value}(k9 iU:aw){M:aw}(af:oa P f)(b9:List.Perm M (k9++iU))(h:∀E w fV,dc H iU E->ay P (Y E w fV k9) f args (hR H w0 X E w fV iU K) (z8 H w0 X E w fV iU Z)):ay P (Y H w0 X M) f args K Z:=
 ay.imp (aJ.perm b9) (ay.anchor k9 iU af rfl h)
theorem hR.to{E w:World}{fV:Nat->Prop}{iU:aw}{v:Value}{aE:aw}(eX:aw)(b9:aE++iU=eX)(h:K v (Y H w0 X eX)):hR H w0 X E w fV iU K v (Y E w fV aE):=by subst b9;exact hR.go h
theorem z8.to{E w:World}{fV:Nat->Prop}{iU:aw}{ch:List PanicEntry}{aE:aw}(eX:aw)(b9:aE++iU=eX)(h:Z ch (Y H w0 X eX)):z8 H w0 X E w fV iU Z ch (Y E w fV aE):=by subst b9;exact z8.go h
theorem dc.fs{E:World}(h:dc H M E){A:Option Addr}{n c:Nat}{fs:List a3}(aK:gM H A n c fs):gM E A n c fs:=⟨h.rd aK.rd,aK.len,aK.cap,aK.dB,fun f ad=>h.jR (aK.each f ad)⟩
variable{t:l8}{bO:Nat}{fs:List a3}{task:Nat}
structure r7(z3:aw)(fs:List a3)(task:Nat)(c:cr)(f g:a3)(q:l5)(b n:Nat):Prop where
 ej:jh c f= .ok ⟨g.aA,g.aH,g.fail,g.loc,g.aO⟩ (gL q)
 W3:g.task=f.task
 path:g.path=f.path
 fn:g.fn=f.fn
 kids:g.kids=f.kids
 many:g.many=f.many
 right:iB c f=true
 kind:q.kind≠0
 ok:∀iD E,dc iD z3 E->i1 E g/\fG E q.ed q.ev q.bp q.got/\((∀i (h:i<fs.length),i+1≠task->i1 E fs[i])->gM E (some ⟨b,0,none⟩) n n (kh fs task g))
 i7:n=max fs.length task
 lens:g.np=f.np/\g.a5=f.a5/\g.aM=g.loc.length/\g.ns=g.aO.length/\q.ev=q.got.length
theorem Xa{task:Nat}{c2:Int}(MX:c2=(task:Int)){f:a3}{fs:List a3}(aK:gM H t.bS t.aX t.bb fs)(aT:1<=task/\task<=1000)(U:∀b n,n=(if t.aX>task then t.aX else task)->K (.tuple #[]) (Y H w0 X (dy {t with bS:=some ⟨b,0,none⟩,aX:=n,bb:=n} bO ((.slice (some ⟨b,0,none⟩) n n,.row 108 10 ((kh fs task f).flatMap a3.l))::M)))):
  ay Tryz.prog (Y H w0 X (dy t bO M)) 223 #[ae bO,J c2,.agg f.l.toArray] K Z:=by
 subst MX
 exact ar2 aK aT U
theorem aep{Kk:World}{c:cr}{f:a3}{A:Option Addr}{aX bb:Nat}{bW:Option Addr}{bI:Nat}{bq:Option Addr}{bZ:Nat}{v:mS}{q:l5}{b n:Nat}(ry:i1 Kk f)(dM:gM H A aX bb fs)(ad:eO (gh c f bW bI bq bZ) v)(bd:ys q)(aP:iB c f=true)(U:q.kind≠0)(af:jh c f= .ok (ez v) (gL q))(aB:n=(if aX>task then aX else task))(aT:1<=task/\task<=1000):
  r7 ((.slice (some ⟨b,0,none⟩) n n,.row 108 10 ((kh fs task (tk (gh c f bW bI bq bZ) v)).flatMap a3.l))::tR (gh c f bW bI bq bZ) v q []) fs task c f (tk (gh c f bW bI bq bZ) v) q b n:=by
 refine⟨af,rfl,rfl,rfl,rfl,rfl,aP,U,fun iD E a2=>?_,by have:=dM.len;rw[aB];split<;>omega,⟨rfl,rfl,ad.aM,ad.ns,bd.len⟩⟩
 have c3:=Jm aP
 have gx:=I3 (by have:=ry.aO.len;have:=c3.ns;omega) af
 have O:v.loc.length=f.loc.length:=gx.1.2
 have V:q.got.length<=100:=gx.2
 have aa:=ry.loc.len
 have ag:=ry.loc.dB
 have aZ:i1 E (tk (gh c f bW bI bq bZ) v):=by
  refine⟨a2.kg (t:=3) ?_ ry.path.dB,a2.kg (t:=3) ?_ (show v.aM<=_ by have:=ad.aM;omega),a2.kg (t:=3) ?_ (show v.ns<=_ by have:=ad.dB;omega),a2.Oi (t:=252) ?_ ry.kids.dB⟩
  all_goals exact b7
 refine⟨aZ,a2.kg (t:=3) b7 (by have:=bd.len;omega),?_⟩
 obtain⟨a6,bU,dh,cT⟩:=a2.row _ _ _ 108 10 ((kh fs task (tk (gh c f bW bI bq bZ) v)).flatMap a3.l) (List.Mem.head _)
 rw[tj a3.l 10 a3.xB] at bU
 exact fun CI=>⟨a6,by omega,Nat.le_refl _,by have:=dM.dB;subst aB;split<;>omega,Vl CI aT.1 aZ⟩
theorem Xb {f:a3} (aj:hP H t.c) (dM:gM H t.bS t.aX t.bb fs) (aK:∀E,dc H M E->i1 E f) (bs:t.s.task=(task:Int)) (aT:1<=task/\task<=1000)
  (O:∀e,(iB t.c f=false/\e=1\/iB t.c f=true/\jh t.c f= .err e)->Z (lQ e 0) (Y H w0 X (dy t bO M)))
  (V:∀g q dE o0 o1 aQ bl b n aE,r7 aE fs task t.c f g q b n->kC t.s q f.task=⟨dE,o0,o1,aQ,bl⟩->K (.tuple #[]) (Y H w0 X (dy {t with s:=kD t.s q ⟨dE,o0,o1,aQ,bl⟩,bS:=some ⟨b,0,none⟩,aX:=n,bb:=n} bO (aE++M)))):
  ay Tryz.prog (Y H w0 X (dy t bO M)) 224 #[ae bO,.agg f.l.toArray] K Z:=by
 refine a7 Tr ?_
 intro az aF
 conv=>whnf
 exact asQ
end
theorem asR {P:Prop} (h:P:=by
 repeat'((first
  |(show ay _ _ _ _ _ _;first|(refine ay.anchor [] _ Tv.dg rfl (fun E w fV a2=>arW (f:=f) (k:=t.s.hN) (b:=t.s.gZ) (aK E (a2.less (fun e af=> .tail _ af))) (ah E (a2.less (fun e af=> .tail _ af))) (fun aB=>hR.to (dy t bO M) rfl ?_) (fun fb t1 t2 zH Pm u5 u6 Pn=>hR.to (qW fb (dy t bO M)) rfl ?_)))|(refine ay.fact Tr.dg (fun w au=>dJ.akI au) (fun Po=>ay.imp (aJ.perm (vo (l₁:=qW fb []))) (Xb (t:=t) (M:=qW fb M) (fs:=fs) aj dM (fun E a2=>ao4 a2 (aK E (a2.less (fun e af=> .tail _ (.tail _ (.tail _ (.tail _ af)))))) ⟨t1,t2,zH,Pm,u5,u6,Pn,Po⟩ rA) bs aT (fun e af=>?_) (fun g q dE o0 o1 aQ bl b n aE e6 aU=>?_)))))
  |(refine ia.drop (Z:=Z) (dy t bO M) cn (O 1 (.inl ⟨by assumption,rfl⟩)))
  |(refine ia.drop (Z:=Z) (dy t bO M) cn (O _ (.inr ⟨_,⟨t1,t2,zH,Pm,u5,u6,Pn,Po⟩,by assumption⟩)))
  |(refine ba.sM (fun ab=>absurd ab bC) (fun ab=>?_))
  |(refine ba.sM (fun ab=>?_) (fun ab=>absurd ab bC))
  |(refine cd.drop (K:=K) (dy {t with s:=kD t.s q ⟨dE,o0,o1,aQ,bl⟩,bS:=some ⟨b,0,none⟩,aX:=n,bb:=n} bO (aE++M)) (s5 _ (List.Sublist.append (List.Sublist.refl _) (od (qW fb []) M))) (V fb g q dE o0 o1 aQ bl b n aE ⟨t1,t2,zH,Pm,u5,u6,Pn,Po⟩ e6 aU))
  |refine eg ?_
  |(refine eh ?_ ?_<;>(try with_reducible intro ab)<;>(try(exfalso;omega)))
  |with_reducible intro r)<;>(try conv=>whnf))):P:=h
structure s7(f:a3)(k b:Int)(vs:List Int)(g:a3):Prop where
 eq:mM f k b vs=some ⟨g.aO,g.loc,g.kids,g.many⟩
 task:g.task=f.task
 path:g.path=f.path
 fn:g.fn=f.fn
 aA:g.aA=f.aA
 aH:g.aH=f.aH
 fail:g.fail=f.fail
 lens:g.np=g.path.length/\g.aM=g.loc.length/\g.ns=g.aO.length/\g.a5=g.kids.length
theorem apM(loc:List Int)(cL:List jq)(vs:List Int):(tT loc cL vs).length=loc.length:=Wn cL vs loc
theorem W7{f:a3}{k b:Int}{vs:List Int}{r:KE}(h:mM f k b vs=some r):r.aO.length<=f.aO.length+1/\r.loc.length=f.loc.length/\r.kids.length<=f.kids.length+1:=by
 unfold mM at h
 repeat' split at h
 all_goals first|(cases h;done)|skip
 all_goals(injection h with h;subst h;rename_i O;refine⟨?_,?_,?_⟩<;>simp[apM]<;>omega)
section
theorem dc.NH{E:World}(h:dc H M E){A:Option Addr}{n c:Nat}{t:TypeId}{xs:List Int}(ad:(Value.slice A n c,aY.row t 1 (is xs))∈M):n=xs.length:=by
 obtain⟨_,V,_⟩:=h.row _ _ _ _ _ _ ad
 simpa using V.symm
theorem dc.akH{E:World}(h:dc H M E){A:Option Addr}{n c:Nat}{t:TypeId}{xs:List jq}(ad:(Value.slice A n c,aY.row t 2 (ks xs))∈M):n=xs.length:=by
 obtain⟨_,V,_⟩:=h.row _ _ _ _ _ _ ad
 rw[Fw] at V;omega
theorem ay.fact{P:Program}{f:FuncId}{args:Array Value}{Yj:Prop}(af:oa P f)(h:∀w,dJ H w0 X M w->Yj)(U:Yj->ay P (Y H w0 X M) f args K Z):ay P (Y H w0 X M) f args K Z:=by
 constructor
 exact⟨af,fun w au=>(U (h w au)).out.2 w au⟩
theorem dJ.IN{w:World}(au:dJ H w0 X M w){A:Option Addr}{n c:Nat}{t:TypeId}{sz:Nat}{l:List Value}(ad:(Value.slice A n c,aY.row t sz l)∈M):l.length=n*sz:=by
 obtain⟨aR,dT,fD,e,ai,_⟩:=au.new _ ad
 injection e with e1 e2 cR
 subst e1 e2 cR
 exact ai
theorem dJ.akI{w:World}{g:a3}(au:dJ H w0 X (qW g M) w):g.np=g.path.length/\g.aM=g.loc.length/\g.ns=g.aO.length/\g.a5=g.kids.length:=by
 have O:=au.IN (A:=g.bW) (n:=g.np) (c:=g.bI) (t:=3) (sz:=1) (l:=is g.path) b7
 have V:=au.IN (A:=g.bK) (n:=g.aM) (c:=g.bD) (t:=3) (sz:=1) (l:=is g.loc) b7
 have aa:=au.IN (A:=g.b4) (n:=g.ns) (c:=g.cs) (t:=3) (sz:=1) (l:=is g.aO) b7
 have ag:=au.IN (A:=g.bq) (n:=g.a5) (c:=g.bZ) (t:=252) (sz:=2) (l:=ks g.kids) b7
 rw[Fw] at ag
 simp at O V aa
 omega
theorem ao4{E:World}{f g:a3}{k b:Int}{vs:List Int}(a2:dc H (qW g M) E)(aK:i1 E f)(bs:s7 f k b vs g)(rA:f.a5<=999999/\f.ns<=999999):i1 E g:=by
 obtain⟨O,V,aa⟩:=W7 bs.eq
 simp only at O V aa
 have gb:=aK.path.len
 have dd:=aK.loc.len
 have dN:=aK.aO.len
 have dA:=aK.kids.len
 have s1:=aK.path.dB
 have aV:=aK.loc.dB
 have hk:(Value.slice g.bW g.np g.bI,aY.row 3 1 (is g.path))∈qW g M:=b7
 have iR:(Value.slice g.bK g.aM g.bD,aY.row 3 1 (is g.loc))∈qW g M:=b7
 have o9:(Value.slice g.b4 g.ns g.cs,aY.row 3 1 (is g.aO))∈qW g M:=b7
 have pa:(Value.slice g.bq g.a5 g.bZ,aY.row 252 2 (ks g.kids))∈qW g M:=b7
 have dI:=a2.NH hk
 have cN:=a2.NH iR
 have jg:=a2.NH o9
 have N0:=a2.akH pa
 rw[bs.path] at dI
 exact⟨a2.kg hk S,a2.kg iR S,a2.kg o9 S,a2.Oi pa S⟩
def x8(c:cr)(f:a3)(k b:Int)(vs:List Int)(e:Int):Prop:=(mM f k b vs=none/\e=1)\/∃g,s7 f k b vs g/\(iB c g=false/\e=1\/iB c g=true/\jh c g= .err e)
variable{t:l8}{bO:Nat}{fs:List a3}{task:Nat}
theorem BA {f:a3} {hZ:Option Addr} {cJ h4:Nat} {vs:List Int} (aj:hP H t.c) (dM:gM H t.bS t.aX t.bb fs) (aK:∀E,dc H M E->i1 E f) (ah:∀E,dc H M E->fG E hZ cJ h4 vs) (rA:f.a5<=999999/\f.ns<=999999) (bs:t.s.task=(task:Int)) (aT:1<=task/\task<=1000)
  (O:∀e,x8 t.c f t.s.hN t.s.gZ vs e->Z (lQ e 0) (Y H w0 X (dy t bO M)))
  (V:∀fb g q dE o0 o1 aQ bl b n aE,s7 f t.s.hN t.s.gZ vs fb->r7 aE fs task t.c fb g q b n->kC t.s q fb.task=⟨dE,o0,o1,aQ,bl⟩->K (.tuple #[]) (Y H w0 X (dy {t with s:=kD t.s q ⟨dE,o0,o1,aQ,bl⟩,bS:=some ⟨b,0,none⟩,aX:=n,bb:=n} bO (aE++M)))):
  ay Tryz.prog (Y H w0 X (dy t bO M)) 220 #[ae bO,.agg f.l.toArray,.slice hZ cJ h4] K Z:=by
 refine a7 aih ?_
 intro az aF
 conv=>whnf
 exact asR
end
theorem Xt {P:Prop} (h:P:=by
 repeat'((first
  |(show ay _ _ _ _ _ _;first|(refine JT (t:=⟨c,la,s,bS,aX,bb,a1,dP,⟨val,true,err,c0,ho,ew,h3⟩,s.aQ⟩) (M:=M) aB (fun ei o0 o1 aQ bl a8 aU=>?_))|(refine Pw (t:=⟨c,la,{s with task:=val},bS,aX,bb,a1,dP,⟨val,true,err,c0,ho,ew,h3⟩,bN⟩) (M:=M) ?_)|(refine u9 dM (fun j a9 xp=>?_) (fun sD=>?_);(conv=>whnf);obtain rfl:j=i:=by omega)|(refine BA (t:=t) (M:=M) (fs:=fs) (task:=j+1) (f:=fs[j]) (hZ:=none) (cJ:=0) (h4:=0) (vs:=[]) aj dM (fun E a2=>a2.jR (dM.each _ (fM a9))) (fun E a2=>⟨.inl rfl,rfl,Nat.le_refl _,by decide⟩) rA bs S (fun e af=>?_) (fun fb g q dE o0 o1 aQ bl b n aE bX e6 kn=>?_)))
  |(exact ia.drop (Z:=Z) (dy t bO M) cn (O _ af))
  |(exact cd.drop (K:=K) _ (List.Sublist.refl _) (V fb g q dE o0 o1 aQ bl b n aE bX e6 kn))
  |(exfalso;omega)
  |(exact ia.drop (Z:=Z) _ cn O)
  |(exact cd.drop (K:=K) _ (List.Sublist.refl _) (V rfl S ei o0 o1 aQ bl a8 aU))
  |(exact cd.drop (K:=K) _ (List.Sublist.refl _) (aa rfl S))
  |refine eg ?_
  |(refine eh ?_ ?_<;>(try with_reducible intro ab)<;>(try(exfalso;omega)))
  |with_reducible intro r)<;>(try conv=>whnf))):P:=h
def Gd(n at_:Int):Int:=if cB (cB (2*n)-2)<=at_ then 0 else cB (at_+1)
section
variable{t:l8}{bO:Nat}{fs:List a3}{task:Nat}
theorem asa (aB:1<=t.la.bt/\t.la.bt<=8)
  (O:t.u.eG=false->∀ei o0 o1 aQ bl,ei=rl t.la.bt (Gd t.la.bt t.s.at_)->qY t.la.bt t.a1 t.dP ei=⟨o0,o1,aQ,bl⟩->K (.tuple #[]) (Y H w0 X (dy {t with s:=xS t.s ei ⟨o0,o1,aQ,bl⟩} bO M)))
  (V:t.u.eG=true->t.s.o0=16->∀ei o0 o1 aQ bl,ei=rl t.la.bt 0->qY t.la.bt t.a1 t.dP ei=⟨o0,o1,aQ,bl⟩->K (.tuple #[]) (Y H w0 X (dy {t with s:=xS t.s ei ⟨o0,o1,aQ,bl⟩,bN:=t.s.aQ} bO M)))
  (aa:t.u.eG=true->t.s.o0≠16->K (.tuple #[]) (Y H w0 X (dy {t with s:=rm {t.s with task:=t.u.val} 3 0 ⟨12,0,t.u.val,0⟩} bO M))):
  ay Tryz.prog (Y H w0 X (dy t bO M)) 145 #[ae bO] K Z:=by
 obtain⟨c,la,s,bS,aX,bb,a1,dP,⟨val,eG,err,c0,ho,ew,h3⟩,bN⟩:=t
 dsimp only at aB O V aa
 refine a7 ahF ?_
 intro az aF
 conv=>whnf
 cases eG
 ·skip
  repeat'((first
   |(show ay _ _ _ _ _ _;first|(refine JT (t:=⟨c,la,s,bS,aX,bb,a1,dP,⟨val,false,err,c0,ho,ew,h3⟩,bN⟩) (M:=M) aB (fun ei o0 o1 aQ bl a8 aU=>?_)))
   |refine Ez ?_
   |(refine oQ ?_ ?_<;>(try with_reducible intro ab)<;>(try(exfalso;omega)))
   |with_reducible intro r)<;>(try conv=>whnf))
  all_goals(dsimp only at ab a8 aU;exact cd.drop (K:=K) _ (List.Sublist.refl _) (O rfl ei o0 o1 aQ bl (by rw[a8];simp only[Gd,cB];first|exact congrArg _ (if_pos S).symm|exact congrArg _ (if_neg S).symm) aU))
 ·skip
  exact Xt
theorem arw(hi:t.u.eG=true)(O:Z (lQ 0 t.s.bl) (Y H w0 X (dy t bO M))):
  ay Tryz.prog (Y H w0 X (dy t bO M)) 150 #[ae bO] K Z:=by
 obtain⟨c,la,s,bS,aX,bb,a1,dP,⟨val,eG,err,c0,ho,ew,h3⟩,bN⟩:=t
 simp only at hi
 subst hi
 refine a7 Tn ?_
 intro az aF
 conv=>whnf
 exact Xt
end
theorem asS {P:Prop} (h:P:=by
 repeat'((first
  |(show ay _ _ _ _ _ _;first|(refine u9 dM (fun j a9 xp=>?_) (fun sD=>?_);(have iq:j=i:=by omega);subst iq)|(refine yG bd (fun auf au3 av0 avL=>?_))|(refine ay.imp ((aJ.sub cn).trans (aJ.perm (kO _ _ _))) (BA (t:={t with s:={t.s with gA:=lY,eM:=t.s.eM+1,gJ:=mb}}) (M:=(.slice lY (t.s.eM+1) mb,.row 3 1 (is (got++[t.u.val])))::M) (fs:=fs) (task:=j+1) (f:=fs[j]) (vs:=got++[t.u.val]) aj dM (fun E a2=>a2.jR Sj) (fun E a2=>a2.kg (List.Mem.head _) S) ⟨by omega,by omega⟩ bs S (fun e af=>?_) (fun fb g q dE o0 o1 aQ bl b n aE bX e6 kn=>?_)))|(refine ay.imp ((aJ.sub cn).trans (aJ.perm (kO _ _ _))) (JQ (t:={t with s:={t.s with gA:=lY,eM:=t.s.eM+1,gJ:=mb}}) (M:=(.slice lY (t.s.eM+1) mb,.row 3 1 (is (got++[t.u.val])))::M) (f:=fs[j]) vS S (fun AZ o5 Mz=>?_) (fun sD=>?_))))
  |(show bk _ _ _ _;first|(refine hb gK W ?_;(conv=>whnf);refine⟨by rfl,fun a0=>?_⟩)|(refine Cg [t.u.val] (fy.own (l:=[J t.u.val]) gK b7 (by intro u aS;rw[nK] at aS;subst aS;rfl) 1) rfl mw S ?_;intro lY mb Sc R2))
  |(exfalso;omega)
  |(exact cd.drop (K:=K) (dy {t with s:=kD t.s q ⟨dE,o0,o1,aQ,bl⟩,bS:=some ⟨b,0,none⟩,aX:=n,bb:=n} bO (aE++M)) (.cons_cons _ (List.Sublist.append (.refl _) (.cons _ (.refl _)))) (V S fb g q dE o0 o1 aQ bl b n aE bX e6 kn))
  |(exact ia.drop (Z:=Z) (dy {t with s:={t.s with gA:=lY,eM:=t.s.eM+1,gJ:=mb}} bO M) (.cons_cons _ (.cons _ (.refl _))) (O S e lY mb af))
  |(exact cd.drop (K:=K) (dy {t with s:=rm {t.s with gA:=lY,eM:=t.s.eM+1,gJ:=mb} 4 (cB (t.s.at_+1)) ⟨15,0,fs[j].kids[AZ].task,0⟩} bO ((.slice lY (t.s.eM+1) mb,.row 3 1 (is (got++[t.u.val])))::M)) (List.Sublist.refl _) (aa AZ o5 S lY mb))
  |(exact ia.drop (Z:=Z) (dy {t with s:={t.s with gA:=lY,eM:=t.s.eM+1,gJ:=mb}} bO M) (.cons_cons _ (.cons _ (.refl _))) (ag S lY mb))
  |refine eg ?_
  |(refine eh ?_ ?_<;>(try with_reducible intro ab)<;>(try(exfalso;omega)))
  |with_reducible intro r)<;>(try conv=>whnf))):P:=h
theorem Rn(w:World):hB w []=w:=by
 have:w.heap.mapIdx (fun i o=>if i∈([]:List Nat) then HC else o)=w.heap:=by
  apply Array.ext
  ·simp
  ·intro i O V;simp
 simp only[hB,this]
section
theorem dJ.mn{w:World}(au:dJ H w0 X M w):dc H M w:=by
 have h:dJ H w0 X ([]++M) w:=au
 have V:=h.u2
 rw[show xA ([]:aw)=[] from rfl,Rn] at V
 exact V
variable{t:l8}{bO:Nat}{fs:List a3}
theorem ba.Ni{b:Bool}{A B:Prop}(h:b=false)(V:B):ba b A B:=by subst h;exact V
theorem ba.Te{b:Bool}{A B:Prop}(h:b=true)(V:A):ba b A B:=by subst h;exact V
theorem ase {i:Nat} (hi:i<fs.length) (dM:gM H t.bS t.aX t.bb fs) (bs:t.s.task=((i+1:Nat):Int)) (aT:i<1000) (kE:t.s.at_=0) (CU:t.u.eG=true) (kr:t.s.eM<fs[i].kids.length)
  (O:K (.tuple #[]) (Y H w0 X (dy {t with s:=rm t.s 4 1 ⟨15,0,(fs[i].kids[t.s.eM]'kr).task,0⟩} bO M))):
  ay Tryz.prog (Y H w0 X (dy t bO M)) 149 #[ae bO] K Z:=by
 have vS:=(dM.each _ (fM hi)).kids
 have sA:=vS.len
 have sB:=vS.dB
 have ai:=dM.len
 refine a7 Ft ?_
 intro az aF
 conv=>whnf
 repeat'(first
  |(show ay _ _ _ _ _ _;first|(refine u9 dM (fun j a9 xp=>?_) (fun sD=>?_);(have iq:j=i:=by omega);subst iq;conv=>whnf)|(refine JQ (t:=t) (M:=M) (f:=fs[j]) vS S (fun AZ o5 Mz=>?_) (fun sD=>?_);(have afJ:AZ=t.s.eM:=by omega);subst afJ;conv=>whnf))
  |(show ff _ _ _ _ _;first|(refine Oc W aD W ?_;conv=>whnf))
  |(show eS _ _;first|(refine eS.go ?_;conv=>whnf))
  |(show _/\_;first|(refine And.intro ?_ ?_<;>conv=>whnf))
  |(show bk _ _ _ _;first|(refine fv b7 aD W W ?_;conv=>whnf)|(refine ke b7 aD W ?_;conv=>whnf))
  |(show eB _ _ _ _;first|(refine tV aD mw ?_;conv=>whnf))
  |((exfalso;omega))
  |(refine ba.Ni ?_ ?_;(focus(simp only[CU,BP];done));conv=>whnf)
  |(refine ba.Te ?_ ?_;(focus(simp only[CU];done));conv=>whnf)
  |(refine Od W W ?_;conv=>whnf)
  |(refine hy.go ?_;conv=>whnf)
  |(refine pE.go ?_;conv=>whnf)
  |(refine ba.dec (fun ab=>?_) (fun ab=>?_)<;>first|(exfalso;omega)|(conv=>whnf))
  |(refine ba.v7 (fun ab=>?_) (fun ab=>?_)<;>first|(exfalso;omega)|(conv=>whnf))
  |(refine ba.sk (fun ab=>?_) (fun ab=>?_)<;>first|(exfalso;omega)|(conv=>whnf))
  |(refine ba.sM (fun ab=>?_) (fun ab=>?_)<;>first|(exfalso;omega)|(conv=>whnf))
  |(intro r jN;conv=>whnf))
 all_goals first|exact cd.drop (K:=K) _ (List.Sublist.refl _) (by rw[kE] at*;exact O)|skip
theorem asf {i:Nat} (hi:i<fs.length) (aj:hP H t.c) (dM:gM H t.bS t.aX t.bb fs) (rA:fs[i].a5<=99999/\fs[i].ns<=999999) (bs:t.s.task=((i+1:Nat):Int)) (aT:i<1000) (kE:0<t.s.at_) {got:List Int} (bd:fG H t.s.gA t.s.eM t.s.gJ got) (Ii:got.length<=100000)
  (O:got.length+1=fs[i].kids.length->∀e aR aN,x8 t.c fs[i] t.s.hN t.s.gZ (got++[t.u.val]) e->Z (lQ e 0) (Y H w0 X (dy {t with s:={t.s with gA:=aR,eM:=t.s.eM+1,gJ:=aN}} bO M)))
  (V:got.length+1=fs[i].kids.length->∀fb g q dE o0 o1 aQ bl b n aE,s7 fs[i] t.s.hN t.s.gZ (got++[t.u.val]) fb->r7 aE fs (i+1) t.c fb g q b n->kC t.s q fb.task=⟨dE,o0,o1,aQ,bl⟩->K (.tuple #[]) (Y H w0 X (dy {t with s:=kD t.s q ⟨dE,o0,o1,aQ,bl⟩,bS:=some ⟨b,0,none⟩,aX:=n,bb:=n} bO (aE++M))))
  (aa:∀j (h:j<fs[i].kids.length),got.length+1=j->∀aR aN,K (.tuple #[]) (Y H w0 X (dy {t with s:=rm {t.s with gA:=aR,eM:=t.s.eM+1,gJ:=aN} 4 (cB (t.s.at_+1)) ⟨15,0,fs[i].kids[j].task,0⟩} bO ((.slice aR (t.s.eM+1) aN,.row 3 1 (is (got++[t.u.val])))::M))))
  (ag:fs[i].kids.length<got.length+1->∀aR aN,Z (lQ 1 0) (Y H w0 X (dy {t with s:={t.s with gA:=aR,eM:=t.s.eM+1,gJ:=aN}} bO M))):
  ay Tryz.prog (Y H w0 X (dy t bO M)) 149 #[ae bO] K Z:=by
 have Sj:=dM.each _ (fM hi)
 have vS:=Sj.kids
 have sA:=vS.len
 have sB:=vS.dB
 have ai:=dM.len
 have fj:=bd.len
 refine a7 Ft ?_
 intro az aF
 conv=>whnf
 exact asS
end
structure Yz(z3:aw)(c:cr)(f g:a3)(q:l5):Prop where
 ej:jh c f= .ok ⟨g.aA,g.aH,g.fail,g.loc,g.aO⟩ (gL q)
 W3:g.task=f.task
 path:g.path=f.path
 fn:g.fn=f.fn
 kids:g.kids=f.kids
 many:g.many=f.many
 right:iB c f=true
 kind:q.kind≠0
 ok:∀iD E,dc iD z3 E->i1 E g/\fG E q.ed q.ev q.bp q.got
section
theorem aeo{c:cr}{f:a3}{bW:Option Addr}{bI:Nat}{bq:Option Addr}{bZ:Nat}{v:mS}{q:l5}(ry:i1 H f)(ad:eO (gh c f bW bI bq bZ) v)(bd:ys q)(aP:iB c f=true)(U:q.kind≠0)(af:jh c f= .ok (ez v) (gL q)):
  Yz (tR (gh c f bW bI bq bZ) v q []) c f (tk (gh c f bW bI bq bZ) v) q:=by
 refine⟨af,rfl,rfl,rfl,rfl,rfl,aP,U,fun iD E a2=>?_⟩
 have c3:=Jm aP
 have gx:=I3 (by have:=ry.aO.len;have:=c3.ns;omega) af
 have O:v.loc.length=f.loc.length:=gx.1.2
 have V:q.got.length<=100:=gx.2
 have aa:=ry.loc.len
 have ag:=ry.loc.dB
 have aZ:i1 E (tk (gh c f bW bI bq bZ) v):=by
  refine⟨a2.kg (t:=3) ?_ ry.path.dB,a2.kg (t:=3) ?_ (show v.aM<=_ by have:=ad.aM;omega),a2.kg (t:=3) ?_ (show v.ns<=_ by have:=ad.dB;omega),a2.Oi (t:=252) ?_ ry.kids.dB⟩
  all_goals exact b7
 exact⟨aZ,a2.kg (t:=3) b7 (by have:=bd.len;omega)⟩
end
end Go.Proofs.YtcflcebplhdcpaaGreat
