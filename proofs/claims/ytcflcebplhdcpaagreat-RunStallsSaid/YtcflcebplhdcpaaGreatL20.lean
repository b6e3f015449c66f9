/- Lemmas, part 20; each states its own conditions. -/
import Derived.Test.YtcflcebplhdcpaaGreatL13
namespace Go.Proofs.YtcflcebplhdcpaaGreat
open Go.RowKit
set_option linter.unusedSimpArgs false
set_option linter.unusedVariables false
set_option maxRecDepth 100000
set_option maxHeartbeats 16000000
theorem J2 {P:Prop} (h:P:=by
 repeat'((first
  |(show bk _ _ _ _;first|(refine Cg [_] (fy.own gK b7 (Ce W) _) W mw (by have:=ad.dB;omega) ?_;intro aR aN jd fE)|(refine hb gK W ?_;(conv=>whnf);refine⟨by rfl,fun a0=>?_⟩)|(refine QQ (v.aO.drop (v.ns-many)) (aqm b7 ad.b4 ad.ns ad.cs (v.ns-many) many _ S) rfl (by have:=ad.dB;omega) ?_;intro aR aN jd fE))
  |(show kN _ _ _ _ _ _ _;first|(refine Le (v.ns-many) many (cK (by have:=ad.dB;omega)|>.trans S) S ?_)|(refine Ld (v.ns-many) (cK (by have:=ad.dB;omega)|>.trans S) (by have:=ad.cs;omega) ?_))
  |(refine cd.drop (K:=K) (x::(cb k {v with b4:=_,ns:=v.ns+1,cs:=_,aO:=v.aO++[n]} bJ bm M)) cn ?_;exact O S _ _ av av)
  |(refine ia.drop (Z:=Z) (x::cb k v bJ bm M) cn ?_;refine V ?_;omega)
  |(refine cd.drop (K:=K) (cb k v {bJ with kind:=5} bm M) cn ?_;exact O S S (B0.2 ⟨k.kids[i],fM CT,by simpa using af⟩))
  |(refine cd.imp (K:=K) ((.slice _ many _,.row 3 1 (is (v.aO.drop (v.ns-many))))::(cb k {v with ns:=(v.ns-many),aO:=v.aO.take (v.ns-many)} bJ bm M)) (aJ.Wu (i:=2) (.there (.there .here)) (v.ns-many) S) ?_;exact O S _ _ av av)
  |(refine cd.drop (K:=K) (cb k {v with b4:=_,ns:=v.ns+1,cs:=_,aO:=v.aO++[a],aA:=IntKind.i64.wrap (v.aA+1),aH:=IntKind.i64.wrap (v.aH+1)} bJ bm M) cn ?_;rw[e1,e2];exact O S S S _ _ av av)
  |(refine ia.drop (Z:=Z) (cb k v bJ bm M) cn ?_;refine V ?_;omega)
  |(refine gd Tj ?_;intro be bM)
  |(refine gd sI ?_;intro be bM)
  |(refine gd Dc ?_;intro be bM)
  |(refine gd Nv ?_;intro be bM)
  |(refine gd IF ?_;intro be bM)
  |(refine gd IG ?_;intro be bM)
  |refine eg ?_
  |(refine eh ?_ ?_<;>(try with_reducible intro ab))
  |with_reducible intro r)<;>(try conv=>whnf))):P:=h
section
variable{H w0:World}{X:Nat->Prop}{M:aw}{K:Value->an->Prop}{Z:bF}{k:hg}{v:mS}{bm:Nat}
theorem anL (ad:eO k v) (op a b c:Int)
  (O:0<=a->a<4294967296->v.ns<100->∀aR aN,v.ns+1<=aN->(0<aN->∃b,aR=some ⟨b,0,none⟩)->K (.tuple #[]) (Y H w0 X (cb k {v with b4:=aR,ns:=v.ns+1,cs:=aN,aO:=v.aO++[a],aA:=v.aA+1,aH:=v.aH+1} bJ bm M)))
  (V:(¬(0<=a/\a<4294967296)\/¬v.ns<100)->Z [{v:=iX 1,recovered:=false}] (Y H w0 X (cb k v bJ bm M))):
  ay Tryz.prog (Y H w0 X (cb k v bJ bm M)) 170 #[ae bm,.agg #[J op,J a,J b,J c]] K Z:=by
 have e1:IntKind.i64.wrap (v.aA+1)=v.aA+1:=cK (by have:=ad.aA;omega)
 have e2:IntKind.i64.wrap (v.aH+1)=v.aH+1:=cK (by have:=ad.aH;omega)
 refine a7 ahO ?_
 intro az aF
 conv=>whnf
 exact J2
theorem Bz (ad:eO k v) (many:Nat)
  (O:many<=v.ns->∀aR aN,many<=aN->(0<aN->∃b,aR=some ⟨b,0,none⟩)->K (.slice aR many aN) (Y H w0 X ((.slice aR many aN,.row 3 1 (is (v.aO.drop (v.ns-many))))::(cb k {v with ns:=(v.ns-many),aO:=v.aO.take (v.ns-many)} bJ bm M))))
  (V:¬many<=v.ns->Z [{v:=iX 1,recovered:=false}] (Y H w0 X (cb k v bJ bm M))):
  ay Tryz.prog (Y H w0 X (cb k v bJ bm M)) 243 #[ae bm,J (many:Int)] K Z:=by
 refine a7 aim ?_
 intro az aF
 conv=>whnf
 exact J2
theorem XI (ad:eO k v) (a:Int)
  (O:0<=a->a<v.aM->se k.kids a=true->K (.bool true) (Y H w0 X (cb k v {bJ with kind:=5} bm M)))
  (V:0<=a->a<v.aM->se k.kids a=false->K (.bool false) (Y H w0 X (cb k v bJ bm M)))
  (aa:¬(0<=a/\a<v.aM)->Z [{v:=iX 1,recovered:=false}] (Y H w0 X (cb k v bJ bm M))):
  ay Tryz.prog (Y H w0 X (cb k v bJ bm M)) 240 #[ae bm,J a] K Z:=by
 refine a7 ail ?_
 intro az aF
 conv=>whnf
 repeat'((first
  |(show bk _ _ _ _;first|(refine hb gK W ?_;(conv=>whnf);refine⟨by rfl,fun a0=>?_⟩))
  |(refine ia.drop (Z:=Z) (cb k v bJ bm M) cn ?_;refine aa ?_;omega)
  |(refine gd sI ?_;intro be bM)
  |(refine gd Dc ?_;intro be bM)
  |refine Ez ?_
  |(refine oQ ?_ ?_<;>(try with_reducible intro ab))
  |with_reducible intro r)<;>(try conv=>whnf))
 refine c9.on (X:=Nat) (fun i=> [(0,.v (ae bm)),(1,.v (J a)),(21,.v (.slice k.bq k.a5 k.bZ)),(22,.v (J k.a5)),(23,.v (J (i:Int)))]) (fun _=> []) (fun _=>Y H az aF (cb k v bJ bm M)) (fun i=>i<=k.a5/\∀j (h:j<k.kids.length),j<i->k.kids[j].dst≠a) (fun i=>k.a5-i) 0 ⟨cY _,fun _ _ h=>absurd h S⟩ ⟨rfl,rfl,rfl,rfl,rfl,trivial⟩ trivial ?_
 intro i r ⟨hi,mj⟩
 conv=>whnf
 refine ba.dec (fun cc=>?_) (fun sx=>?_)
 ·conv=>whnf
  refine M7 ad.bq ad.bZ S cc (fun b ab=>?_)
  conv=>whnf
  have CT:i<k.kids.length:=by have:=ad.a5;omega
  refine zl [J k.kids[i].task,J k.kids[i].dst] (by rw[<-ab];repeat(first|exact List.Mem.head _|refine dr _ ?_)) aD W W (NB k.kids i CT) ?_
  conv=>whnf
  refine ba.sk (fun af=>?_) (fun af=>?_)
  ·conv=>whnf
   exact J2
  ·conv=>whnf
   exact cC (X:=Nat) (i+1) S ⟨by omega,fun j a9 iq=>by
    by_cases e:j=i
    ·subst e;exact af
    ·exact mj j a9 S⟩ ⟨rfl,rfl,rfl,rfl,by show cD.v (J (IntKind.i64.wrap ((i:Int)+1)))=_;rw[cK (by have:=ad.a5;have:=ad.zk;omega)];rfl,trivial⟩ trivial
 ·conv=>whnf
  refine cd.drop (K:=K) (cb k v bJ bm M) cn ?_
  refine V S S ?_
  unfold se
  rw[List.any_eq_false]
  intro x aW
  obtain⟨j,a9,rfl⟩:=List.mem_iff_getElem.1 aW
  simpa using mj j a9 (by have:=ad.a5;omega)
theorem anM (ad:eO k v) (x:Value×aY) (n:Int)
  (O:v.ns<100->∀aR aN,v.ns+1<=aN->(0<aN->∃b,aR=some ⟨b,0,none⟩)->K (.tuple #[]) (Y H w0 X (x::(cb k {v with b4:=aR,ns:=v.ns+1,cs:=aN,aO:=v.aO++[n]} bJ bm M))))
  (V:¬v.ns<100->Z [{v:=iX 1,recovered:=false}] (Y H w0 X (x::cb k v bJ bm M))):
  ay Tryz.prog (Y H w0 X (x::cb k v bJ bm M)) 238 #[ae bm,J n] K Z:=by
 refine a7 Nv ?_
 intro az aF
 conv=>whnf
 exact J2
end
theorem x6 {P:Prop} (h:P:=by
 repeat'((first
  |(show bk _ _ _ _;first|(refine hb gK W ?_;(conv=>whnf);refine⟨by rfl,fun a0=>?_⟩)|(refine jx 0 av b7 W (by simp;have:=ad.ns;omega) ?_)|(refine jx a.toNat av b7 W (by have:=ad.aM;omega) ?_)|(refine Cg [_] (fy.own gK b7 (Ce W) _) W mw (by have:=ad.dB;omega) ?_;intro aR aN jd fE))
  |(show ay _ _ _ _ _ _;first|(refine Bz ad 1 (fun bd aR aN jd fE=>?_) (fun bd=>?_))|(refine XI ad a (fun _ _ au=>?_) (fun _ _ au=>?_) (fun au=>?_)))
  |(show gn _ _ _ _ _;first|(refine uQ av av S S (fun cU ab=>?_))|(refine uQ ad.bK ad.bD S S (fun cU ab=>?_)))
  |(refine cd.drop (K:=K) (cb k v {bJ with kind:=5} bm M) cn ?_;(try rw[e1]);(try rw[e2]);exact fi S S av)
  |(refine cd.drop (K:=K) (cb k {v with b4:=_,ns:=v.ns+1,cs:=_,aO:=v.aO++[v.loc.getD a.toNat 0],aA:=IntKind.i64.wrap (v.aA+1),aH:=IntKind.i64.wrap (v.aH+1)} bJ bm M) cn ?_;(try rw[e1]);(try rw[e2]);exact pQ S S av S _ _ av av)
  |(refine cd.drop (K:=K) (cb k v {bJ with kind:=5} bm M) cn ?_;(try rw[e1]);(try rw[e2]);exact fi S)
  |(refine cd.drop (K:=K) (cb k {v with ns:=v.ns-1,aO:=v.aO.take (v.ns-1),aA:=IntKind.i64.wrap (v.aA+1),aH:=IntKind.i64.wrap (v.aH+1)} {bJ with kind:=6,a:=(v.aO.drop (v.ns-1)).getD 0 0} bm M) cn ?_;(try rw[e1]);(try rw[e2]);exact pQ S S)
  |(refine cd.drop (K:=K) (cb k {v with aA:=IntKind.i64.wrap (v.aA+1),aH:=IntKind.i64.wrap (v.aH+1)} bJ bm M) cn ?_;(try rw[e1]);(try rw[e2]);exact pQ S)
  |(refine cd.drop (K:=K) (cb k {v with ns:=v.ns-1,aO:=v.aO.take (v.ns-1),aA:=a,aH:=IntKind.i64.wrap (v.aH+1)} bJ bm M) cn ?_;(try rw[e1]);(try rw[e2]);exact fi S S S av)
  |(refine cd.drop (K:=K) (cb k {v with ns:=v.ns-1,aO:=v.aO.take (v.ns-1),aA:=IntKind.i64.wrap (v.aA+1),aH:=IntKind.i64.wrap (v.aH+1)} bJ bm M) cn ?_;(try rw[e1]);(try rw[e2]);exact pQ S S S av)
  |(refine cd.drop (K:=K) (cb k {v with aA:=a,aH:=IntKind.i64.wrap (v.aH+1)} bJ bm M) cn ?_;(try rw[e1]);(try rw[e2]);exact fi S S)
  |(refine cd.drop (K:=K) (cb k {v with ns:=v.ns-1,aO:=v.aO.take (v.ns-1),fail:=true,aA:=IntKind.i64.wrap (v.aA+1),aH:=IntKind.i64.wrap (v.aH+1)} bJ bm M) cn ?_;(try rw[e1]);(try rw[e2]);exact fi S av)
  |(refine cd.drop (K:=K) (cb k {v with ns:=v.ns-1,aO:=v.aO.take (v.ns-1),aA:=IntKind.i64.wrap (v.aA+1),aH:=IntKind.i64.wrap (v.aH+1)} bJ bm M) cn ?_;(try rw[e1]);(try rw[e2]);exact pQ S av)
  |(refine cd.drop (K:=K) (cb k {v with ns:=v.ns-1,aO:=v.aO.take (v.ns-1),aA:=IntKind.i64.wrap (v.aA+1),aH:=IntKind.i64.wrap (v.aH+1)} bJ bm M) cn ?_;(try rw[e1]);(try rw[e2]);exact fi S)
  |(refine cd.drop (K:=K) (cb k {v with ns:=v.ns-1,aO:=v.aO.take (v.ns-1),aA:=IntKind.i64.wrap (v.aA+1),aH:=IntKind.i64.wrap (v.aH+1)} {bJ with kind:=2,a:=a,b:=(v.aO.drop (v.ns-1)).getD 0 0} bm M) cn ?_;(try rw[e1]);(try rw[e2]);exact fi S S S)
  |(refine cd.drop (K:=K) (cb k {v with aA:=IntKind.i64.wrap (v.aA+1),aH:=IntKind.i64.wrap (v.aH+1)} {bJ with kind:=1,a:=a} bm M) cn ?_;(try rw[e1]);(try rw[e2]);exact fi S S)
  |(refine ia.drop (Z:=Z) (cb k v bJ bm M) cn ?_;refine V ?_;first|omega|exact .inl S|exact .inr ⟨by assumption,by omega⟩)
  |(refine gd sI ?_;intro be bM)
  |(refine gd Dc ?_;intro be bM)
  |(refine gd aiq ?_;intro be bM)
  |(refine gd IF ?_;intro be bM)
  |(refine gd IG ?_;intro be bM)
  |(refine gd Nv ?_;intro be bM)
  |(refine gd aip ?_;intro be bM)
  |(refine gd Tt ?_;intro be bM)
  |refine eg ?_
  |(refine eh ?_ ?_<;>(try with_reducible intro ab))
  |with_reducible intro r)<;>(try conv=>whnf))):P:=h
section
variable{H w0:World}{X:Nat->Prop}{M:aw}{K:Value->an->Prop}{Z:bF}{k:hg}{v:mS}{bm:Nat}
theorem akS (ad:eO k v) (op a b c:Int)
  (fi:0<=a->a<k.bB->K (.tuple #[]) (Y H w0 X (cb k {v with aA:=v.aA+1,aH:=v.aH+1} {bJ with kind:=1,a:=a} bm M)))
  (V:(¬(0<=a/\a<k.bB))->Z [{v:=iX 1,recovered:=false}] (Y H w0 X (cb k v bJ bm M))):
  ay Tryz.prog (Y H w0 X (cb k v bJ bm M)) 173 #[ae bm,.agg #[J op,J a,J b,J c]] K Z:=by
 have e1:IntKind.i64.wrap (v.aA+1)=v.aA+1:=cK (by have:=ad.aA;omega)
 have e2:IntKind.i64.wrap (v.aH+1)=v.aH+1:=cK (by have:=ad.aH;omega)
 refine a7 ahR ?_
 intro az aF
 conv=>whnf
 exact x6
theorem aqN (ad:eO k v) (op a b c:Int)
  (fi:0<=a->a<k.bB->1<=v.ns->K (.tuple #[]) (Y H w0 X (cb k {v with ns:=v.ns-1,aO:=v.aO.take (v.ns-1),aA:=v.aA+1,aH:=v.aH+1} {bJ with kind:=2,a:=a,b:=(v.aO.drop (v.ns-1)).getD 0 0} bm M)))
  (V:(¬(0<=a/\a<k.bB)\/¬1<=v.ns)->Z [{v:=iX 1,recovered:=false}] (Y H w0 X (cb k v bJ bm M))):
  ay Tryz.prog (Y H w0 X (cb k v bJ bm M)) 174 #[ae bm,.agg #[J op,J a,J b,J c]] K Z:=by
 have e1:IntKind.i64.wrap (v.aA+1)=v.aA+1:=cK (by have:=ad.aA;omega)
 have e2:IntKind.i64.wrap (v.aH+1)=v.aH+1:=cK (by have:=ad.aH;omega)
 refine a7 ahS ?_
 intro az aF
 conv=>whnf
 exact x6
theorem adb (ad:eO k v) (op a b c:Int)
  (fi:1<=v.ns->K (.tuple #[]) (Y H w0 X (cb k {v with ns:=v.ns-1,aO:=v.aO.take (v.ns-1),aA:=v.aA+1,aH:=v.aH+1} bJ bm M)))
  (V:(¬1<=v.ns)->Z [{v:=iX 1,recovered:=false}] (Y H w0 X (cb k v bJ bm M))):
  ay Tryz.prog (Y H w0 X (cb k v bJ bm M)) 184 #[ae bm,.agg #[J op,J a,J b,J c]] K Z:=by
 have e1:IntKind.i64.wrap (v.aA+1)=v.aA+1:=cK (by have:=ad.aA;omega)
 have e2:IntKind.i64.wrap (v.aH+1)=v.aH+1:=cK (by have:=ad.aH;omega)
 refine a7 ah0 ?_
 intro az aF
 conv=>whnf
 exact x6
theorem abi (ad:eO k v) (op a b c:Int)
  (fi:1<=v.ns->(v.aO.drop (v.ns-1)).getD 0 0=0->K (.tuple #[]) (Y H w0 X (cb k {v with ns:=v.ns-1,aO:=v.aO.take (v.ns-1),fail:=true,aA:=v.aA+1,aH:=v.aH+1} bJ bm M)))
  (pQ:1<=v.ns->(v.aO.drop (v.ns-1)).getD 0 0≠0->K (.tuple #[]) (Y H w0 X (cb k {v with ns:=v.ns-1,aO:=v.aO.take (v.ns-1),aA:=v.aA+1,aH:=v.aH+1} bJ bm M)))
  (V:(¬1<=v.ns)->Z [{v:=iX 1,recovered:=false}] (Y H w0 X (cb k v bJ bm M))):
  ay Tryz.prog (Y H w0 X (cb k v bJ bm M)) 190 #[ae bm,.agg #[J op,J a,J b,J c]] K Z:=by
 have e1:IntKind.i64.wrap (v.aA+1)=v.aA+1:=cK (by have:=ad.aA;omega)
 have e2:IntKind.i64.wrap (v.aH+1)=v.aH+1:=cK (by have:=ad.aH;omega)
 refine a7 ah5 ?_
 intro az aF
 conv=>whnf
 exact x6
theorem ahw (ad:eO k v) (op a b c:Int)
  (fi:0<=a->a<k.b6->K (.tuple #[]) (Y H w0 X (cb k {v with aA:=a,aH:=v.aH+1} bJ bm M)))
  (V:(¬(0<=a/\a<k.b6))->Z [{v:=iX 1,recovered:=false}] (Y H w0 X (cb k v bJ bm M))):
  ay Tryz.prog (Y H w0 X (cb k v bJ bm M)) 187 #[ae bm,.agg #[J op,J a,J b,J c]] K Z:=by
 have e1:IntKind.i64.wrap (v.aA+1)=v.aA+1:=cK (by have:=ad.aA;omega)
 have e2:IntKind.i64.wrap (v.aH+1)=v.aH+1:=cK (by have:=ad.aH;omega)
 refine a7 ah2 ?_
 intro az aF
 conv=>whnf
 exact x6
theorem at7 (ad:eO k v) (op a b c:Int)
  (fi:0<=a->a<k.b6->1<=v.ns->(v.aO.drop (v.ns-1)).getD 0 0=0->K (.tuple #[]) (Y H w0 X (cb k {v with ns:=v.ns-1,aO:=v.aO.take (v.ns-1),aA:=a,aH:=v.aH+1} bJ bm M)))
  (pQ:0<=a->a<k.b6->1<=v.ns->(v.aO.drop (v.ns-1)).getD 0 0≠0->K (.tuple #[]) (Y H w0 X (cb k {v with ns:=v.ns-1,aO:=v.aO.take (v.ns-1),aA:=v.aA+1,aH:=v.aH+1} bJ bm M)))
  (V:(¬(0<=a/\a<k.b6)\/¬1<=v.ns)->Z [{v:=iX 1,recovered:=false}] (Y H w0 X (cb k v bJ bm M))):
  ay Tryz.prog (Y H w0 X (cb k v bJ bm M)) 188 #[ae bm,.agg #[J op,J a,J b,J c]] K Z:=by
 have e1:IntKind.i64.wrap (v.aA+1)=v.aA+1:=cK (by have:=ad.aA;omega)
 have e2:IntKind.i64.wrap (v.aH+1)=v.aH+1:=cK (by have:=ad.aH;omega)
 refine a7 ah3 ?_
 intro az aF
 conv=>whnf
 exact x6
theorem aqU (ad:eO k v) (op a b c:Int)
  (fi:k.a5≠0->K (.tuple #[]) (Y H w0 X (cb k v {bJ with kind:=5} bm M)))
  (pQ:k.a5=0->K (.tuple #[]) (Y H w0 X (cb k {v with aA:=v.aA+1,aH:=v.aH+1} bJ bm M))):
  ay Tryz.prog (Y H w0 X (cb k v bJ bm M)) 186 #[ae bm,.agg #[J op,J a,J b,J c]] K Z:=by
 have e1:IntKind.i64.wrap (v.aA+1)=v.aA+1:=cK (by have:=ad.aA;omega)
 have e2:IntKind.i64.wrap (v.aH+1)=v.aH+1:=cK (by have:=ad.aH;omega)
 refine a7 ah1 ?_
 intro az aF
 conv=>whnf
 exact x6
theorem adx (ad:eO k v) (op a b c:Int)
  (fi:k.a5≠0->K (.tuple #[]) (Y H w0 X (cb k v {bJ with kind:=5} bm M)))
  (pQ:k.a5=0->1<=v.ns->K (.tuple #[]) (Y H w0 X (cb k {v with ns:=v.ns-1,aO:=v.aO.take (v.ns-1),aA:=v.aA+1,aH:=v.aH+1} {bJ with kind:=6,a:=(v.aO.drop (v.ns-1)).getD 0 0} bm M)))
  (V:(k.a5=0/\¬1<=v.ns)->Z [{v:=iX 1,recovered:=false}] (Y H w0 X (cb k v bJ bm M))):
  ay Tryz.prog (Y H w0 X (cb k v bJ bm M)) 189 #[ae bm,.agg #[J op,J a,J b,J c]] K Z:=by
 have e1:IntKind.i64.wrap (v.aA+1)=v.aA+1:=cK (by have:=ad.aA;omega)
 have e2:IntKind.i64.wrap (v.aH+1)=v.aH+1:=cK (by have:=ad.aH;omega)
 refine a7 ah4 ?_
 intro az aF
 conv=>whnf
 exact x6
theorem akT (ad:eO k v) (op a b c:Int)
  (fi:0<=a->a<v.aM->se k.kids a=true->K (.tuple #[]) (Y H w0 X (cb k v {bJ with kind:=5} bm M)))
  (pQ:0<=a->a<v.aM->se k.kids a=false->v.ns<100->∀aR aN,v.ns+1<=aN->(0<aN->∃b,aR=some ⟨b,0,none⟩)->K (.tuple #[]) (Y H w0 X (cb k {v with b4:=aR,ns:=v.ns+1,cs:=aN,aO:=v.aO++[v.loc.getD a.toNat 0],aA:=v.aA+1,aH:=v.aH+1} bJ bm M)))
  (V:(¬(0<=a/\a<v.aM)\/se k.kids a=false/\¬v.ns<100)->Z [{v:=iX 1,recovered:=false}] (Y H w0 X (cb k v bJ bm M))):
  ay Tryz.prog (Y H w0 X (cb k v bJ bm M)) 171 #[ae bm,.agg #[J op,J a,J b,J c]] K Z:=by
 have e1:IntKind.i64.wrap (v.aA+1)=v.aA+1:=cK (by have:=ad.aA;omega)
 have e2:IntKind.i64.wrap (v.aH+1)=v.aH+1:=cK (by have:=ad.aH;omega)
 refine a7 ahP ?_
 intro az aF
 conv=>whnf
 exact x6
end
theorem BK {P:Prop} (h:P:=by
 repeat'((first
  |(show ay _ _ _ _ _ _;first|(refine XI ad a (fun _ _ au=>?_) (fun _ _ au=>?_) (fun au=>?_))|(refine Bz ad 1 (fun bd aR aN jd fE=>?_) (fun bd=>?_))|(refine Bz ad 2 (fun bd aR aN jd fE=>?_) (fun bd=>?_))|(refine anM (k:=k) (bm:=bm) (M:=M) (v:={v with ns:=v.ns-2,aO:=v.aO.take (v.ns-2)}) (ad.less 2) _ _ (fun bd lY mb Sc R2=>?_) (fun bd=>absurd (show v.ns-2<100 by have:=ad.dB;omega) bd)))
  |(show gn _ _ _ _ _;first|(refine uQ av av S S (fun cU ab=>?_))|(refine uQ ad.bK ad.bD S S (fun cU ab=>?_)))
  |(show bk _ _ _ _;first|(refine jx 0 av b7 W (by simp;have:=ad.ns;omega) ?_)|(refine hb gK W ?_;(conv=>whnf);refine⟨by rfl,fun a0=>?_⟩)|(refine jx 1 av b7 W (by simp;have:=ad.ns;omega) ?_)|(refine QO ?_)|(refine fv (dn jY) aD W W ?_))
  |(show eB _ _ _ _;first|(refine sU a.toNat av mw W (by have:=ad.aM;show a.toNat<v.loc.length;omega) ?_))
  |(refine cd.drop (K:=K) (cb k {v with b4:=_,ns:=v.ns-2+1,cs:=_,aO:=v.aO.take (v.ns-2)++[(IntKind.i64.wrap ((IntKind.i64.wrap (((v.aO.drop (v.ns-2)).getD 0 0)+((v.aO.drop (v.ns-2)).getD 1 0))).tdiv 2))],aA:=IntKind.i64.wrap (v.aA+1),aH:=IntKind.i64.wrap (v.aH+1)} bJ bm M) cn ?_;rw[e1,e2];exact fi S _ _ av av)
  |(refine cd.drop (K:=K) (cb k {v with b4:=_,ns:=v.ns-2+1,cs:=_,aO:=v.aO.take (v.ns-2)++[1],aA:=IntKind.i64.wrap (v.aA+1),aH:=IntKind.i64.wrap (v.aH+1)} bJ bm M) cn ?_;rw[e1,e2];exact fi S av _ _ av av)
  |(refine cd.drop (K:=K) (cb k {v with b4:=_,ns:=v.ns-2+1,cs:=_,aO:=v.aO.take (v.ns-2)++[0],aA:=IntKind.i64.wrap (v.aA+1),aH:=IntKind.i64.wrap (v.aH+1)} bJ bm M) cn ?_;rw[e1,e2];exact pQ S av _ _ av av)
  |(refine cd.drop (K:=K) (cb k {v with b4:=_,ns:=v.ns-2+1,cs:=_,aO:=v.aO.take (v.ns-2)++[(IntKind.i64.wrap (((v.aO.drop (v.ns-2)).getD 0 0)*((v.aO.drop (v.ns-2)).getD 1 0))%4294967296)],aA:=IntKind.i64.wrap (v.aA+1),aH:=IntKind.i64.wrap (v.aH+1)} bJ bm M) cn ?_;rw[e1,e2];exact fi S _ _ av av)
  |(refine cd.drop (K:=K) (cb k {v with b4:=_,ns:=v.ns-2+1,cs:=_,aO:=v.aO.take (v.ns-2)++[(IntKind.i64.wrap (((v.aO.drop (v.ns-2)).getD 0 0)-((v.aO.drop (v.ns-2)).getD 1 0))%4294967296)],aA:=IntKind.i64.wrap (v.aA+1),aH:=IntKind.i64.wrap (v.aH+1)} bJ bm M) cn ?_;rw[e1,e2];exact fi S _ _ av av)
  |(refine cd.drop (K:=K) (cb k {v with b4:=_,ns:=v.ns-2+1,cs:=_,aO:=v.aO.take (v.ns-2)++[(IntKind.i64.wrap (((v.aO.drop (v.ns-2)).getD 0 0)+((v.aO.drop (v.ns-2)).getD 1 0))%4294967296)],aA:=IntKind.i64.wrap (v.aA+1),aH:=IntKind.i64.wrap (v.aH+1)} bJ bm M) cn ?_;rw[e1,e2];exact fi S _ _ av av)
  |(refine cd.drop (K:=K) (cb k v {bJ with kind:=5} bm M) cn ?_;(try rw[e1]);(try rw[e2]);exact fi S S av)
  |(refine cd.drop (K:=K) (cb k {v with ns:=v.ns-1,aO:=v.aO.take (v.ns-1),loc:=v.loc.set a.toNat ((v.aO.drop (v.ns-1)).getD 0 0),aA:=IntKind.i64.wrap (v.aA+1),aH:=IntKind.i64.wrap (v.aH+1)} bJ bm M) cn ?_;(try rw[e1]);(try rw[e2]);exact pQ S S av S)
  |(refine ia.drop (Z:=Z) (cb k v bJ bm M) cn ?_;refine V ?_;first|omega|exact .inl S|exact .inr ⟨by assumption,by omega⟩)
  |(refine gd ah6 ?_;intro be bM)
  |(refine gd ahZ ?_;intro be bM)
  |(refine gd ahX ?_;intro be bM)
  |(refine gd ahW ?_;intro be bM)
  |(refine gd ahV ?_;intro be bM)
  |(refine gd ahU ?_;intro be bM)
  |(refine gd To ?_;intro be bM)
  |(refine gd ahY ?_;intro be bM)
  |(refine gd sI ?_;intro be bM)
  |(refine gd Dc ?_;intro be bM)
  |(refine gd IF ?_;intro be bM)
  |(refine gd IG ?_;intro be bM)
  |(exact by decide)
  |(refine gd Tt ?_;intro be bM)
  |refine eg ?_
  |(refine eh ?_ ?_<;>(try with_reducible intro ab))
  |with_reducible intro r)<;>(try conv=>whnf))):P:=h
section
variable{H w0:World}{X:Nat->Prop}{M:aw}{K:Value->an->Prop}{Z:bF}{k:hg}{v:mS}{bm:Nat}
theorem apO (ad:eO k v) (op a b c:Int)
  (fi:0<=a->a<v.aM->se k.kids a=true->K (.tuple #[]) (Y H w0 X (cb k v {bJ with kind:=5} bm M)))
  (pQ:0<=a->a<v.aM->se k.kids a=false->1<=v.ns->K (.tuple #[]) (Y H w0 X (cb k {v with ns:=v.ns-1,aO:=v.aO.take (v.ns-1),loc:=v.loc.set a.toNat ((v.aO.drop (v.ns-1)).getD 0 0),aA:=v.aA+1,aH:=v.aH+1} bJ bm M)))
  (V:(¬(0<=a/\a<v.aM)\/se k.kids a=false/\¬1<=v.ns)->Z [{v:=iX 1,recovered:=false}] (Y H w0 X (cb k v bJ bm M))):
  ay Tryz.prog (Y H w0 X (cb k v bJ bm M)) 172 #[ae bm,.agg #[J op,J a,J b,J c]] K Z:=by
 have e1:IntKind.i64.wrap (v.aA+1)=v.aA+1:=cK (by have:=ad.aA;omega)
 have e2:IntKind.i64.wrap (v.aH+1)=v.aH+1:=cK (by have:=ad.aH;omega)
 refine a7 ahQ ?_
 intro az aF
 conv=>whnf
 exact BK
theorem aaX (ad:eO k v) (op a b c:Int) (cj:Nat) (jY:(ae cj,aY.cs 164 [.func (.func 176) #[] #[]])∈M)
  (fi:2<=v.ns->∀aR aN,v.ns-2+1<=aN->(0<aN->∃b,aR=some ⟨b,0,none⟩)->K (.tuple #[]) (Y H w0 X (cb k {v with b4:=aR,ns:=v.ns-2+1,cs:=aN,aO:=v.aO.take (v.ns-2)++[(IntKind.i64.wrap (((v.aO.drop (v.ns-2)).getD 0 0)+((v.aO.drop (v.ns-2)).getD 1 0))%4294967296)],aA:=v.aA+1,aH:=v.aH+1} bJ bm M)))
  (V:¬2<=v.ns->Z [{v:=iX 1,recovered:=false}] (Y H w0 X (cb k v bJ bm M))):
  ay Tryz.prog (Y H w0 X (cb k v bJ bm M)) 242 #[ae bm,.agg #[J op,J a,J b,J c],ae cj] K Z:=by
 have e1:IntKind.i64.wrap (v.aA+1)=v.aA+1:=cK (by have:=ad.aA;omega)
 have e2:IntKind.i64.wrap (v.aH+1)=v.aH+1:=cK (by have:=ad.aH;omega)
 refine a7 Dd ?_
 intro az aF
 conv=>whnf
 exact BK
theorem aqR (ad:eO k v) (op a b c:Int) (cj:Nat) (jY:(ae cj,aY.cs 164 [.func (.func 178) #[] #[]])∈M)
  (fi:2<=v.ns->∀aR aN,v.ns-2+1<=aN->(0<aN->∃b,aR=some ⟨b,0,none⟩)->K (.tuple #[]) (Y H w0 X (cb k {v with b4:=aR,ns:=v.ns-2+1,cs:=aN,aO:=v.aO.take (v.ns-2)++[(IntKind.i64.wrap (((v.aO.drop (v.ns-2)).getD 0 0)-((v.aO.drop (v.ns-2)).getD 1 0))%4294967296)],aA:=v.aA+1,aH:=v.aH+1} bJ bm M)))
  (V:¬2<=v.ns->Z [{v:=iX 1,recovered:=false}] (Y H w0 X (cb k v bJ bm M))):
  ay Tryz.prog (Y H w0 X (cb k v bJ bm M)) 242 #[ae bm,.agg #[J op,J a,J b,J c],ae cj] K Z:=by
 have e1:IntKind.i64.wrap (v.aA+1)=v.aA+1:=cK (by have:=ad.aA;omega)
 have e2:IntKind.i64.wrap (v.aH+1)=v.aH+1:=cK (by have:=ad.aH;omega)
 refine a7 Dd ?_
 intro az aF
 conv=>whnf
 exact BK
theorem aly (ad:eO k v) (op a b c:Int) (cj:Nat) (jY:(ae cj,aY.cs 164 [.func (.func 179) #[] #[]])∈M)
  (fi:2<=v.ns->∀aR aN,v.ns-2+1<=aN->(0<aN->∃b,aR=some ⟨b,0,none⟩)->K (.tuple #[]) (Y H w0 X (cb k {v with b4:=aR,ns:=v.ns-2+1,cs:=aN,aO:=v.aO.take (v.ns-2)++[(IntKind.i64.wrap (((v.aO.drop (v.ns-2)).getD 0 0)*((v.aO.drop (v.ns-2)).getD 1 0))%4294967296)],aA:=v.aA+1,aH:=v.aH+1} bJ bm M)))
  (V:¬2<=v.ns->Z [{v:=iX 1,recovered:=false}] (Y H w0 X (cb k v bJ bm M))):
  ay Tryz.prog (Y H w0 X (cb k v bJ bm M)) 242 #[ae bm,.agg #[J op,J a,J b,J c],ae cj] K Z:=by
 have e1:IntKind.i64.wrap (v.aA+1)=v.aA+1:=cK (by have:=ad.aA;omega)
 have e2:IntKind.i64.wrap (v.aH+1)=v.aH+1:=cK (by have:=ad.aH;omega)
 refine a7 Dd ?_
 intro az aF
 conv=>whnf
 exact BK
theorem akK (ad:eO k v) (op a b c:Int) (cj:Nat) (jY:(ae cj,aY.cs 164 [.func (.func 180) #[] #[]])∈M)
  (fi:2<=v.ns->((v.aO.drop (v.ns-2)).getD 0 0)<((v.aO.drop (v.ns-2)).getD 1 0)->∀aR aN,v.ns-2+1<=aN->(0<aN->∃b,aR=some ⟨b,0,none⟩)->K (.tuple #[]) (Y H w0 X (cb k {v with b4:=aR,ns:=v.ns-2+1,cs:=aN,aO:=v.aO.take (v.ns-2)++[1],aA:=v.aA+1,aH:=v.aH+1} bJ bm M)))
  (pQ:2<=v.ns->¬((v.aO.drop (v.ns-2)).getD 0 0)<((v.aO.drop (v.ns-2)).getD 1 0)->∀aR aN,v.ns-2+1<=aN->(0<aN->∃b,aR=some ⟨b,0,none⟩)->K (.tuple #[]) (Y H w0 X (cb k {v with b4:=aR,ns:=v.ns-2+1,cs:=aN,aO:=v.aO.take (v.ns-2)++[0],aA:=v.aA+1,aH:=v.aH+1} bJ bm M)))
  (V:¬2<=v.ns->Z [{v:=iX 1,recovered:=false}] (Y H w0 X (cb k v bJ bm M))):
  ay Tryz.prog (Y H w0 X (cb k v bJ bm M)) 242 #[ae bm,.agg #[J op,J a,J b,J c],ae cj] K Z:=by
 have e1:IntKind.i64.wrap (v.aA+1)=v.aA+1:=cK (by have:=ad.aA;omega)
 have e2:IntKind.i64.wrap (v.aH+1)=v.aH+1:=cK (by have:=ad.aH;omega)
 refine a7 Dd ?_
 intro az aF
 conv=>whnf
 exact BK
theorem adC (ad:eO k v) (op a b c:Int) (cj:Nat) (jY:(ae cj,aY.cs 164 [.func (.func 182) #[] #[]])∈M)
  (fi:2<=v.ns->((v.aO.drop (v.ns-2)).getD 0 0)=((v.aO.drop (v.ns-2)).getD 1 0)->∀aR aN,v.ns-2+1<=aN->(0<aN->∃b,aR=some ⟨b,0,none⟩)->K (.tuple #[]) (Y H w0 X (cb k {v with b4:=aR,ns:=v.ns-2+1,cs:=aN,aO:=v.aO.take (v.ns-2)++[1],aA:=v.aA+1,aH:=v.aH+1} bJ bm M)))
  (pQ:2<=v.ns->((v.aO.drop (v.ns-2)).getD 0 0)≠((v.aO.drop (v.ns-2)).getD 1 0)->∀aR aN,v.ns-2+1<=aN->(0<aN->∃b,aR=some ⟨b,0,none⟩)->K (.tuple #[]) (Y H w0 X (cb k {v with b4:=aR,ns:=v.ns-2+1,cs:=aN,aO:=v.aO.take (v.ns-2)++[0],aA:=v.aA+1,aH:=v.aH+1} bJ bm M)))
  (V:¬2<=v.ns->Z [{v:=iX 1,recovered:=false}] (Y H w0 X (cb k v bJ bm M))):
  ay Tryz.prog (Y H w0 X (cb k v bJ bm M)) 242 #[ae bm,.agg #[J op,J a,J b,J c],ae cj] K Z:=by
 have e1:IntKind.i64.wrap (v.aA+1)=v.aA+1:=cK (by have:=ad.aA;omega)
 have e2:IntKind.i64.wrap (v.aH+1)=v.aH+1:=cK (by have:=ad.aH;omega)
 refine a7 Dd ?_
 intro az aF
 conv=>whnf
 exact BK
theorem ae2 (ad:eO k v) (op a b c:Int) (cj:Nat) (jY:(ae cj,aY.cs 164 [.func (.func 191) #[] #[]])∈M)
  (fi:2<=v.ns->∀aR aN,v.ns-2+1<=aN->(0<aN->∃b,aR=some ⟨b,0,none⟩)->K (.tuple #[]) (Y H w0 X (cb k {v with b4:=aR,ns:=v.ns-2+1,cs:=aN,aO:=v.aO.take (v.ns-2)++[(IntKind.i64.wrap ((IntKind.i64.wrap (((v.aO.drop (v.ns-2)).getD 0 0)+((v.aO.drop (v.ns-2)).getD 1 0))).tdiv 2))],aA:=v.aA+1,aH:=v.aH+1} bJ bm M)))
  (V:¬2<=v.ns->Z [{v:=iX 1,recovered:=false}] (Y H w0 X (cb k v bJ bm M))):
  ay Tryz.prog (Y H w0 X (cb k v bJ bm M)) 242 #[ae bm,.agg #[J op,J a,J b,J c],ae cj] K Z:=by
 have e1:IntKind.i64.wrap (v.aA+1)=v.aA+1:=cK (by have:=ad.aA;omega)
 have e2:IntKind.i64.wrap (v.aH+1)=v.aH+1:=cK (by have:=ad.aH;omega)
 refine a7 Dd ?_
 intro az aF
 conv=>whnf
 exact BK
end
theorem wC {P:Prop} (h:P:=by
 repeat'((first
  |(show ay _ _ _ _ _ _;first|(refine Bz ad 1 (fun bd aR aN jd fE=>?_) (fun bd=>?_))|(refine Bz ad 2 (fun bd aR aN jd fE=>?_) (fun bd=>?_))|(refine Bz ad 0 (fun bd aR aN jd fE=>?_) (fun bd=>?_))|(refine Bz ad kf (fun bd aR aN jd fE=>?_) (fun bd=>?_)))
  |(show gn _ _ _ _ _;first|(refine uQ av av S S (fun cU ab=>?_)))
  |(show bk _ _ _ _;first|(refine jx 0 av b7 W (by simp<;>(have:=ad.ns;omega)) ?_)|(refine jx 1 av b7 W (by simp<;>(have:=ad.ns;omega)) ?_)|(refine aa5 ?_)|(refine Cg [0,0] (fy.own gK b7 (Ce W) _) W mw S ?_;intro aR aN jd fE)|(refine hb gK W ?_;(conv=>whnf);refine⟨by rfl,fun a0=>?_⟩)|(refine mo av aD W ?_))
  |(refine cd.imp (K:=K) (cb k {v with ns:=v.ns-kf,aO:=v.aO.take (v.ns-kf),aA:=IntKind.i64.wrap (v.aA+1),aH:=IntKind.i64.wrap (v.aH+1)} {bJ with kind:=4,a:=a,b:=c,ed:=_,ev:=kf,bp:=_,got:=v.aO.drop (v.ns-kf)} bm M) aJ.apW ?_;rw[e1,e2];exact fi S S S S S _ _ av av)
  |(refine ia.drop (Z:=Z) (cb k v bJ bm M) cn ?_;exact V)
  |(refine ba.sk (fun ab=>absurd ab S) (fun ab=>?_))
  |(refine ba.dec (fun ab=>absurd ab S) (fun ab=>?_))
  |(refine cd.drop (K:=K) (cb k {v with ns:=v.ns-0,aO:=v.aO.take (v.ns-0),aA:=IntKind.i64.wrap (v.aA+1),aH:=IntKind.i64.wrap (v.aH+1)} {bJ with kind:=3,o0:=7,o1:=b,aQ:=((v.aO.drop (v.ns-0)++[0,0]).getD 0 0),bl:=(v.aO.drop (v.ns-0)++[0,0]).getD 1 0} bm M) cn ?_;rw[e1,e2];exact fi S S S S)
  |(refine cd.drop (K:=K) (cb k {v with ns:=v.ns-1,aO:=v.aO.take (v.ns-1),aA:=IntKind.i64.wrap (v.aA+1),aH:=IntKind.i64.wrap (v.aH+1)} {bJ with kind:=3,o0:=6,o1:=b,aQ:=((v.aO.drop (v.ns-1)++[0,0]).getD 0 0),bl:=(v.aO.drop (v.ns-1)++[0,0]).getD 1 0} bm M) cn ?_;rw[e1,e2];exact fi S S S S)
  |(refine cd.drop (K:=K) (cb k {v with ns:=v.ns-0,aO:=v.aO.take (v.ns-0),aA:=IntKind.i64.wrap (v.aA+1),aH:=IntKind.i64.wrap (v.aH+1)} {bJ with kind:=3,o0:=5,o1:=b,aQ:=((v.aO.drop (v.ns-0)++[0,0]).getD 0 0),bl:=(v.aO.drop (v.ns-0)++[0,0]).getD 1 0} bm M) cn ?_;rw[e1,e2];exact fi S S S S)
  |(refine cd.drop (K:=K) (cb k {v with ns:=v.ns-1,aO:=v.aO.take (v.ns-1),aA:=IntKind.i64.wrap (v.aA+1),aH:=IntKind.i64.wrap (v.aH+1)} {bJ with kind:=3,o0:=4,o1:=b,aQ:=((v.aO.drop (v.ns-1)++[0,0]).getD 0 0),bl:=(v.aO.drop (v.ns-1)++[0,0]).getD 1 0} bm M) cn ?_;rw[e1,e2];exact fi S S S S)
  |(refine cd.drop (K:=K) (cb k {v with ns:=v.ns-1,aO:=v.aO.take (v.ns-1),aA:=IntKind.i64.wrap (v.aA+1),aH:=IntKind.i64.wrap (v.aH+1)} {bJ with kind:=3,o0:=3,o1:=b,aQ:=((v.aO.drop (v.ns-1)++[0,0]).getD 0 0)%65536,bl:=(v.aO.drop (v.ns-1)++[0,0]).getD 1 0} bm M) cn ?_;rw[e1,e2];exact fi S S S S)
  |(refine cd.drop (K:=K) (cb k {v with ns:=v.ns-2,aO:=v.aO.take (v.ns-2),aA:=IntKind.i64.wrap (v.aA+1),aH:=IntKind.i64.wrap (v.aH+1)} {bJ with kind:=3,o0:=2,o1:=b,aQ:=((v.aO.drop (v.ns-2)++[0,0]).getD 0 0)%65536,bl:=(v.aO.drop (v.ns-2)++[0,0]).getD 1 0} bm M) cn ?_;rw[e1,e2];exact fi S S S S)
  |(refine cd.drop (K:=K) (cb k {v with ns:=v.ns-1,aO:=v.aO.take (v.ns-1),aA:=IntKind.i64.wrap (v.aA+1),aH:=IntKind.i64.wrap (v.aH+1)} {bJ with kind:=3,o0:=1,o1:=b,aQ:=((v.aO.drop (v.ns-1)++[0,0]).getD 0 0)%65536,bl:=(v.aO.drop (v.ns-1)++[0,0]).getD 1 0} bm M) cn ?_;rw[e1,e2];exact fi S S S S)
  |(refine ia.drop (Z:=Z) (cb k v bJ bm M) cn ?_;refine V ?_;first|omega|exact .inl S|exact .inr ⟨by assumption,by omega⟩)
  |(obtain⟨dK,of,aeH,im⟩:=gY a.toNat S;refine rG dK of aeH S S ?_)
  |(refine gd sI ?_;intro be bM)
  |(refine gd Dc ?_;intro be bM)
  |(refine gd IF ?_;intro be bM)
  |(refine gd IG ?_;intro be bM)
  |(refine gd Nt ?_;intro be bM)
  |(refine gd ain ?_;intro be bM)
  |(refine gd aio ?_;intro be bM)
  |refine eg ?_
  |(refine eh ?_ ?_<;>(try with_reducible intro ab))
  |with_reducible intro r)<;>(try conv=>whnf))):P:=h
section
variable{H w0:World}{X:Nat->Prop}{M:aw}{K:Value->an->Prop}{Z:bF}{k:hg}{v:mS}{bm:Nat}
theorem abL (ad:eO k v) (op b c:Int)
  (fi:0<=b->b<k.maps->c=1->1<=v.ns->K (.tuple #[]) (Y H w0 X (cb k {v with ns:=v.ns-1,aO:=v.aO.take (v.ns-1),aA:=v.aA+1,aH:=v.aH+1} {bJ with kind:=3,o0:=1,o1:=b,aQ:=((v.aO.drop (v.ns-1)++[0,0]).getD 0 0)%65536,bl:=(v.aO.drop (v.ns-1)++[0,0]).getD 1 0} bm M)))
  (V:(¬(0<=b/\b<k.maps/\c=1/\1<=v.ns))->Z [{v:=iX 1,recovered:=false}] (Y H w0 X (cb k v bJ bm M))):
  ay Tryz.prog (Y H w0 X (cb k v bJ bm M)) 183 #[ae bm,.agg #[J op,J 1,J b,J c]] K Z:=by
 have e1:IntKind.i64.wrap (v.aA+1)=v.aA+1:=cK (by have:=ad.aA;omega)
 have e2:IntKind.i64.wrap (v.aH+1)=v.aH+1:=cK (by have:=ad.aH;omega)
 refine a7 zi ?_
 intro az aF
 conv=>whnf
 exact wC
theorem abM (ad:eO k v) (op b c:Int)
  (fi:0<=b->b<k.maps->c=2->2<=v.ns->K (.tuple #[]) (Y H w0 X (cb k {v with ns:=v.ns-2,aO:=v.aO.take (v.ns-2),aA:=v.aA+1,aH:=v.aH+1} {bJ with kind:=3,o0:=2,o1:=b,aQ:=((v.aO.drop (v.ns-2)++[0,0]).getD 0 0)%65536,bl:=(v.aO.drop (v.ns-2)++[0,0]).getD 1 0} bm M)))
  (V:(¬(0<=b/\b<k.maps/\c=2/\2<=v.ns))->Z [{v:=iX 1,recovered:=false}] (Y H w0 X (cb k v bJ bm M))):
  ay Tryz.prog (Y H w0 X (cb k v bJ bm M)) 183 #[ae bm,.agg #[J op,J 2,J b,J c]] K Z:=by
 have e1:IntKind.i64.wrap (v.aA+1)=v.aA+1:=cK (by have:=ad.aA;omega)
 have e2:IntKind.i64.wrap (v.aH+1)=v.aH+1:=cK (by have:=ad.aH;omega)
 refine a7 zi ?_
 intro az aF
 conv=>whnf
 exact wC
theorem abN (ad:eO k v) (op b c:Int)
  (fi:0<=b->b<k.maps->c=1->1<=v.ns->K (.tuple #[]) (Y H w0 X (cb k {v with ns:=v.ns-1,aO:=v.aO.take (v.ns-1),aA:=v.aA+1,aH:=v.aH+1} {bJ with kind:=3,o0:=3,o1:=b,aQ:=((v.aO.drop (v.ns-1)++[0,0]).getD 0 0)%65536,bl:=(v.aO.drop (v.ns-1)++[0,0]).getD 1 0} bm M)))
  (V:(¬(0<=b/\b<k.maps/\c=1/\1<=v.ns))->Z [{v:=iX 1,recovered:=false}] (Y H w0 X (cb k v bJ bm M))):
  ay Tryz.prog (Y H w0 X (cb k v bJ bm M)) 183 #[ae bm,.agg #[J op,J 3,J b,J c]] K Z:=by
 have e1:IntKind.i64.wrap (v.aA+1)=v.aA+1:=cK (by have:=ad.aA;omega)
 have e2:IntKind.i64.wrap (v.aH+1)=v.aH+1:=cK (by have:=ad.aH;omega)
 refine a7 zi ?_
 intro az aF
 conv=>whnf
 exact wC
theorem abO (ad:eO k v) (op b c:Int)
  (fi:0<=b->b<k.dj->c=1->1<=v.ns->K (.tuple #[]) (Y H w0 X (cb k {v with ns:=v.ns-1,aO:=v.aO.take (v.ns-1),aA:=v.aA+1,aH:=v.aH+1} {bJ with kind:=3,o0:=4,o1:=b,aQ:=((v.aO.drop (v.ns-1)++[0,0]).getD 0 0),bl:=(v.aO.drop (v.ns-1)++[0,0]).getD 1 0} bm M)))
  (V:(¬(0<=b/\b<k.dj/\c=1/\1<=v.ns))->Z [{v:=iX 1,recovered:=false}] (Y H w0 X (cb k v bJ bm M))):
  ay Tryz.prog (Y H w0 X (cb k v bJ bm M)) 183 #[ae bm,.agg #[J op,J 4,J b,J c]] K Z:=by
 have e1:IntKind.i64.wrap (v.aA+1)=v.aA+1:=cK (by have:=ad.aA;omega)
 have e2:IntKind.i64.wrap (v.aH+1)=v.aH+1:=cK (by have:=ad.aH;omega)
 refine a7 zi ?_
 intro az aF
 conv=>whnf
 exact wC
theorem abP (ad:eO k v) (op b c:Int)
  (fi:0<=b->b<k.dj->c=0->0<=v.ns->K (.tuple #[]) (Y H w0 X (cb k {v with ns:=v.ns-0,aO:=v.aO.take (v.ns-0),aA:=v.aA+1,aH:=v.aH+1} {bJ with kind:=3,o0:=5,o1:=b,aQ:=((v.aO.drop (v.ns-0)++[0,0]).getD 0 0),bl:=(v.aO.drop (v.ns-0)++[0,0]).getD 1 0} bm M)))
  (V:(¬(0<=b/\b<k.dj/\c=0/\0<=v.ns))->Z [{v:=iX 1,recovered:=false}] (Y H w0 X (cb k v bJ bm M))):
  ay Tryz.prog (Y H w0 X (cb k v bJ bm M)) 183 #[ae bm,.agg #[J op,J 5,J b,J c]] K Z:=by
 have e1:IntKind.i64.wrap (v.aA+1)=v.aA+1:=cK (by have:=ad.aA;omega)
 have e2:IntKind.i64.wrap (v.aH+1)=v.aH+1:=cK (by have:=ad.aH;omega)
 refine a7 zi ?_
 intro az aF
 conv=>whnf
 exact wC
theorem abQ (ad:eO k v) (op b c:Int)
  (fi:0<=b->b<k.cF->c=1->1<=v.ns->K (.tuple #[]) (Y H w0 X (cb k {v with ns:=v.ns-1,aO:=v.aO.take (v.ns-1),aA:=v.aA+1,aH:=v.aH+1} {bJ with kind:=3,o0:=6,o1:=b,aQ:=((v.aO.drop (v.ns-1)++[0,0]).getD 0 0),bl:=(v.aO.drop (v.ns-1)++[0,0]).getD 1 0} bm M)))
  (V:(¬(0<=b/\b<k.cF/\c=1/\1<=v.ns))->Z [{v:=iX 1,recovered:=false}] (Y H w0 X (cb k v bJ bm M))):
  ay Tryz.prog (Y H w0 X (cb k v bJ bm M)) 183 #[ae bm,.agg #[J op,J 6,J b,J c]] K Z:=by
 have e1:IntKind.i64.wrap (v.aA+1)=v.aA+1:=cK (by have:=ad.aA;omega)
 have e2:IntKind.i64.wrap (v.aH+1)=v.aH+1:=cK (by have:=ad.aH;omega)
 refine a7 zi ?_
 intro az aF
 conv=>whnf
 exact wC
theorem abR (ad:eO k v) (op b c:Int)
  (fi:0<=b->b<k.cF->c=0->0<=v.ns->K (.tuple #[]) (Y H w0 X (cb k {v with ns:=v.ns-0,aO:=v.aO.take (v.ns-0),aA:=v.aA+1,aH:=v.aH+1} {bJ with kind:=3,o0:=7,o1:=b,aQ:=((v.aO.drop (v.ns-0)++[0,0]).getD 0 0),bl:=(v.aO.drop (v.ns-0)++[0,0]).getD 1 0} bm M)))
  (V:(¬(0<=b/\b<k.cF/\c=0/\0<=v.ns))->Z [{v:=iX 1,recovered:=false}] (Y H w0 X (cb k v bJ bm M))):
  ay Tryz.prog (Y H w0 X (cb k v bJ bm M)) 183 #[ae bm,.agg #[J op,J 7,J b,J c]] K Z:=by
 have e1:IntKind.i64.wrap (v.aA+1)=v.aA+1:=cK (by have:=ad.aA;omega)
 have e2:IntKind.i64.wrap (v.aH+1)=v.aH+1:=cK (by have:=ad.aH;omega)
 refine a7 zi ?_
 intro az aF
 conv=>whnf
 exact wC
theorem acb (ad:eO k v) (op a b c:Int) (aW:a≠1/\a≠2/\a≠3/\a≠4/\a≠5/\a≠6/\a≠7)
  (V:Z [{v:=iX 1,recovered:=false}] (Y H w0 X (cb k v bJ bm M))):
  ay Tryz.prog (Y H w0 X (cb k v bJ bm M)) 183 #[ae bm,.agg #[J op,J a,J b,J c]] K Z:=by
 have e1:IntKind.i64.wrap (v.aA+1)=v.aA+1:=cK (by have:=ad.aA;omega)
 have e2:IntKind.i64.wrap (v.aH+1)=v.aH+1:=cK (by have:=ad.aH;omega)
 refine a7 zi ?_
 intro az aF
 conv=>whnf
 exact wC
theorem aqa (ad:eO k v) (op a c:Int) (kf:Nat) (cW:List Int) (gY:∀i,i<k.aX->∃dK o,k.bS=some ⟨dK,o,none⟩/\H.cell? ⟨dK,o+i*3,none⟩=some (J (cW.getD i 0)))
  (fi:0<=a->a<k.aX->(c= -1\/0<=c/\c<v.aM)->(kf:Int)=cW.getD a.toNat 0->kf<=v.ns->∀aR aN,kf<=aN->(0<aN->∃b,aR=some ⟨b,0,none⟩)->K (.tuple #[]) (Y H w0 X (cb k {v with ns:=v.ns-kf,aO:=v.aO.take (v.ns-kf),aA:=v.aA+1,aH:=v.aH+1} {bJ with kind:=4,a:=a,b:=c,ed:=aR,ev:=kf,bp:=aN,got:=v.aO.drop (v.ns-kf)} bm M)))
  (V:(¬(0<=a/\a<k.aX)\/¬(c= -1\/0<=c/\c<v.aM)\/(kf:Int)≠cW.getD a.toNat 0\/¬kf<=v.ns)->Z [{v:=iX 1,recovered:=false}] (Y H w0 X (cb k v bJ bm M))):
  ay Tryz.prog (Y H w0 X (cb k v bJ bm M)) 185 #[ae bm,.agg #[J op,J a,J kf,J c]] K Z:=by
 have e1:IntKind.i64.wrap (v.aA+1)=v.aA+1:=cK (by have:=ad.aA;omega)
 have e2:IntKind.i64.wrap (v.aH+1)=v.aH+1:=cK (by have:=ad.aH;omega)
 refine a7 Tp ?_
 intro az aF
 conv=>whnf
 exact wC
theorem aqb (ad:eO k v) (op a b c:Int) (nU:b<0)
  (V:Z [{v:=iX 1,recovered:=false}] (Y H w0 X (cb k v bJ bm M))):
  ay Tryz.prog (Y H w0 X (cb k v bJ bm M)) 185 #[ae bm,.agg #[J op,J a,J b,J c]] K Z:=by
 have e1:IntKind.i64.wrap (v.aA+1)=v.aA+1:=cK (by have:=ad.aA;omega)
 have e2:IntKind.i64.wrap (v.aH+1)=v.aH+1:=cK (by have:=ad.aH;omega)
 refine a7 Tp ?_
 intro az aF
 conv=>whnf
 exact wC
end
end Go.Proofs.YtcflcebplhdcpaaGreat
