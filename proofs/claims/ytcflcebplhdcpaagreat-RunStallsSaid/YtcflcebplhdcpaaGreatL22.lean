/- Lemmas, part 22; each states its own conditions. -/
import Derived.Test.YtcflcebplhdcpaaGreatL20
import Derived.Test.YtcflcebplhdcpaaGreatL21
namespace Go.Proofs.YtcflcebplhdcpaaGreat
open Go.RowKit
set_option linter.unusedSimpArgs false
set_option linter.unusedVariables false
set_option maxRecDepth 100000
set_option maxHeartbeats 16000000
section
variable{H w0:World}{X:Nat->Prop}{M:aw}{K:Value->an->Prop}{Z:bF}{k:hg}{v:mS}{bm:Nat}{cW:Int->Int}{i:fe}
abbrev nX(i:fe):Value:= .agg #[J i.op,J i.a,J i.b,J i.c]
structure nI(H w0:World)(X:Nat->Prop)(M:aw)(K:Value->an->Prop)(Z:bF)(k:hg)(v:mS)(bm:Nat)(cW:Int->Int)(i:fe):Prop where
 go:∀dw,eO k dw->dw.aH=v.aH+1->gD k cW (ez v) i= .go (ez dw)->K (.tuple #[]) (Y H w0 X (cb k dw bJ bm M))
 ask:∀dw q,eO k dw->ys q->q.kind≠0->gD k cW (ez v) i= .ask (ez dw) (gL q)->K (.tuple #[]) (Y H w0 X (cb k dw q bm M))
 err:gD k cW (ez v) i= .err 1->Z [{v:=iX 1,recovered:=false}] (Y H w0 X (cb k v bJ bm M))
theorem qT(q:l5)(O:q.ev=0)(V:q.bp=0)(aa:q.got=[]):ys q:=⟨by rw[O,aa];rfl,by omega,fun h=>by omega⟩
structure lE(k:hg)(v:mS):Prop where
 aA:v.aA<1000000
 aH:v.aH<2000
 b6:k.b6<=1000000
theorem eO.Vh(ad:eO k v)(aP:lE k v){aR:Option Addr}{aN:Nat}(x:Int)(h:v.ns<100)(aj:v.ns+1<=aN)(b0:0<aN->∃b,aR=some ⟨b,0,none⟩):eO k {v with b4:=aR,ns:=v.ns+1,cs:=aN,aO:=v.aO++[x],aA:=v.aA+1,aH:=v.aH+1}:=
 ⟨by have:=ad.aA;have:=aP.aA;show 0<=v.aA+1/\v.aA+1<=1000000;omega,by have:=ad.aH;have:=aP.aH;show 0<=v.aH+1/\v.aH+1<=2000;omega,by have:=ad.ns;simp;omega,ad.aM,by show v.ns+1<=100;omega,b0,aj,ad.bK,ad.bD,ad.a5,ad.bq,ad.bZ,ad.zk⟩
theorem eO.p1(ad:eO k v)(aP:lE k v)(m:Nat)(aA:Int)(bh:0<=aA/\aA<=1000000)(fail:Bool)(loc:List Int)(ai:loc.length=v.loc.length):eO k {v with ns:=v.ns-m,aO:=v.aO.take (v.ns-m),aA:=aA,aH:=v.aH+1,fail:=fail,loc:=loc}:=
 ⟨bh,by have:=ad.aH;have:=aP.aH;show 0<=v.aH+1/\v.aH+1<=2000;omega,by have:=ad.ns;simp;omega,by rw[ai];exact ad.aM,by have:=ad.dB;show v.ns-m<=100;omega,ad.b4,by have:=ad.cs;show v.ns-m<=v.cs;omega,ad.bK,ad.bD,ad.a5,ad.bq,ad.bZ,ad.zk⟩
theorem eO.plain(ad:eO k v)(aP:lE k v)(aA:Int)(bh:0<=aA/\aA<=1000000):eO k {v with aA:=aA,aH:=v.aH+1}:=
 ⟨bh,by have:=ad.aH;have:=aP.aH;show 0<=v.aH+1/\v.aH+1<=2000;omega,ad.ns,ad.aM,ad.dB,ad.b4,ad.cs,ad.bK,ad.bD,ad.a5,ad.bq,ad.bZ,ad.zk⟩
theorem eO.zL(ad:eO k v)(aP:lE k v){aR:Option Addr}{aN:Nat}(x:Int)(h:2<=v.ns)(aj:v.ns-2+1<=aN)(b0:0<aN->∃b,aR=some ⟨b,0,none⟩):eO k {v with b4:=aR,ns:=v.ns-2+1,cs:=aN,aO:=v.aO.take (v.ns-2)++[x],aA:=v.aA+1,aH:=v.aH+1}:=
 ⟨by have:=ad.aA;have:=aP.aA;show 0<=v.aA+1/\v.aA+1<=1000000;omega,by have:=ad.aH;have:=aP.aH;show 0<=v.aH+1/\v.aH+1<=2000;omega,by have:=ad.ns;simp;omega,ad.aM,by have:=ad.dB;show v.ns-2+1<=100;omega,b0,aj,ad.bK,ad.bD,ad.a5,ad.bq,ad.bZ,ad.zk⟩
theorem agN(ad:eO k v)(aP:lE k v)(cO:i.op=1)(G:nI H w0 X M K Z k v bm cW i):ay Tryz.prog (Y H w0 X (cb k v bJ bm M)) 170 #[ae bm,nX i] K Z:=by
 have aB:=ad.ns
 have ai:=ad.aM
 have U:=ad.a5
 have ml:=ad.aA
 have ll:=aP.aA
 refine anL ad _ _ _ _ (fun O V aa aR aN ag a6=>?_) (fun h=>?_)
 ·exact G.go _ (ad.Vh aP _ aa ag a6) rfl (by rw[S2 cO,if_pos (by show 0<=i.a/\i.a<4294967296/\v.aO.length<100;omega)];simp only[bR.pop,bR.ej,bR.at_,bR.two,ez,gL,bJ,aB])
 ·exact G.err (by rw[S2 cO,if_neg (by show ¬(0<=i.a/\i.a<4294967296/\v.aO.length<100);omega)])
theorem agY(ad:eO k v)(aP:lE k v)(cO:i.op=2)(G:nI H w0 X M K Z k v bm cW i):ay Tryz.prog (Y H w0 X (cb k v bJ bm M)) 171 #[ae bm,nX i] K Z:=by
 have aB:=ad.ns
 have ai:=ad.aM
 have U:=ad.a5
 have ml:=ad.aA
 have ll:=aP.aA
 refine akT ad _ _ _ _ (fun O V aa=>?_) (fun O V aa ag aR aN a6 bU=>?_) (fun h=>?_)
 ·exact G.ask _ _ ad (qT _ rfl rfl rfl) (show(5:Int)≠0 by decide) (by rw[Ix cO,if_neg (by show ¬ ¬(0<=i.a/\i.a<v.loc.length);omega),if_pos aa];simp only[bR.pop,bR.ej,bR.at_,bR.two,ez,gL,bJ,aB])
 ·exact G.go _ (ad.Vh aP _ ag a6 bU) rfl (by rw[Ix cO,if_neg (by show ¬ ¬(0<=i.a/\i.a<v.loc.length);omega),if_neg (by rw[aa];decide),if_pos (by show v.aO.length<100;omega)];simp only[bR.pop,bR.ej,bR.at_,bR.two,ez,gL,bJ,aB])
 ·by_cases aj:0<=i.a/\i.a<v.aM
  ·rcases h with h|⟨aa,ag⟩
   ·exact absurd aj h
   ·exact G.err (by rw[Ix cO,if_neg (by show ¬ ¬(0<=i.a/\i.a<v.loc.length);omega),if_neg (by rw[aa];decide),if_neg (by show ¬v.aO.length<100;omega)])
  ·exact G.err (by rw[Ix cO,if_pos (by show ¬(0<=i.a/\i.a<v.loc.length);omega)])
theorem agZ(ad:eO k v)(aP:lE k v)(cO:i.op=3)(G:nI H w0 X M K Z k v bm cW i):ay Tryz.prog (Y H w0 X (cb k v bJ bm M)) 172 #[ae bm,nX i] K Z:=by
 have aB:=ad.ns
 have ai:=ad.aM
 have U:=ad.a5
 have ml:=ad.aA
 have ll:=aP.aA
 refine apO ad _ _ _ _ (fun O V aa=>?_) (fun O V aa ag=>?_) (fun h=>?_)
 ·exact G.ask _ _ ad (qT _ rfl rfl rfl) (show(5:Int)≠0 by decide) (by rw[Iy cO,if_neg (by show ¬ ¬(0<=i.a/\i.a<v.loc.length);omega),if_pos aa];simp only[bR.pop,bR.ej,bR.at_,bR.two,ez,gL,bJ,aB])
 ·exact G.go _ (ad.p1 aP 1 (v.aA+1) S v.fail _ (by simp)) rfl (by rw[Iy cO,if_neg (by show ¬ ¬(0<=i.a/\i.a<v.loc.length);omega),if_neg (by rw[aa];decide),if_pos (by show 1<=v.aO.length;omega)];simp only[bR.pop,bR.ej,bR.at_,bR.two,ez,gL,bJ,aB])
 ·by_cases aj:0<=i.a/\i.a<v.aM
  ·rcases h with h|⟨aa,ag⟩
   ·exact absurd aj h
   ·exact G.err (by rw[Iy cO,if_neg (by show ¬ ¬(0<=i.a/\i.a<v.loc.length);omega),if_neg (by rw[aa];decide),if_neg (by show ¬1<=v.aO.length;omega)])
  ·exact G.err (by rw[Iy cO,if_pos (by show ¬(0<=i.a/\i.a<v.loc.length);omega)])
theorem ag0(ad:eO k v)(aP:lE k v)(cO:i.op=4)(G:nI H w0 X M K Z k v bm cW i):ay Tryz.prog (Y H w0 X (cb k v bJ bm M)) 173 #[ae bm,nX i] K Z:=by
 have aB:=ad.ns
 have ai:=ad.aM
 have U:=ad.a5
 have ml:=ad.aA
 have ll:=aP.aA
 refine akS ad _ _ _ _ (fun O V=>?_) (fun h=>?_)
 ·exact G.ask _ _ (ad.plain aP (v.aA+1) S) (qT _ rfl rfl rfl) (show(1:Int)≠0 by decide) (by rw[S7 cO,if_pos ⟨O,V⟩];simp only[bR.pop,bR.ej,bR.at_,bR.two,ez,gL,bJ,aB])
 ·exact G.err (by rw[S7 cO,if_neg h])
theorem ag1(ad:eO k v)(aP:lE k v)(cO:i.op=5)(G:nI H w0 X M K Z k v bm cW i):ay Tryz.prog (Y H w0 X (cb k v bJ bm M)) 174 #[ae bm,nX i] K Z:=by
 have aB:=ad.ns
 have ai:=ad.aM
 have U:=ad.a5
 have ml:=ad.aA
 have ll:=aP.aA
 refine aqN ad _ _ _ _ (fun O V aa=>?_) (fun h=>?_)
 ·exact G.ask _ _ (ad.p1 aP 1 (v.aA+1) S v.fail v.loc rfl) (qT _ rfl rfl rfl) (show(2:Int)≠0 by decide) (by rw[S8 cO,if_pos ⟨⟨O,V⟩,(by show 1<=v.aO.length;omega)⟩];simp only[bR.pop,bR.ej,bR.at_,bR.two,ez,gL,bJ,aB])
 ·exact G.err (by rw[S8 cO,if_neg (by show ¬((0<=i.a/\i.a<k.bB)/\1<=v.aO.length);omega)])
theorem ag2(ad:eO k v)(aP:lE k v)(cO:i.op=6)(cj:Nat)(jY:(ae cj,aY.cs 164 [.func (.func 176) #[] #[]])∈M)(G:nI H w0 X M K Z k v bm cW i):ay Tryz.prog (Y H w0 X (cb k v bJ bm M)) 242 #[ae bm,nX i,ae cj] K Z:=by
 have aB:=ad.ns
 have ai:=ad.aM
 have U:=ad.a5
 have ml:=ad.aA
 have ll:=aP.aA
 refine aaX ad _ _ _ _ cj jY (fun O aR aN ag a6=>?_) (fun h=>?_)
 ·exact G.go _ (ad.zL aP _ O ag a6) rfl (by rw[S9 cO,bR.two,if_pos (by show 2<=v.aO.length;omega)];simp only[bR.pop,bR.ej,bR.at_,bR.two,ez,gL,bJ,aB])
 ·exact G.err (by rw[S9 cO,bR.two,if_neg (by show ¬2<=v.aO.length;omega)])
theorem ag3(ad:eO k v)(aP:lE k v)(cO:i.op=7)(cj:Nat)(jY:(ae cj,aY.cs 164 [.func (.func 178) #[] #[]])∈M)(G:nI H w0 X M K Z k v bm cW i):ay Tryz.prog (Y H w0 X (cb k v bJ bm M)) 242 #[ae bm,nX i,ae cj] K Z:=by
 have aB:=ad.ns
 have ai:=ad.aM
 have U:=ad.a5
 have ml:=ad.aA
 have ll:=aP.aA
 refine aqR ad _ _ _ _ cj jY (fun O aR aN ag a6=>?_) (fun h=>?_)
 ·exact G.go _ (ad.zL aP _ O ag a6) rfl (by rw[Ta cO,bR.two,if_pos (by show 2<=v.aO.length;omega)];simp only[bR.pop,bR.ej,bR.at_,bR.two,ez,gL,bJ,aB])
 ·exact G.err (by rw[Ta cO,bR.two,if_neg (by show ¬2<=v.aO.length;omega)])
theorem ag4(ad:eO k v)(aP:lE k v)(cO:i.op=8)(cj:Nat)(jY:(ae cj,aY.cs 164 [.func (.func 179) #[] #[]])∈M)(G:nI H w0 X M K Z k v bm cW i):ay Tryz.prog (Y H w0 X (cb k v bJ bm M)) 242 #[ae bm,nX i,ae cj] K Z:=by
 have aB:=ad.ns
 have ai:=ad.aM
 have U:=ad.a5
 have ml:=ad.aA
 have ll:=aP.aA
 refine aly ad _ _ _ _ cj jY (fun O aR aN ag a6=>?_) (fun h=>?_)
 ·exact G.go _ (ad.zL aP _ O ag a6) rfl (by rw[Tb cO,bR.two,if_pos (by show 2<=v.aO.length;omega)];simp only[bR.pop,bR.ej,bR.at_,bR.two,ez,gL,bJ,aB])
 ·exact G.err (by rw[Tb cO,bR.two,if_neg (by show ¬2<=v.aO.length;omega)])
theorem agX(ad:eO k v)(aP:lE k v)(cO:i.op=19)(cj:Nat)(jY:(ae cj,aY.cs 164 [.func (.func 191) #[] #[]])∈M)(G:nI H w0 X M K Z k v bm cW i):ay Tryz.prog (Y H w0 X (cb k v bJ bm M)) 242 #[ae bm,nX i,ae cj] K Z:=by
 have aB:=ad.ns
 have ai:=ad.aM
 have U:=ad.a5
 have ml:=ad.aA
 have ll:=aP.aA
 refine ae2 ad _ _ _ _ cj jY (fun O aR aN ag a6=>?_) (fun h=>?_)
 ·exact G.go _ (ad.zL aP _ O ag a6) rfl (by rw[S6 cO,bR.two,if_pos (by show 2<=v.aO.length;omega)];simp only[bR.pop,bR.ej,bR.at_,bR.two,ez,gL,bJ,aB])
 ·exact G.err (by rw[S6 cO,bR.two,if_neg (by show ¬2<=v.aO.length;omega)])
theorem ag5(ad:eO k v)(aP:lE k v)(cO:i.op=9)(cj:Nat)(jY:(ae cj,aY.cs 164 [.func (.func 180) #[] #[]])∈M)(G:nI H w0 X M K Z k v bm cW i):ay Tryz.prog (Y H w0 X (cb k v bJ bm M)) 242 #[ae bm,nX i,ae cj] K Z:=by
 have aB:=ad.ns
 have ai:=ad.aM
 have U:=ad.a5
 have ml:=ad.aA
 have ll:=aP.aA
 refine akK ad _ _ _ _ cj jY (fun O V aR aN ag a6=>?_) (fun O V aR aN ag a6=>?_) (fun h=>?_)
 ·exact G.go _ (ad.zL aP _ O ag a6) rfl (by have aa:((ez v).at_ 2 0<(ez v).at_ 2 1):=(by simp only[bR.at_,ez,<-aB];exact V);rw[Nh cO,bR.two,if_pos (by show 2<=v.aO.length;omega),if_pos aa];simp only[bR.pop,bR.ej,bR.at_,bR.two,ez,gL,bJ,aB])
 ·exact G.go _ (ad.zL aP _ O ag a6) rfl (by have aa:¬((ez v).at_ 2 0<(ez v).at_ 2 1):=(by simp only[bR.at_,ez,<-aB];exact V);rw[Nh cO,bR.two,if_pos (by show 2<=v.aO.length;omega),if_neg aa];simp only[bR.pop,bR.ej,bR.at_,bR.two,ez,gL,bJ,aB])
 ·exact G.err (by rw[Nh cO,bR.two,if_neg (by show ¬2<=v.aO.length;omega)])
theorem agO(ad:eO k v)(aP:lE k v)(cO:i.op=10)(cj:Nat)(jY:(ae cj,aY.cs 164 [.func (.func 182) #[] #[]])∈M)(G:nI H w0 X M K Z k v bm cW i):ay Tryz.prog (Y H w0 X (cb k v bJ bm M)) 242 #[ae bm,nX i,ae cj] K Z:=by
 have aB:=ad.ns
 have ai:=ad.aM
 have U:=ad.a5
 have ml:=ad.aA
 have ll:=aP.aA
 refine adC ad _ _ _ _ cj jY (fun O V aR aN ag a6=>?_) (fun O V aR aN ag a6=>?_) (fun h=>?_)
 ·exact G.go _ (ad.zL aP _ O ag a6) rfl (by have aa:((ez v).at_ 2 0=(ez v).at_ 2 1):=(by simp only[bR.at_,ez,<-aB];exact V);rw[Nb cO,bR.two,if_pos (by show 2<=v.aO.length;omega),if_pos aa];simp only[bR.pop,bR.ej,bR.at_,bR.two,ez,gL,bJ,aB])
 ·exact G.go _ (ad.zL aP _ O ag a6) rfl (by have aa:¬((ez v).at_ 2 0=(ez v).at_ 2 1):=(by simp only[bR.at_,ez,<-aB];exact V);rw[Nb cO,bR.two,if_pos (by show 2<=v.aO.length;omega),if_neg aa];simp only[bR.pop,bR.ej,bR.at_,bR.two,ez,gL,bJ,aB])
 ·exact G.err (by rw[Nb cO,bR.two,if_neg (by show ¬2<=v.aO.length;omega)])
theorem agQ(ad:eO k v)(aP:lE k v)(cO:i.op=12)(G:nI H w0 X M K Z k v bm cW i):ay Tryz.prog (Y H w0 X (cb k v bJ bm M)) 184 #[ae bm,nX i] K Z:=by
 have aB:=ad.ns
 have ai:=ad.aM
 have U:=ad.a5
 have ml:=ad.aA
 have ll:=aP.aA
 refine adb ad _ _ _ _ (fun O=>?_) (fun h=>?_)
 ·exact G.go _ (ad.p1 aP 1 (v.aA+1) S v.fail v.loc rfl) rfl (by rw[S3 cO,if_pos (by show 1<=v.aO.length;omega)];simp only[bR.pop,bR.ej,bR.at_,bR.two,ez,gL,bJ,aB])
 ·exact G.err (by rw[S3 cO,if_neg (by show ¬1<=v.aO.length;omega)])
theorem agS(ad:eO k v)(aP:lE k v)(cO:i.op=14)(G:nI H w0 X M K Z k v bm cW i):ay Tryz.prog (Y H w0 X (cb k v bJ bm M)) 186 #[ae bm,nX i] K Z:=by
 have aB:=ad.ns
 have ai:=ad.aM
 have U:=ad.a5
 have ml:=ad.aA
 have ll:=aP.aA
 refine aqU ad _ _ _ _ (fun O=>?_) (fun O=>?_)
 ·exact G.ask _ _ ad (qT _ rfl rfl rfl) (show(5:Int)≠0 by decide) (by rw[S4 cO,if_pos O];simp only[bR.pop,bR.ej,bR.at_,bR.two,ez,gL,bJ,aB])
 ·exact G.go _ (ad.plain aP (v.aA+1) S) rfl (by rw[S4 cO,if_neg S];simp only[bR.pop,bR.ej,bR.at_,bR.two,ez,gL,bJ,aB])
theorem agT(ad:eO k v)(aP:lE k v)(cO:i.op=15)(G:nI H w0 X M K Z k v bm cW i):ay Tryz.prog (Y H w0 X (cb k v bJ bm M)) 187 #[ae bm,nX i] K Z:=by
 have aB:=ad.ns
 have ai:=ad.aM
 have U:=ad.a5
 have ml:=ad.aA
 have ll:=aP.aA
 refine ahw ad _ _ _ _ (fun O V=>?_) (fun h=>?_)
 ·exact G.go _ (ad.plain aP i.a (by have:=aP.b6;omega)) rfl (by rw[S5 cO,if_pos ⟨O,V⟩];simp only[bR.pop,bR.ej,bR.at_,bR.two,ez,gL,bJ,aB])
 ·exact G.err (by rw[S5 cO,if_neg h])
theorem agU(ad:eO k v)(aP:lE k v)(cO:i.op=16)(G:nI H w0 X M K Z k v bm cW i):ay Tryz.prog (Y H w0 X (cb k v bJ bm M)) 188 #[ae bm,nX i] K Z:=by
 have aB:=ad.ns
 have ai:=ad.aM
 have U:=ad.a5
 have ml:=ad.aA
 have ll:=aP.aA
 refine at7 ad _ _ _ _ (fun O V aa ag=>?_) (fun O V aa ag=>?_) (fun h=>?_)
 ·exact G.go _ (ad.p1 aP 1 i.a (by have:=aP.b6;omega) v.fail v.loc rfl) rfl (by rw[Nd cO,if_pos ⟨⟨O,V⟩,(by show 1<=v.aO.length;omega)⟩,if_pos (by simp only[aB] at ag;exact ag)];simp only[bR.pop,bR.ej,bR.at_,bR.two,ez,gL,bJ,aB])
 ·exact G.go _ (ad.p1 aP 1 (v.aA+1) S v.fail v.loc rfl) rfl (by rw[Nd cO,if_pos ⟨⟨O,V⟩,(by show 1<=v.aO.length;omega)⟩,if_neg (by simp only[aB] at ag;exact ag)];simp only[bR.pop,bR.ej,bR.at_,bR.two,ez,gL,bJ,aB])
 ·exact G.err (by rw[Nd cO,if_neg (by show ¬((0<=i.a/\i.a<k.b6)/\1<=v.aO.length);omega)])
theorem agV(ad:eO k v)(aP:lE k v)(cO:i.op=17)(G:nI H w0 X M K Z k v bm cW i):ay Tryz.prog (Y H w0 X (cb k v bJ bm M)) 189 #[ae bm,nX i] K Z:=by
 have aB:=ad.ns
 have ai:=ad.aM
 have U:=ad.a5
 have ml:=ad.aA
 have ll:=aP.aA
 refine adx ad _ _ _ _ (fun O=>?_) (fun O V=>?_) (fun h=>?_)
 ·exact G.ask _ _ ad (qT _ rfl rfl rfl) (show(5:Int)≠0 by decide) (by rw[Nf cO,if_pos O];simp only[bR.pop,bR.ej,bR.at_,bR.two,ez,gL,bJ,aB])
 ·exact G.ask _ _ (ad.p1 aP 1 (v.aA+1) S v.fail v.loc rfl) (qT _ rfl rfl rfl) (show(6:Int)≠0 by decide) (by rw[Nf cO,if_neg S,if_pos (by show 1<=v.aO.length;omega)];simp only[bR.pop,bR.ej,bR.at_,bR.two,ez,gL,bJ,aB])
 ·exact G.err (by rw[Nf cO,if_neg S,if_neg (by show ¬1<=v.aO.length;omega)])
theorem agW(ad:eO k v)(aP:lE k v)(cO:i.op=18)(G:nI H w0 X M K Z k v bm cW i):ay Tryz.prog (Y H w0 X (cb k v bJ bm M)) 190 #[ae bm,nX i] K Z:=by
 have aB:=ad.ns
 have ai:=ad.aM
 have U:=ad.a5
 have ml:=ad.aA
 have ll:=aP.aA
 refine abi ad _ _ _ _ (fun O V=>?_) (fun O V=>?_) (fun h=>?_)
 ·exact G.go _ (ad.p1 aP 1 (v.aA+1) S true v.loc rfl) rfl (by rw[Ng cO,if_pos (by show 1<=v.aO.length;omega),if_pos (by simp only[aB] at V;exact V)];simp only[bR.pop,bR.ej,bR.at_,bR.two,ez,gL,bJ,aB])
 ·exact G.go _ (ad.p1 aP 1 (v.aA+1) S v.fail v.loc rfl) rfl (by rw[Ng cO,if_pos (by show 1<=v.aO.length;omega),if_neg (by simp only[aB] at V;exact V)];simp only[bR.pop,bR.ej,bR.at_,bR.two,ez,gL,bJ,aB])
 ·exact G.err (by rw[Ng cO,if_neg (by show ¬1<=v.aO.length;omega)])
theorem agP(ad:eO k v)(aP:lE k v)(cO:i.op=11)(G:nI H w0 X M K Z k v bm cW i):ay Tryz.prog (Y H w0 X (cb k v bJ bm M)) 183 #[ae bm,nX i] K Z:=by
 have aB:=ad.ns
 have ml:=ad.aA
 have ll:=aP.aA
 obtain⟨op,a,b,c⟩:=i
 simp only at cO
 subst cO
 by_cases a8:a=1
 ·subst a8
  refine abL ad _ _ _ (fun O V aa ag=>?_) (fun h=>?_)
  ·have O:0<=b:=O
   have V:b<k.maps:=V
   have aa:c=1:=aa
   exact G.ask _ _ (ad.p1 aP 1 (v.aA+1) S v.fail v.loc rfl) (qT _ rfl rfl rfl) (show(3:Int)≠0 by decide) (by rw[qE rfl,if_pos rfl,ij,if_pos (by show 0<=b/\b<k.maps/\c=((1:Nat):Int)/\1<=v.aO.length;omega)];simp only[ij,bR.pop,bR.ej,ez,gL,bJ,aB,dm,cZ,dH])
  ·have h:¬(0<=b/\b<k.maps/\c=1/\1<=v.ns):=h
   exact G.err (by rw[qE rfl,if_pos rfl,ij,if_neg (by show ¬(0<=b/\b<k.maps/\c=((1:Nat):Int)/\1<=v.aO.length);omega)])
 by_cases a8:a=2
 ·subst a8
  refine abM ad _ _ _ (fun O V aa ag=>?_) (fun h=>?_)
  ·have O:0<=b:=O
   have V:b<k.maps:=V
   have aa:c=2:=aa
   exact G.ask _ _ (ad.p1 aP 2 (v.aA+1) S v.fail v.loc rfl) (qT _ rfl rfl rfl) (show(3:Int)≠0 by decide) (by rw[qE rfl,if_neg (show ¬((2:Int)=1) by decide),if_pos rfl,ij,if_pos (by show 0<=b/\b<k.maps/\c=((2:Nat):Int)/\2<=v.aO.length;omega)];simp only[ij,bR.pop,bR.ej,ez,gL,bJ,aB,dm,cZ,dH])
  ·have h:¬(0<=b/\b<k.maps/\c=2/\2<=v.ns):=h
   exact G.err (by rw[qE rfl,if_neg (show ¬((2:Int)=1) by decide),if_pos rfl,ij,if_neg (by show ¬(0<=b/\b<k.maps/\c=((2:Nat):Int)/\2<=v.aO.length);omega)])
 by_cases a8:a=3
 ·subst a8
  refine abN ad _ _ _ (fun O V aa ag=>?_) (fun h=>?_)
  ·have O:0<=b:=O
   have V:b<k.maps:=V
   have aa:c=1:=aa
   exact G.ask _ _ (ad.p1 aP 1 (v.aA+1) S v.fail v.loc rfl) (qT _ rfl rfl rfl) (show(3:Int)≠0 by decide) (by rw[qE rfl,if_neg (show ¬((3:Int)=1) by decide),if_neg (show ¬((3:Int)=2) by decide),if_pos rfl,ij,if_pos (by show 0<=b/\b<k.maps/\c=((1:Nat):Int)/\1<=v.aO.length;omega)];simp only[ij,bR.pop,bR.ej,ez,gL,bJ,aB,dm,cZ,dH])
  ·have h:¬(0<=b/\b<k.maps/\c=1/\1<=v.ns):=h
   exact G.err (by rw[qE rfl,if_neg (show ¬((3:Int)=1) by decide),if_neg (show ¬((3:Int)=2) by decide),if_pos rfl,ij,if_neg (by show ¬(0<=b/\b<k.maps/\c=((1:Nat):Int)/\1<=v.aO.length);omega)])
 by_cases a8:a=4
 ·subst a8
  refine abO ad _ _ _ (fun O V aa ag=>?_) (fun h=>?_)
  ·have O:0<=b:=O
   have V:b<k.dj:=V
   have aa:c=1:=aa
   exact G.ask _ _ (ad.p1 aP 1 (v.aA+1) S v.fail v.loc rfl) (qT _ rfl rfl rfl) (show(3:Int)≠0 by decide) (by rw[qE rfl,if_neg (show ¬((4:Int)=1) by decide),if_neg (show ¬((4:Int)=2) by decide),if_neg (show ¬((4:Int)=3) by decide),if_pos rfl,ij,if_pos (by show 0<=b/\b<k.dj/\c=((1:Nat):Int)/\1<=v.aO.length;omega)];simp only[ij,bR.pop,bR.ej,ez,gL,bJ,aB,dm,cZ,dH])
  ·have h:¬(0<=b/\b<k.dj/\c=1/\1<=v.ns):=h
   exact G.err (by rw[qE rfl,if_neg (show ¬((4:Int)=1) by decide),if_neg (show ¬((4:Int)=2) by decide),if_neg (show ¬((4:Int)=3) by decide),if_pos rfl,ij,if_neg (by show ¬(0<=b/\b<k.dj/\c=((1:Nat):Int)/\1<=v.aO.length);omega)])
 by_cases a8:a=5
 ·subst a8
  refine abP ad _ _ _ (fun O V aa ag=>?_) (fun h=>?_)
  ·have O:0<=b:=O
   have V:b<k.dj:=V
   have aa:c=0:=aa
   exact G.ask _ _ (ad.p1 aP 0 (v.aA+1) S v.fail v.loc rfl) (qT _ rfl rfl rfl) (show(3:Int)≠0 by decide) (by rw[qE rfl,if_neg (show ¬((5:Int)=1) by decide),if_neg (show ¬((5:Int)=2) by decide),if_neg (show ¬((5:Int)=3) by decide),if_neg (show ¬((5:Int)=4) by decide),if_pos rfl,ij,if_pos (by show 0<=b/\b<k.dj/\c=((0:Nat):Int)/\0<=v.aO.length;omega)];simp only[ij,bR.pop,bR.ej,ez,gL,bJ,aB,dm,cZ,dH])
  ·have h:¬(0<=b/\b<k.dj/\c=0/\0<=v.ns):=h
   exact G.err (by rw[qE rfl,if_neg (show ¬((5:Int)=1) by decide),if_neg (show ¬((5:Int)=2) by decide),if_neg (show ¬((5:Int)=3) by decide),if_neg (show ¬((5:Int)=4) by decide),if_pos rfl,ij,if_neg (by show ¬(0<=b/\b<k.dj/\c=((0:Nat):Int)/\0<=v.aO.length);omega)])
 by_cases a8:a=6
 ·subst a8
  refine abQ ad _ _ _ (fun O V aa ag=>?_) (fun h=>?_)
  ·have O:0<=b:=O
   have V:b<k.cF:=V
   have aa:c=1:=aa
   exact G.ask _ _ (ad.p1 aP 1 (v.aA+1) S v.fail v.loc rfl) (qT _ rfl rfl rfl) (show(3:Int)≠0 by decide) (by rw[qE rfl,if_neg (show ¬((6:Int)=1) by decide),if_neg (show ¬((6:Int)=2) by decide),if_neg (show ¬((6:Int)=3) by decide),if_neg (show ¬((6:Int)=4) by decide),if_neg (show ¬((6:Int)=5) by decide),if_pos rfl,ij,if_pos (by show 0<=b/\b<k.cF/\c=((1:Nat):Int)/\1<=v.aO.length;omega)];simp only[ij,bR.pop,bR.ej,ez,gL,bJ,aB,dm,cZ,dH])
  ·have h:¬(0<=b/\b<k.cF/\c=1/\1<=v.ns):=h
   exact G.err (by rw[qE rfl,if_neg (show ¬((6:Int)=1) by decide),if_neg (show ¬((6:Int)=2) by decide),if_neg (show ¬((6:Int)=3) by decide),if_neg (show ¬((6:Int)=4) by decide),if_neg (show ¬((6:Int)=5) by decide),if_pos rfl,ij,if_neg (by show ¬(0<=b/\b<k.cF/\c=((1:Nat):Int)/\1<=v.aO.length);omega)])
 by_cases a8:a=7
 ·subst a8
  refine abR ad _ _ _ (fun O V aa ag=>?_) (fun h=>?_)
  ·have O:0<=b:=O
   have V:b<k.cF:=V
   have aa:c=0:=aa
   exact G.ask _ _ (ad.p1 aP 0 (v.aA+1) S v.fail v.loc rfl) (qT _ rfl rfl rfl) (show(3:Int)≠0 by decide) (by rw[qE rfl,if_neg (show ¬((7:Int)=1) by decide),if_neg (show ¬((7:Int)=2) by decide),if_neg (show ¬((7:Int)=3) by decide),if_neg (show ¬((7:Int)=4) by decide),if_neg (show ¬((7:Int)=5) by decide),if_neg (show ¬((7:Int)=6) by decide),if_pos rfl,ij,if_pos (by show 0<=b/\b<k.cF/\c=((0:Nat):Int)/\0<=v.aO.length;omega)];simp only[ij,bR.pop,bR.ej,ez,gL,bJ,aB,dm,cZ,dH])
  ·have h:¬(0<=b/\b<k.cF/\c=0/\0<=v.ns):=h
   exact G.err (by rw[qE rfl,if_neg (show ¬((7:Int)=1) by decide),if_neg (show ¬((7:Int)=2) by decide),if_neg (show ¬((7:Int)=3) by decide),if_neg (show ¬((7:Int)=4) by decide),if_neg (show ¬((7:Int)=5) by decide),if_neg (show ¬((7:Int)=6) by decide),if_pos rfl,ij,if_neg (by show ¬(0<=b/\b<k.cF/\c=((0:Nat):Int)/\0<=v.aO.length);omega)])
 refine acb ad _ _ _ _ ⟨by assumption,by assumption,by assumption,by assumption,by assumption,by assumption,by assumption⟩ ?_
 exact G.err (by rw[qE rfl,if_neg av,if_neg av,if_neg av,if_neg av,if_neg av,if_neg av,if_neg av])
theorem agR(ad:eO k v)(aP:lE k v)(EU:List Int)(gY:∀i,i<k.aX->∃dK o,k.bS=some ⟨dK,o,none⟩/\H.cell? ⟨dK,o+i*3,none⟩=some (J (EU.getD i 0)))(afq:∀a,cW a=EU.getD a.toNat 0)(cO:i.op=13)(G:nI H w0 X M K Z k v bm cW i):ay Tryz.prog (Y H w0 X (cb k v bJ bm M)) 185 #[ae bm,nX i] K Z:=by
 have aB:=ad.ns
 have ai:=ad.aM
 have ml:=ad.aA
 have ll:=aP.aA
 obtain⟨op,a,b,c⟩:=i
 simp only at cO
 subst cO
 by_cases ab:b<0
 ·exact aqb ad _ _ _ _ ab (G.err (by rw[Nc rfl,if_neg (by show ¬(0<=b/\_);omega)]))
 ·obtain⟨kf,rfl⟩:=uc (show 0<=b by omega)
  have e:=afq a
  refine aqa ad _ _ _ kf EU gY (fun O V aa ag a6 aR aN bU dh=>?_) (fun h=>?_)
  ·have O:0<=a:=O
   have V:a<k.aX:=V
   have aa:c= -1\/0<=c/\c<v.aM:=aa
   have ag:(kf:Int)=EU.getD a.toNat 0:=ag
   refine G.ask _ _ (ad.p1 aP kf (v.aA+1) S v.fail v.loc rfl) ⟨by show kf=(v.aO.drop (v.ns-kf)).length;simp;omega,bU,dh⟩ (show(4:Int)≠0 by decide) ?_
   rw[Nc rfl,if_pos (by show 0<=(kf:Int)/\(0<=a/\a<k.aX)/\(c= -1\/0<=c/\c<v.loc.length)/\(kf:Int)=cW a/\(kf:Int)<=v.aO.length;omega)]
   simp only[bR.pop,bR.ej,ez,gL,bJ,aB,r8]
  ·have h:¬(0<=a/\a<k.aX)\/¬(c= -1\/0<=c/\c<v.aM)\/(kf:Int)≠EU.getD a.toNat 0\/¬kf<=v.ns:=h
   exact G.err (by rw[Nc rfl,if_neg (by show ¬(0<=(kf:Int)/\(0<=a/\a<k.aX)/\(c= -1\/0<=c/\c<v.loc.length)/\(kf:Int)=cW a/\(kf:Int)<=v.aO.length);omega)])
end
end Go.Proofs.YtcflcebplhdcpaaGreat
