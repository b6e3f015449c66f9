/- Lemmas, part 31; each states its own conditions. -/
import Derived.Test.YtcflcebplhdcpaaGreatL26
import Derived.Test.YtcflcebplhdcpaaGreatL30
namespace Go.Proofs.YtcflcebplhdcpaaGreat
open Go.RowKit
set_option linter.unusedSimpArgs false
set_option linter.unusedVariables false
set_option maxRecDepth 100000
set_option maxHeartbeats 16000000
variable{H w0:World}{X:Nat->Prop}{M:aw}{K:Value->an->Prop}{Z:bF}
theorem PS {P:Prop} (h:P:=by
 repeat'((first
  |(show ay _ _ _ _ _ _;first|(refine JT (t:=t) (M:=M) aB (fun ei o0 o1 aQ bl a8 aU=>?_))|(refine u9 dM (fun i hi Sp=>?_) (fun lK=>?_))|(refine Xb (t:=t) (M:=M) (fs:=fs) (task:=i+1) (f:=fs[i]) aj dM (fun E a2=>a2.jR (dM.each _ (fM hi))) S S (fun e af=>?_) (fun g q dE o0 o1 aQ bl b n aE e6 kn=>?_))|(refine gd To ?_;intro be bM)|(refine JQ (t:={t with s:=II t.s t.u.val}) (M:=M) (f:=fs[i]) (dM.each _ (fM hi)).kids (my _) (fun AZ o5 Mz=>?_) (fun sD=>?_);(have afG:AZ=0:=by omega);subst afG))
  |(show bk _ _ _ _;first|(refine QO ?_))
  |(refine ba.Ni ?_ ?_;(focus(exact hi)))
  |(exact cA (O S ei o0 o1 aQ bl a8 aU))
  |(exact hD (V S lK))
  |(exact cA (aa i hi Sp o5))
  |(exact hD (ag i hi Sp S))
  |(rw[BG,if_pos rfl] at U;exact cA U)
  |(rw[BG,if_neg bC,if_pos S] at U;exact cA U)
  |(rw[BG,if_neg bC,if_neg S] at U;exact cA U)
  |(exact cA (O ab ei o0 o1 aQ bl a8 aU))
  |(exact hD (V ab lK))
  |(exact hD (aa ab i hi S e af))
  |(exact cA (ag ab i hi S g q dE o0 o1 aQ bl b n aE e6 kn))
  |refine eg ?_
  |(refine eh ?_ ?_<;>(try with_reducible intro ab)<;>(try(exfalso;omega)))
  |with_reducible intro r)<;>(try conv=>whnf))):P:=h
section
variable{t:l8}{bO:Nat}{fs:List a3}
theorem arv (aB:1<=t.la.bt/\t.la.bt<=8) (aj:hP H t.c) (dM:gM H t.bS t.aX t.bb fs) (aT:fs.length<=1000)
  (O:t.u.eG=false->∀ei o0 o1 aQ bl,ei=rl t.la.bt 0->qY t.la.bt t.a1 t.dP ei=⟨o0,o1,aQ,bl⟩->K (.tuple #[]) (Y H w0 X (dy {t with s:=xS t.s ei ⟨o0,o1,aQ,bl⟩} bO M)))
  (V:t.u.eG=true->¬(1<=t.s.task/\t.s.task<=fs.length)->Z (lQ 1 0) (Y H w0 X (dy t bO M)))
  (aa:t.u.eG=true->∀i (h:i<fs.length),t.s.task=((i+1:Nat):Int)->∀e,(iB t.c fs[i]=false/\e=1\/iB t.c fs[i]=true/\jh t.c fs[i]= .err e)->Z (lQ e 0) (Y H w0 X (dy t bO M)))
  (ag:t.u.eG=true->∀i (h:i<fs.length),t.s.task=((i+1:Nat):Int)->∀g q dE o0 o1 aQ bl b n aE,r7 aE fs (i+1) t.c fs[i] g q b n->kC t.s q fs[i].task=⟨dE,o0,o1,aQ,bl⟩->K (.tuple #[]) (Y H w0 X (dy {t with s:=kD t.s q ⟨dE,o0,o1,aQ,bl⟩,bS:=some ⟨b,0,none⟩,aX:=n,bb:=n} bO (aE++M)))):
  ay Tryz.prog (Y H w0 X (dy t bO M)) 148 #[ae bO] K Z:=by
 refine a7 ahG ?_
 intro az aF
 conv=>whnf
 exact PS
def BG(o0 val:Int)(i:Bool):Int:=if i=false then 0 else if o0=1\/o0=5\/o0=7 then IntKind.i64.wrap (val+1)%4294967296 else 1
theorem PH{o0 o1 aQ bl val:Int}{i:Bool}(U:K (J (BG o0 val i)) (Y H w0 X M)):a4 H w0 X M 221 #[.agg #[J o0,J o1,J aQ,J bl],J val,.bool i] K Z:=by
 refine a7 aii ?_
 intro az aF
 cases i
 all_goals conv=>whnf
 all_goals exact PS
def wh(t:l8):List Int:=if t.s.o0=17 then [t.u.val] else if t.s.o0=18 then [] else [BG t.s.o0 t.u.val t.u.eG]
theorem ar4 {i:Nat} (hi:i<fs.length) (aj:hP H t.c) (dM:gM H t.bS t.aX t.bb fs) (rA:fs[i].a5<=999999/\fs[i].ns<=999999) (bs:t.s.task=((i+1:Nat):Int)) (aT:i<1000) (aU:t.s.o0=17)
  (O:∀e,x8 t.c fs[i] t.s.hN t.s.gZ (wh t) e->Z (lQ e 0) (Y H w0 X (dy t bO M)))
  (V:∀fb g q dE o0 o1 aQ bl b n aE,s7 fs[i] t.s.hN t.s.gZ (wh t) fb->r7 aE fs (i+1) t.c fb g q b n->kC t.s q fb.task=⟨dE,o0,o1,aQ,bl⟩->K (.tuple #[]) (Y H w0 X (dy {t with s:=kD t.s q ⟨dE,o0,o1,aQ,bl⟩,bS:=some ⟨b,0,none⟩,aX:=n,bb:=n} bO (aE++M)))):
  ay Tryz.prog (Y H w0 X (dy t bO M)) 146 #[ae bO] K Z:=by
 rw[wh,if_pos aU] at O V
 refine a7 IE ?_
 intro az aF
 conv=>whnf
 repeat'((first
  |(show _/\_;first|(refine⟨by rfl,fun a0=>?_⟩)|(refine And.intro ?_ ?_)|(refine⟨by rfl,fun a0=>?_⟩))
  |(show eS _ _;first|(refine eS.go ?_))
  |(show ay _ _ _ _ _ _;first|((refine u9 dM (fun j a9 xp=>?_) (fun sD=>?_);(have iq:j=i:=by omega);subst iq))|(refine PH ?_)|(refine ay.imp (aJ.perm (kO _ _ _)) (BA (t:=t) (M:=_::M) (fs:=fs) (task:=j+1) (f:=fs[j]) (hZ:=_) (cJ:=_) (h4:=_) (vs:=[t.u.val]) aj dM (fun E a2=>a2.jR (dM.each _ (fM a9))) (fun E a2=>a2.kg (t:=3) (List.Mem.head _) bC) rA bs S (fun e af=>?_) (fun fb g q dE o0 o1 aQ bl b n aE bX e6 kn=>?_))))
  |(show bk _ _ _ _;first|(refine hb gK W ?_)|(refine uS ?_)|(refine IM ?_))
  |(show eB _ _ _ _;first|(refine st ?_))
  |(refine hy.go ?_)
  |(refine pE.go ?_)
  |(exact k1 (O _ af) cn)
  |(exact cd.drop (K:=K) _ (.cons_cons _ ((List.Sublist.refl aE).append (.cons _ (.refl _)))) (V fb g q dE o0 o1 aQ bl b n aE bX e6 kn))
  |(exact cd.drop (K:=K) _ (List.Sublist.refl _) (V fb g q dE o0 o1 aQ bl b n aE bX e6 kn))
  |(refine ba.dec (fun ab=>?_) (fun ab=>?_)<;>try(exfalso;omega))
  |(refine ba.v7 (fun ab=>?_) (fun ab=>?_)<;>try(exfalso;omega))
  |(refine ba.sk (fun ab=>?_) (fun ab=>?_)<;>try(exfalso;omega))
  |(refine ba.sM (fun ab=>?_) (fun ab=>?_)<;>try(exfalso;omega))
  |(intro r jN)
  |(refine ba.Uy (fun ab=>?_) (fun ab=>?_))
  |(refine ba.intro (fun ab=>?_) (fun ab=>?_))
  |((exfalso;omega)))<;>(try conv=>whnf))
theorem ar5 {i:Nat} (hi:i<fs.length) (aj:hP H t.c) (dM:gM H t.bS t.aX t.bb fs) (rA:fs[i].a5<=999999/\fs[i].ns<=999999) (bs:t.s.task=((i+1:Nat):Int)) (aT:i<1000) (aU:t.s.o0=18)
  (O:∀e,x8 t.c fs[i] t.s.hN t.s.gZ (wh t) e->Z (lQ e 0) (Y H w0 X (dy t bO M)))
  (V:∀fb g q dE o0 o1 aQ bl b n aE,s7 fs[i] t.s.hN t.s.gZ (wh t) fb->r7 aE fs (i+1) t.c fb g q b n->kC t.s q fb.task=⟨dE,o0,o1,aQ,bl⟩->K (.tuple #[]) (Y H w0 X (dy {t with s:=kD t.s q ⟨dE,o0,o1,aQ,bl⟩,bS:=some ⟨b,0,none⟩,aX:=n,bb:=n} bO (aE++M)))):
  ay Tryz.prog (Y H w0 X (dy t bO M)) 146 #[ae bO] K Z:=by
 rw[wh,if_neg S,if_pos aU] at O V
 refine a7 IE ?_
 intro az aF
 conv=>whnf
 repeat'((first
  |(show _/\_;first|(refine⟨by rfl,fun a0=>?_⟩)|(refine And.intro ?_ ?_)|(refine⟨by rfl,fun a0=>?_⟩))
  |(show eS _ _;first|(refine eS.go ?_))
  |(show ay _ _ _ _ _ _;first|((refine u9 dM (fun j a9 xp=>?_) (fun sD=>?_);(have iq:j=i:=by omega);subst iq))|(refine PH ?_)|(refine BA (t:=t) (M:=M) (fs:=fs) (task:=j+1) (f:=fs[j]) (hZ:=none) (cJ:=0) (h4:=0) (vs:=[]) aj dM (fun E a2=>a2.jR (dM.each _ (fM a9))) (fun E a2=>⟨.inl rfl,rfl,Nat.le_refl _,by decide⟩) rA bs S (fun e af=>?_) (fun fb g q dE o0 o1 aQ bl b n aE bX e6 kn=>?_)))
  |(show bk _ _ _ _;first|(refine hb gK W ?_)|(refine uS ?_)|(refine IM ?_))
  |(show eB _ _ _ _;first|(refine st ?_))
  |(refine hy.go ?_)
  |(refine pE.go ?_)
  |(exact k1 (O _ af) cn)
  |(exact cd.drop (K:=K) _ (.cons_cons _ ((List.Sublist.refl aE).append (.cons _ (.refl _)))) (V fb g q dE o0 o1 aQ bl b n aE bX e6 kn))
  |(exact cd.drop (K:=K) _ (List.Sublist.refl _) (V fb g q dE o0 o1 aQ bl b n aE bX e6 kn))
  |(refine ba.dec (fun ab=>?_) (fun ab=>?_)<;>try(exfalso;omega))
  |(refine ba.v7 (fun ab=>?_) (fun ab=>?_)<;>try(exfalso;omega))
  |(refine ba.sk (fun ab=>?_) (fun ab=>?_)<;>try(exfalso;omega))
  |(refine ba.sM (fun ab=>?_) (fun ab=>?_)<;>try(exfalso;omega))
  |(intro r jN)
  |(refine ba.Uy (fun ab=>?_) (fun ab=>?_))
  |(refine ba.intro (fun ab=>?_) (fun ab=>?_))
  |((exfalso;omega)))<;>(try conv=>whnf))
theorem ar3 {i:Nat} (hi:i<fs.length) (aj:hP H t.c) (dM:gM H t.bS t.aX t.bb fs) (rA:fs[i].a5<=999999/\fs[i].ns<=999999) (bs:t.s.task=((i+1:Nat):Int)) (aT:i<1000) (aU:t.s.o0≠17/\t.s.o0≠18)
  (O:∀e,x8 t.c fs[i] t.s.hN t.s.gZ (wh t) e->Z (lQ e 0) (Y H w0 X (dy t bO M)))
  (V:∀fb g q dE o0 o1 aQ bl b n aE,s7 fs[i] t.s.hN t.s.gZ (wh t) fb->r7 aE fs (i+1) t.c fb g q b n->kC t.s q fb.task=⟨dE,o0,o1,aQ,bl⟩->K (.tuple #[]) (Y H w0 X (dy {t with s:=kD t.s q ⟨dE,o0,o1,aQ,bl⟩,bS:=some ⟨b,0,none⟩,aX:=n,bb:=n} bO (aE++M)))):
  ay Tryz.prog (Y H w0 X (dy t bO M)) 146 #[ae bO] K Z:=by
 rw[wh,if_neg aU.1,if_neg aU.2] at O V
 refine a7 IE ?_
 intro az aF
 conv=>whnf
 repeat'((first
  |(show _/\_;first|(refine⟨by rfl,fun a0=>?_⟩)|(refine And.intro ?_ ?_)|(refine⟨by rfl,fun a0=>?_⟩))
  |(show eS _ _;first|(refine eS.go ?_))
  |(show ay _ _ _ _ _ _;first|((refine u9 dM (fun j a9 xp=>?_) (fun sD=>?_);(have iq:j=i:=by omega);subst iq))|(refine PH ?_)|(refine ay.imp (aJ.perm (kO _ _ _)) (BA (t:=t) (M:=_::M) (fs:=fs) (task:=j+1) (f:=fs[j]) (hZ:=_) (cJ:=_) (h4:=_) (vs:=[BG t.s.o0 t.u.val t.u.eG]) aj dM (fun E a2=>a2.jR (dM.each _ (fM a9))) (fun E a2=>a2.kg (t:=3) (List.Mem.head _) bC) rA bs S (fun e af=>?_) (fun fb g q dE o0 o1 aQ bl b n aE bX e6 kn=>?_))))
  |(show bk _ _ _ _;first|(refine hb gK W ?_)|(refine uS ?_)|(refine IM ?_))
  |(show eB _ _ _ _;first|(refine st ?_))
  |(refine hy.go ?_)
  |(refine pE.go ?_)
  |(exact k1 (O _ af) cn)
  |(exact cd.drop (K:=K) _ (.cons_cons _ ((List.Sublist.refl aE).append (.cons _ (.refl _)))) (V fb g q dE o0 o1 aQ bl b n aE bX e6 kn))
  |(exact cd.drop (K:=K) _ (List.Sublist.refl _) (V fb g q dE o0 o1 aQ bl b n aE bX e6 kn))
  |(refine ba.dec (fun ab=>?_) (fun ab=>?_)<;>try(exfalso;omega))
  |(refine ba.v7 (fun ab=>?_) (fun ab=>?_)<;>try(exfalso;omega))
  |(refine ba.sk (fun ab=>?_) (fun ab=>?_)<;>try(exfalso;omega))
  |(refine ba.sM (fun ab=>?_) (fun ab=>?_)<;>try(exfalso;omega))
  |(intro r jN)
  |(refine ba.Uy (fun ab=>?_) (fun ab=>?_))
  |(refine ba.intro (fun ab=>?_) (fun ab=>?_))
  |((exfalso;omega)))<;>(try conv=>whnf))
def II(s:cm)(task:Int):cm:={s with task:=task,hN:=5,iA:=0,gZ:=0,gG:=0,hl:=0,j1:=0,p3:=0,gA:=none,eM:=0,gJ:=0}
theorem arx (aB:1<=t.la.bt/\t.la.bt<=8) (dM:gM H t.bS t.aX t.bb fs) (hi:t.u.eG=false)
  (O:t.u.val=0->∀ei o0 o1 aQ bl,ei=rl t.la.bt 0->qY t.la.bt t.a1 t.dP ei=⟨o0,o1,aQ,bl⟩->K (.tuple #[]) (Y H w0 X (dy {t with s:=xS t.s ei ⟨o0,o1,aQ,bl⟩} bO M)))
  (V:t.u.val≠0->¬(1<=t.u.val/\t.u.val<=fs.length)->Z (lQ 1 0) (Y H w0 X (dy t bO M)))
  (aa:∀i (h:i<fs.length),t.u.val=(i:Int)+1->∀(U:0<fs[i].kids.length),K (.tuple #[]) (Y H w0 X (dy {t with s:=rm (II t.s t.u.val) 4 1 ⟨15,0,fs[i].kids[0].task,0⟩} bO M)))
  (ag:∀i (h:i<fs.length),t.u.val=(i:Int)+1->fs[i].kids.length=0->Z (lQ 1 0) (Y H w0 X (dy {t with s:=II t.s t.u.val} bO M))):
  ay Tryz.prog (Y H w0 X (dy t bO M)) 150 #[ae bO] K Z:=by
 refine a7 Tn ?_
 intro az aF
 conv=>whnf
 exact PS
end
theorem XC {P:Prop} (h:P:=by
 repeat'((first
  |(show _/\_;first|(refine⟨by rfl,fun a0=>?_⟩))
  |(show ay _ _ _ _ _ _;first|(refine yG bh (fun br bz dS ep=>?_))|(refine gd sI ?_;intro be bM)|(refine JV a8 ?_;cases ah:kL args))
  |(show bk _ _ _ _;first|(refine hb gK W ?_)|(refine Cg [f.many] (fy.own (l:=[J f.many]) gK b7 (by intro u aS;rw[nK] at aS;subst aS;rfl) 1) rfl mw S ?_;intro bf bA ka iz)|(refine iZ (b8 c fn).l oY aD W W ?_)|(refine NY gK (b8 c fn).locals.toNat S S (fun auS=>?_))|(refine Rd gK (is args) (fun w au=>dJ.VG au a8.rd) (by simp[is];omega) (IB _) mw ?_;rw[aqx so S]))
  |(obtain⟨nN,n1,nT,oY⟩:=aj.at_ (fn:=fn) S S;refine rG nN n1 nT S S ?_)
  |(exact c1 (V ⟨⟨by omega,by omega⟩,by omega,ah,by omega,by omega⟩ br bz _ _ _ dS ep rfl) cn)
  |(refine c1 (O ?_) cn;(rintro⟨m8,p8,wg,Ji,ON⟩;first|omega|(rw[ah] at wg;cases wg)))
  |(exact c1 (U bf bA ka iz) cn)
  |(exact cd.imp _ (aJ.trans (aJ.perm (kO _ _ _)) (aJ.sub cn)) (U bf bA ka iz))
  |refine eg ?_
  |(refine eh ?_ ?_<;>(try with_reducible intro ab)<;>(try(exfalso;omega)))
  |with_reducible intro r)<;>(try conv=>whnf))):P:=h
section
theorem ack{f:a3}(bh:fG H f.bW f.np f.bI f.path)(U:∀aR aN,f.np+1<=aN->(0<aN->∃b,aR=some ⟨b,0,none⟩)->K (.slice aR (f.np+1) aN) (Y H w0 X ((.slice aR (f.np+1) aN,.row 3 1 (is (f.path++[f.many])))::M))):a4 H w0 X M 222 #[.agg f.l.toArray] K Z:=by
 have ar:=bh.dB
 refine a7 aij ?_
 intro az aF
 conv=>whnf
 exact XC
theorem aqx{args:List Int}{ev n:Nat}(aB:ev=args.length)(h:args.length<=n):(is args).take (Nat.min ev n*1)++(List.replicate n [J 0]).flatten.drop (Nat.min ev n*1)=is (args++List.replicate (n-args.length) 0):=by
 have e1:Nat.min ev n=args.length:=by rw[aB];exact z4 h
 have e2:(List.replicate n [J 0]).flatten=List.replicate n (J 0):=by
  induction n with
  |zero=>rfl
  |succ n cy=>simp[Ei]
 rw[e1,h1,e2,rb (by simp[is]),List.drop_replicate]
 simp[is]
def wu(c:cr)(fn task:Int)(args:List Int):Prop:=(0<=fn/\fn<c.aX)/\1<=task/\kL args=true/\(b8 c fn).args=args.length/\(b8 c fn).args<=(b8 c fn).locals
instance(c:cr)(fn task:Int)(args:List Int):Decidable (wu c fn task args):=by unfold wu;exact inferInstance
def mu(c:cr)(fn:Int)(args:List Int):List Int:=args++List.replicate ((b8 c fn).locals.toNat-args.length) 0
theorem WI {c:cr} {fn task:Int} {ed:Option Addr} {ev bp:Nat} {args:List Int} {bW:Option Addr} {np bI:Nat} {path:List Int} (aj:hP H c) (sC:(b8 c fn).locals<=1000) (a8:fG H ed ev bp args) (bh:fG H bW np bI path)
  (O:¬wu c fn task args->K (.tuple #[.agg #[J 0,.slice none 0 0,J 0,J 0,.slice none 0 0,.slice none 0 0,.slice none 0 0,J 0,J 0,.bool false],J 1]) (Y H w0 X M))
  (V:wu c fn task args->∀br bz bf cN bA,np<=bz->(0<bz->∃b,br=some ⟨b,0,none⟩)->cN=(b8 c fn).locals.toNat->K (.tuple #[.agg #[J task,.slice br np bz,J fn,J 0,.slice bf cN bA,.slice none 0 0,.slice none 0 0,J 0,J 0,.bool false],J 0]) (Y H w0 X ((.slice br np bz,.row 3 1 (is path))::(.slice bf cN bA,.row 3 1 (is (mu c fn args)))::M))):
  a4 H w0 X M 38 #[.agg c.l.toArray,J fn,.slice ed ev bp,J task,.slice bW np bI] K Z:=by
 have so:=a8.len
 refine a7 TA ?_
 intro az aF
 conv=>whnf
 exact XC
end
end Go.Proofs.YtcflcebplhdcpaaGreat
