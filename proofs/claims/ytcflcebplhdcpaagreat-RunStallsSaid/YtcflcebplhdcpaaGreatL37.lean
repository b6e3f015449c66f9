/- Lemmas, part 37; each states its own conditions. -/
import Derived.Test.YtcflcebplhdcpaaGreatL35
import Derived.Test.YtcflcebplhdcpaaGreatL36
namespace Go.Proofs.YtcflcebplhdcpaaGreat
open Go.RowKit
set_option linter.unusedSimpArgs false
set_option linter.unusedVariables false
set_option maxRecDepth 100000
set_option maxHeartbeats 16000000
variable{H w0:World}{X:Nat->Prop}{M:aw}{K:Value->an->Prop}{Z:bF}
theorem vh {P:Prop} (h:P:=by
 repeat'((first
  |(show bk _ _ _ _;first|(refine fv (dn aZ) aD W W ?_)|(refine iZ (hs _) av aD W W ?_)|(refine ke (dn ab) aD W ?_)|(refine fv (dn b9.oT) aD W W ?_)|(refine fv (dn b9.v8) aD W W ?_)|(refine fv (dn b9.vW) aD W W ?_)|(refine fv (off:=2) (dn b9.rN) aD W W ?_)|(refine fv (off:=3) (dn b9.rN) aD W W ?_)|(refine fv (off:=4) (dn b9.la) aD W W ?_)|(refine fv (off:=9) (dn b9.la) aD W W ?_)|(refine fv (off:=10) (dn b9.la) aD W W ?_))
  |(show ih _ _ _ _;first|(refine gE (dn aZ) aD W W ?_)|(refine tC (hs _) av aD W W ?_)|(refine p0 (dn ab) aD W ?_)|(refine gE (dn b9.oT) aD W W ?_)|(refine gE (dn b9.v8) aD W W ?_)|(refine gE (dn b9.vW) aD W W ?_)|(refine gE (off:=2) (dn b9.rN) aD W W ?_)|(refine gE (off:=3) (dn b9.rN) aD W W ?_)|(refine gE (off:=4) (dn b9.la) aD W W ?_)|(refine gE (off:=9) (dn b9.la) aD W W ?_)|(refine gE (off:=10) (dn b9.la) aD W W ?_))
  |(show eB _ _ _ _;first|(refine Gg (J ((s.made+1:Nat):Int)) (by rw[cK S];rfl) ?_))
  |(show gn _ _ _ _ _;first|(refine xx hs 2 xQ S h.tF h.kJ s.made ((cK S).trans S) S (fun cu fX b0 gw=>?_)))
  |(show ay _ _ _ _ _ _;first|(refine JP kV (fun v ah=>?_))|(refine UD (k:=k) (dn b9.la) h.la (fun v ah=>?_);subst ah)|(refine kS (a:=⟨4,hY k.la t 1,0, -1⟩) (dn b9.jf) av (fun r s' e ak ad=>?_) (fun e=>?_))|(refine ay.imp (aJ.perm (kO _ _ _)) (kS (a:=⟨4,hY k.la t 1,0, -1⟩) (dn b9.jf) av (fun r s' e ak ad=>?_) (fun e=>?_)))|(refine kS (a:=⟨2,hY k.la t 1,0,1⟩) (dn b9.jf) av (fun r s' e ak ad=>?_) (fun e=>?_))|(refine ay.imp (aJ.perm (kO _ _ _)) (kS (a:=⟨2,hY k.la t 1,0,1⟩) (dn b9.jf) av (fun r s' e ak ad=>?_) (fun e=>?_)))|(refine kS (a:=⟨3,hY k.la op.aQ 0,1,2⟩) (dn b9.jf) av (fun r s' e ak ad=>?_) (fun e=>?_))|(refine ay.imp (aJ.perm (kO _ _ _)) (kS (a:=⟨3,hY k.la op.aQ 0,1,2⟩) (dn b9.jf) av (fun r s' e ak ad=>?_) (fun e=>?_)))|(refine kS (a:=⟨1,hY k.la op.aQ 2,0,0⟩) (dn b9.jf) av (fun r s' e ak ad=>?_) (fun e=>?_))|(refine ay.imp (aJ.perm (kO _ _ _)) (kS (a:=⟨1,hY k.la op.aQ 2,0,0⟩) (dn b9.jf) av (fun r s' e ak ad=>?_) (fun e=>?_)))|(refine Db (t:=op.aQ) (op:=op) ⟨(dn b9.jf),(dn b9.la),(dn b9.rN),(dn b9.oT),(dn b9.v8),(dn b9.vW)⟩ av (fun b s' e ak=>?_) (fun a s' e ak=>?_))|(refine ay.imp (aJ.perm (kO _ _ _)) (Db (t:=op.aQ) (op:=op) ⟨(dn b9.jf),(dn b9.la),(dn b9.rN),(dn b9.oT),(dn b9.v8),(dn b9.vW)⟩ av (fun b s' e ak=>?_) (fun a s' e ak=>?_)))|(refine ay.imp aJ.auto (aE:=kx _ bm _) (Db (t:=op.aQ) (op:=op) ⟨(dn b9.jf),(dn b9.la),(dn b9.rN),(dn b9.oT),(dn b9.v8),(dn b9.vW)⟩ av (fun b s' e ak=>?_) (fun a s' e ak=>?_)))|(refine kS (a:=⟨2,hY k.la op.aQ 2,0,op.bl⟩) (dn b9.jf) av (fun r s' e ak ad=>?_) (fun e=>?_))|(refine ay.imp (aJ.perm (kO _ _ _)) (kS (a:=⟨2,hY k.la op.aQ 2,0,op.bl⟩) (dn b9.jf) av (fun r s' e ak ad=>?_) (fun e=>?_)))|(refine kS (a:=⟨2,hY k.la op.aQ 0,0,3⟩) (dn b9.jf) av (fun r s' e ak ad=>?_) (fun e=>?_))|(refine ay.imp (aJ.perm (kO _ _ _)) (kS (a:=⟨2,hY k.la op.aQ 0,0,3⟩) (dn b9.jf) av (fun r s' e ak ad=>?_) (fun e=>?_)))|(refine kS (a:=⟨1,hY k.la op.aQ 3,0,0⟩) (dn b9.jf) av (fun r s' e ak ad=>?_) (fun e=>?_))|(refine ay.imp (aJ.perm (kO _ _ _)) (kS (a:=⟨1,hY k.la op.aQ 3,0,0⟩) (dn b9.jf) av (fun r s' e ak ad=>?_) (fun e=>?_)))|(refine kS (a:=⟨2,k.la.done,0,1⟩) (dn b9.jf) av (fun r s' e ak ad=>?_) (fun e=>?_))|(refine ay.imp (aJ.perm (kO _ _ _)) (kS (a:=⟨2,k.la.done,0,1⟩) (dn b9.jf) av (fun r s' e ak ad=>?_) (fun e=>?_)))|(refine Db (t:=r.1) (op:=op) ⟨(dn b9.jf),(dn b9.la),(dn b9.rN),(dn b9.oT),(dn b9.v8),(dn b9.vW)⟩ av (fun b s' e ak=>?_) (fun a s' e ak=>?_))|(refine ay.imp (aJ.perm (kO _ _ _)) (Db (t:=r.1) (op:=op) ⟨(dn b9.jf),(dn b9.la),(dn b9.rN),(dn b9.oT),(dn b9.v8),(dn b9.vW)⟩ av (fun b s' e ak=>?_) (fun a s' e ak=>?_)))|(refine ay.imp aJ.auto (aE:=kx _ bm _) (Db (t:=r.1) (op:=op) ⟨(dn b9.jf),(dn b9.la),(dn b9.rN),(dn b9.oT),(dn b9.v8),(dn b9.vW)⟩ av (fun b s' e ak=>?_) (fun a s' e ak=>?_)))|(refine uy h aB ad b3 (fun br bz dS ep=>?_))|(refine Vg (k:=k) (op:=op) (fun b du dv eu ha g5=>?_))|(refine JP h.la (fun v ah=>?_);subst ah)|(refine VO (gs:=gs) (.inl (h.ea rfl)) h.fh kp h.pP (fun br bz dS ep=>?_)))
  |(show ff _ _ _ _ _;first|(refine qO 3 0 W rfl (by decide+kernel) aD W W ?_)|(refine qO 4 1 W rfl (by decide+kernel) aD W W ?_)|(refine IY W (fun b=>?_))|(refine T4 (kt:=3) (et:=238) (kH:= .i64) (.inl rfl) W W mw bP bP W W ?_)|(refine kZ W ?_)|(refine FN W W aD W ?_)|(refine v3 (kt:=3) (et:=238) (kH:= .i64) (fW:=op.o0) W W W b7 bP bP aD W none ?_ ?_;focus(simp only[mZ,W6,Bool.cond_eq_ite,decide_eq_true_eq];repeat(first|rfl|(rw[if_neg S])))))
  |(show h0 _ _ _ _ _;first|(refine VM ?_))
  |(refine p9 b7 aD W ?_)
  |(refine sR b7 aD W W ?_)
  |(have fz:=U br bz (by rw[<-fj];exact dS) ep;rw[<-fj] at fz;exact c1 fz cn)
  |(exact cA (U _ _ dS ep))
  |(exact hy.drop _ cn U)
  |(exact c1 (U _ _ _ _ _ _))
  |(exact k1 (cl _ _ (by simp only[yL,ax.cx,ax.dq,dm,cZ,dH,ne_eq,not_true_eq_false,not_false_eq_true,ge_iff_le, *]) av) cn)
  |(exact c1 (aC ⟨_,_,_,_⟩ _ (by simp only[yL,ax.cx,ax.dq,dm,cZ,dH,ne_eq,not_true_eq_false,not_false_eq_true,ge_iff_le, *];try rfl) av) cn)
  |(exact k1 (cl _ _ (by simp only[DK,ax.cx,ax.dq,dm,cZ,dH,ne_eq,not_true_eq_false,not_false_eq_true,ge_iff_le, *]) av) cn)
  |(exact c1 (aC ⟨_,_,_,_⟩ _ (by simp only[DK,ax.cx,ax.dq,dm,cZ,dH,ne_eq,not_true_eq_false,not_false_eq_true,ge_iff_le, *];try rfl) av) cn)
  |(exact k1 (cl _ _ (by simp only[Cx,ax.cx,ax.dq,dm,cZ,dH,ne_eq,not_true_eq_false,not_false_eq_true,ge_iff_le, *]) av) cn)
  |(exact c1 (aC ⟨_,_,_,_⟩ _ (by simp only[Cx,ax.cx,ax.dq,dm,cZ,dH,ne_eq,not_true_eq_false,not_false_eq_true,ge_iff_le, *];try rfl) av) cn)
  |(exact k1 (cl _ _ (by simp only[Cn,ax.cx,ax.dq,dm,cZ,dH,ne_eq,not_true_eq_false,not_false_eq_true,ge_iff_le, *]) av) cn)
  |(exact c1 (aC ⟨_,_,_,_⟩ _ (by simp only[Cn,ax.cx,ax.dq,dm,cZ,dH,ne_eq,not_true_eq_false,not_false_eq_true,ge_iff_le, *];try rfl) av) cn)
  |(exact k1 (cl _ _ (by simp only[Da,ax.cx,ax.dq,dm,cZ,dH,ne_eq,not_true_eq_false,not_false_eq_true,ge_iff_le, *]) av) cn)
  |(exact c1 (aC _ _ (by simp only[Da,ax.cx,ax.dq,dm,cZ,dH,ne_eq,not_true_eq_false,not_false_eq_true,ge_iff_le, *];try rfl) av) cn)
  |(exact c1 (U _ ah))
  |(exact k1 (cl (Hj S)))
  |(exact c1 (aC _ {s with made:=s.made+1} (Hk S) (h.up (qp _) (show s.made+1<=_ by omega) rfl) (El _)))
  |refine eg ?_
  |(refine eh ?_ ?_<;>(try with_reducible intro ab)<;>(try(exfalso;omega)))
  |with_reducible intro r)<;>(try conv=>whnf))):P:=h
abbrev yy(a:c4):List PanicEntry:=[{v:= .iface 236 (.agg a.l.toArray),recovered:=false}]
abbrev Ll(bm iL:Nat):Value:= .func (.func 137) #[] #[ae bm,ae iL]
abbrev UE(du:Nat):Value:= .func (.func 209) #[] #[ae du]
abbrev Th(eu ha:Nat):Value:= .func (.func 210) #[] #[ae eu,ae ha]
def kx(s:aq)(bm:Nat)(M:aw):aw:=(ae bm,.cs 3 [J (s.made:Int)])::M
structure Cb(k:aI)(op:dp)(bm iL du dv eu ha g5:Nat)(M:aw):Prop where
 jf:(ae iL,aY.cs 75 [.slice k.bK k.aM k.bD])∈M
 la:(ae du,aY.cs 40 k.la.l)∈M
 rN:(ae dv,aY.cs 72 op.l)∈M
 oT:(ae eu,aY.cs 237 [Ll bm iL])∈M
 v8:(ae ha,aY.cs 164 [UE du])∈M
 vW:(ae g5,aY.cs 155 [Th eu ha])∈M
def Da(k:aI)(t:Int)(s:aq):ax Bool:=(hp k ⟨4,hY k.la t 1,0, -1⟩ s).and fun r s1=>if r.1≠1 then .ok false s1 else(hp k ⟨2,hY k.la t 1,0,1⟩ s1).and fun _ aV=> .ok true aV
def Dj(k:aI)(op:dp)(s:aq):ax cI:=(hp k ⟨4,k.la.count,0,1⟩ s).and fun r s1=>if r.1>=k.la.en then .ok ⟨0,false,10,0⟩ s1 else
 (hp k ⟨2,hY k.la (cB (r.1+1)) 3,0,op.aQ⟩ s1).and fun _ aV=>(hp k ⟨2,hY k.la (cB (r.1+1)) 1,0,1⟩ aV).and fun _ bu=>(hp k ⟨4,hY k.la op.aQ 1,0,1⟩ bu).and fun _ cw=>(hp k ⟨2,hY k.la (cB (r.1+1)) 0,0,1⟩ cw).and fun _ fF=> .ok ⟨cB (r.1+1),true,0,4⟩ fF
def Cn(k:aI)(op:dp)(s:aq):ax cI:=(hp k ⟨3,hY k.la op.aQ 0,1,2⟩ s).and fun r s1=> .ok ⟨0,r.2,0,0⟩ s1
def DK(k:aI)(op:dp)(s:aq):ax cI:=(Da k op.aQ s).and fun b s1=> .ok ⟨0,b,0,0⟩ s1
def yL(k:aI)(op:dp)(s:aq):ax cI:=(hp k ⟨2,hY k.la op.aQ 2,0,op.bl⟩ s).and fun _ s1=>(hp k ⟨2,hY k.la op.aQ 0,0,3⟩ s1).and fun _ aV=>(hp k ⟨1,hY k.la op.aQ 3,0,0⟩ aV).and fun r bu=>
 if r.1=0 then(hp k ⟨2,k.la.done,0,1⟩ bu).and fun _ cw=> .ok ⟨0,true,0,1⟩ cw else(Da k r.1 bu).and fun b cw=>if b=true then .ok ⟨r.1,false,0,1⟩ cw else .ok ⟨0,false,0,1⟩ cw
def Cx(k:aI)(op:dp)(s:aq):ax cI:=(hp k ⟨1,hY k.la op.aQ 2,0,0⟩ s).and fun r s1=> .ok ⟨r.1,true,0,0⟩ s1
def tW(k:aI)(op:dp)(s:aq):ax cI:=if op.o0=11 then Dj k op s else if op.o0=12 then Cn k op s else if op.o0=13 then DK k op s else if op.o0=14 then yL k op s else Cx k op s
def pn(k:aI)(gs:List cz)(op:dp):e9:=if op.o0<11\/15<op.o0\/hY k.la op.aQ 0<0 then m9 gs else e9.p4 gs (tW k op (aq.start []))
section
theorem kS{k:aI}{s:aq}{a:c4}{bm iL:Nat}(aZ:(ae iL,aY.cs 75 [.slice k.bK k.aM k.bD])∈M)(h:bc H k s ⟨false,none,0,0⟩)(aC:∀r s',hp k a s= .ok r s'->bc H k s' ⟨false,none,0,0⟩->s.made<s'.made->K (.agg (hs r).toArray) (Y H w0 X (kx s' bm M)))(cl:hp k a s= .ask a->Z (yy a) (Y H w0 X (kx s bm M))):a4 H w0 X (kx s bm M) 137 #[J a.kind,J a.cell,J a.fk,J a.zq,ae bm,ae iL] K Z:=by
 have ad:=h.made
 have ai:=h.kJ
 have aW:=h.lm
 refine a7 anZ ?_
 intro az aF
 conv=>whnf
 exact vh
theorem UD{k:aI}{t i:Int}{du:Nat}(ab:(ae du,aY.cs 40 k.la.l)∈M)(kV:ig k.la)(U:∀v,v=hY k.la t i->K (J v) (Y H w0 X M)):a4 H w0 X (M) 209 #[J t,J i,ae du] K Z:=by
 refine a7 an6 ?_
 intro az aF
 conv=>whnf
 exact vh
theorem Db{t:Int}{k:aI}{s:aq}{op:dp}{bm iL du dv eu ha g5:Nat}(b9:Cb k op bm iL du dv eu ha g5 M)(h:bc H k s ⟨false,none,0,0⟩)(aC:∀o s',Da k t s= .ok o s'->bc H k s' ⟨false,none,0,0⟩->K (.bool o) (Y H w0 X (kx s' bm M)))(cl:∀a s',Da k t s= .ask a->bc H k s' ⟨false,none,0,0⟩->Z (yy a) (Y H w0 X (kx s' bm M))):a4 H w0 X (kx s bm M) 210 #[J t,ae eu,ae ha] K Z:=by
 refine a7 an7 ?_
 intro az aF
 conv=>whnf
 exact vh
theorem acn{k:aI}{s:aq}{op:dp}{bm iL du dv eu ha g5:Nat}(b9:Cb k op bm iL du dv eu ha g5 M)(h:bc H k s ⟨false,none,0,0⟩)(aC:∀o s',Cn k op s= .ok o s'->bc H k s' ⟨false,none,0,0⟩->K (.agg (cI.l o).toArray) (Y H w0 X (kx s' bm M)))(cl:∀a s',Cn k op s= .ask a->bc H k s' ⟨false,none,0,0⟩->Z (yy a) (Y H w0 X (kx s' bm M))):a4 H w0 X (kx s bm M) 212 #[ae eu,ae ha,ae dv] K Z:=by
 refine a7 an9 ?_
 intro az aF
 conv=>whnf
 exact vh
theorem adM{k:aI}{s:aq}{op:dp}{bm iL du dv eu ha g5:Nat}(b9:Cb k op bm iL du dv eu ha g5 M)(h:bc H k s ⟨false,none,0,0⟩)(aC:∀o s',Cx k op s= .ok o s'->bc H k s' ⟨false,none,0,0⟩->K (.agg (cI.l o).toArray) (Y H w0 X (kx s' bm M)))(cl:∀a s',Cx k op s= .ask a->bc H k s' ⟨false,none,0,0⟩->Z (yy a) (Y H w0 X (kx s' bm M))):a4 H w0 X (kx s bm M) 215 #[ae eu,ae ha,ae dv] K Z:=by
 refine a7 aoc ?_
 intro az aF
 conv=>whnf
 exact vh
theorem aqT{k:aI}{s:aq}{op:dp}{bm iL du dv eu ha g5:Nat}(b9:Cb k op bm iL du dv eu ha g5 M)(h:bc H k s ⟨false,none,0,0⟩)(aC:∀o s',DK k op s= .ok o s'->bc H k s' ⟨false,none,0,0⟩->K (.agg (cI.l o).toArray) (Y H w0 X (kx s' bm M)))(cl:∀a s',DK k op s= .ask a->bc H k s' ⟨false,none,0,0⟩->Z (yy a) (Y H w0 X (kx s' bm M))):a4 H w0 X (kx s bm M) 213 #[ae g5,ae dv] K Z:=by
 refine a7 aoa ?_
 intro az aF
 conv=>whnf
 exact vh
theorem ala{k:aI}{s:aq}{op:dp}{bm iL du dv eu ha g5:Nat}(b9:Cb k op bm iL du dv eu ha g5 M)(h:bc H k s ⟨false,none,0,0⟩)(aC:∀o s',Dj k op s= .ok o s'->bc H k s' ⟨false,none,0,0⟩->K (.agg (cI.l o).toArray) (Y H w0 X (kx s' bm M)))(cl:∀a s',Dj k op s= .ask a->bc H k s' ⟨false,none,0,0⟩->Z (yy a) (Y H w0 X (kx s' bm M))):a4 H w0 X (kx s bm M) 211 #[ae eu,ae du,ae ha,ae dv] K Z:=by
 refine a7 an8 ?_
 intro az aF
 conv=>whnf
 repeat'((first
  |(show bk _ _ _ _;first|(refine fv (dn b9.oT) aD W W ?_)|(refine fv (dn b9.v8) aD W W ?_)|(refine fv (dn b9.vW) aD W W ?_)|(refine fv (off:=2) (dn b9.rN) aD W W ?_)|(refine fv (off:=3) (dn b9.rN) aD W W ?_)|(refine fv (off:=4) (dn b9.la) aD W W ?_)|(refine fv (off:=9) (dn b9.la) aD W W ?_)|(refine fv (off:=10) (dn b9.la) aD W W ?_))
  |(show ih _ _ _ _;first|(refine gE (dn b9.oT) aD W W ?_)|(refine gE (dn b9.v8) aD W W ?_)|(refine gE (dn b9.vW) aD W W ?_)|(refine gE (off:=2) (dn b9.rN) aD W W ?_)|(refine gE (off:=3) (dn b9.rN) aD W W ?_)|(refine gE (off:=4) (dn b9.la) aD W W ?_)|(refine gE (off:=9) (dn b9.la) aD W W ?_)|(refine gE (off:=10) (dn b9.la) aD W W ?_))
  |(show ay _ _ _ _ _ _;first|(refine UD (k:=k) (dn b9.la) h.la (fun v ah=>?_);subst ah)|(refine kS (a:=⟨4,k.la.count,0,1⟩) (dn b9.jf) av (fun r s' e ak ad=>?_) (fun e=>?_))|(refine ay.imp (aJ.perm (kO _ _ _)) (kS (a:=⟨4,k.la.count,0,1⟩) (dn b9.jf) av (fun r s' e ak ad=>?_) (fun e=>?_)))|(refine kS (a:=⟨2,hY k.la _ 3,0,op.aQ⟩) (dn b9.jf) av (fun r s' e ak ad=>?_) (fun e=>?_))|(refine ay.imp (aJ.perm (kO _ _ _)) (kS (a:=⟨2,hY k.la _ 3,0,op.aQ⟩) (dn b9.jf) av (fun r s' e ak ad=>?_) (fun e=>?_)))|(refine kS (a:=⟨2,hY k.la _ 1,0,1⟩) (dn b9.jf) av (fun r s' e ak ad=>?_) (fun e=>?_))|(refine ay.imp (aJ.perm (kO _ _ _)) (kS (a:=⟨2,hY k.la _ 1,0,1⟩) (dn b9.jf) av (fun r s' e ak ad=>?_) (fun e=>?_)))|(refine kS (a:=⟨4,hY k.la op.aQ 1,0,1⟩) (dn b9.jf) av (fun r s' e ak ad=>?_) (fun e=>?_))|(refine ay.imp (aJ.perm (kO _ _ _)) (kS (a:=⟨4,hY k.la op.aQ 1,0,1⟩) (dn b9.jf) av (fun r s' e ak ad=>?_) (fun e=>?_)))|(refine kS (a:=⟨2,hY k.la _ 0,0,1⟩) (dn b9.jf) av (fun r s' e ak ad=>?_) (fun e=>?_))|(refine ay.imp (aJ.perm (kO _ _ _)) (kS (a:=⟨2,hY k.la _ 0,0,1⟩) (dn b9.jf) av (fun r s' e ak ad=>?_) (fun e=>?_))))
  |(show ff _ _ _ _ _;first|(refine qO 3 0 W rfl bP aD W W ?_)|(refine qO 4 1 W rfl bP aD W W ?_))
  |(exact k1 (cl _ _ (by simp only[Dj,cB,ax.cx,ax.dq,dm,cZ,dH,ne_eq,not_true_eq_false,not_false_eq_true,ge_iff_le, *]) av) cn)
  |(exact c1 (aC ⟨_,_,_,_⟩ _ (by simp only[Dj,cB,ax.cx,ax.dq,dm,cZ,dH,ne_eq,not_true_eq_false,not_false_eq_true,ge_iff_le, *];try rfl) av) cn)
  |refine jK ?_
  |(refine iK ?_ ?_<;>(try with_reducible intro ab)<;>(try(exfalso;omega)))
  |with_reducible intro r)<;>(try conv=>whnf))
theorem adw{k:aI}{s:aq}{op:dp}{bm iL du dv eu ha g5:Nat}(b9:Cb k op bm iL du dv eu ha g5 M)(h:bc H k s ⟨false,none,0,0⟩)(aC:∀o s',yL k op s= .ok o s'->bc H k s' ⟨false,none,0,0⟩->K (.agg (cI.l o).toArray) (Y H w0 X (kx s' bm M)))(cl:∀a s',yL k op s= .ask a->bc H k s' ⟨false,none,0,0⟩->Z (yy a) (Y H w0 X (kx s' bm M))):a4 H w0 X (kx s bm M) 214 #[ae eu,ae ha,ae dv,ae du,ae g5] K Z:=by
 refine a7 aob ?_
 intro az aF
 conv=>whnf
 exact vh
def W6(du dv eu ha g5:Nat):List MapEntry:=[⟨J 11,.func (.func 211) #[] #[ae eu,ae du,ae ha,ae dv],0⟩,⟨J 12,.func (.func 212) #[] #[ae eu,ae ha,ae dv],1⟩,⟨J 13,.func (.func 213) #[] #[ae g5,ae dv],2⟩,⟨J 14,.func (.func 214) #[] #[ae eu,ae ha,ae dv,ae du,ae g5],3⟩,⟨J 15,.func (.func 215) #[] #[ae eu,ae ha,ae dv],4⟩]
def arP(k:aI)(op:dp)(bm iL du dv eu ha g5:Nat)(M:aw):aw:=(ae g5,aY.cs 155 [Th eu ha])::(ae ha,aY.cs 164 [UE du])::(ae eu,aY.cs 237 [Ll bm iL])::(ae dv,aY.cs 72 op.l)::(ae du,aY.cs 40 k.la.l)::M
theorem Vg{k:aI}{op:dp}{bm iL:Nat}(U:∀b du dv eu ha g5,K (.map (some b)) (Y H w0 X ((.map (some b),.map (W6 du dv eu ha g5) 5)::arP k op bm iL du dv eu ha g5 M))):a4 H w0 X M 138 #[.agg k.la.l.toArray,.agg op.l.toArray,Ll bm iL] K Z:=by
 refine a7 an0 ?_
 intro az aF
 conv=>whnf
 exact vh
abbrev Ut(df uu ma el:Nat):Deferred:={target:= .fn (.func 140) #[ae df,ae uu,ae ma,ae el],args:=#[]}
def I5(g:cg)(df ma el uu:Nat)(acc:List Value)(M:aw):aw:=(ae el,aY.cs 4 [.bool false])::(ae ma,aY.cs 145 [J 0,.bool false,J 0,J 0,.slice none 0 0])::(ae df,aY.cs 136 acc)::(ae uu,aY.cs 76 [.slice g.A g.n g.c])::M
theorem aoH{g:cg}{a:c4}{df ma el uu:Nat}{K:FrameMode->an->Prop}(U:K (.panicking [{v:= .iface 236 (.agg a.l.toArray),recovered:=true}]) (Y H w0 X (I5 g df ma el uu a.l M))):
  h0 Tryz.prog (Y H w0 X (I5 g df ma el uu [J 0,J 0,J 0,J 0] M)) (Ut df uu ma el) (.panicking (yy a)) K:=by
 refine yI e8 i6 Vq VX W bP (args:=[ae df,ae uu,ae ma,ae el]) W rfl rfl ?_
 intro az aF
 conv=>whnf
 refine zA false (.inr ⟨_,_,rfl,rfl⟩) rfl bP ?_
 conv=>whnf
 exact vh
theorem VM{df ma el uu:Nat}{K:FrameMode->an->Prop}(U:K .returning (Y H w0 X M)):h0 Tryz.prog (Y H w0 X M) (Ut df uu ma el) .returning K:=by
 refine yI e8 i6 Vq VX W bP (args:=[ae df,ae uu,ae ma,ae el]) W rfl rfl ?_
 intro az aF
 conv=>whnf
 refine zA true (.inl ⟨rfl,rfl⟩) rfl bP ?_
 conv=>whnf
 exact hy.drop _ (List.Sublist.refl _) U
theorem VO{A:Option Addr}{n c:Nat}{gs:List cz}(h:s4 H M A n c gs)(aB:n=gs.length)(ad:n<=1000000000)(b3:A=none->n=0)(U:∀aR aN,n<=aN->(0<aN->∃b,aR=some ⟨b,0,none⟩)->K (.tuple #[.agg #[J 0,J 0,J 0,J 0],.agg #[J 0,.bool false,J 1,J (-1),.slice aR n aN],.bool true]) (Y H w0 X ((.slice aR n aN,.row 187 2 (gs.flatMap ft))::M))):a4 H w0 X M 139 #[.slice A n c] K Z:=by
 refine a7 an1 ?_
 intro az aF
 conv=>whnf
 exact vh
theorem arq{k:aI}{a1:Int}{gs:List cz}{g:cg}{op:dp}(h:bc H k (aq.start gs) ⟨false,g.A,g.n,g.c⟩)(ab:op.o0<11\/15<op.o0)(U:jn H w0 X M K (pn k gs op)):a4 H w0 X M 98 #[.agg k.la.l.toArray,J a1,.slice g.A g.n g.c,.agg op.l.toArray,.slice k.bK k.aM k.bD] K Z:=by
 have kp:g.n<=1000000000:=by
  have O:g.n=gs.length:=h.fh
  have V:gs.length<=1000000+0:=h.pO
  omega
 have fj:g.n=gs.length:=h.fh
 have aT:=h.wX k.a1
 rw[pn,if_pos S] at U
 refine sH e8 i6 Vw W ?_
 intro az aF
 conv=>whnf
 exact vh
theorem FQ {P:Prop} (h:P:=by
 have kp:g.n<=1000000000:=by
  have O:g.n=gs.length:=h.fh
  have V:gs.length<=1000000+0:=h.pO
  omega
 have fj:g.n=gs.length:=h.fh
 have aT:=h.wX k.a1
 rw[pn] at U
 refine sH e8 i6 Vw W ?_
 intro az aF
 conv=>whnf
 repeat'((first
  |(show ff _ _ _ _ _;first|(refine kZ W ?_)|(refine v3 (kt:=3) (et:=238) (kH:= .i64) (fW:=op.o0) W W W b7 bP bP aD W (some (0,.func (.func 211) #[] #[ae eu,ae du,ae ha,ae dv])) ?_ ?_;focus(rw[cT];rfl))|(refine v3 (kt:=3) (et:=238) (kH:= .i64) (fW:=op.o0) W W W b7 bP bP aD W (some (1,.func (.func 212) #[] #[ae eu,ae ha,ae dv])) ?_ ?_;focus(rw[cT];rfl))|(refine v3 (kt:=3) (et:=238) (kH:= .i64) (fW:=op.o0) W W W b7 bP bP aD W (some (2,.func (.func 213) #[] #[ae g5,ae dv])) ?_ ?_;focus(rw[cT];rfl))|(refine v3 (kt:=3) (et:=238) (kH:= .i64) (fW:=op.o0) W W W b7 bP bP aD W (some (3,.func (.func 214) #[] #[ae eu,ae ha,ae dv,ae du,ae g5])) ?_ ?_;focus(rw[cT];rfl))|(refine v3 (kt:=3) (et:=238) (kH:= .i64) (fW:=op.o0) W W W b7 bP bP aD W (some (4,.func (.func 215) #[] #[ae eu,ae ha,ae dv])) ?_ ?_;focus(rw[cT];rfl)))
  |(show ay _ _ _ _ _ _;first|(refine Vg (k:=k) (op:=op) (fun b du dv eu ha g5=>?_))|(refine JP h.la (fun v ah=>?_);subst ah)|(refine VO (gs:=gs) (.inl (h.ea rfl)) h.fh kp h.pP (fun br bz dS ep=>?_))|(refine ay.imp (aE:=kx (aq.start []) _ _) aJ.auto (ala (k:={k with a1:=k.a1}) (op:=op) ⟨b7,b7,b7,b7,b7,b7⟩ aT (fun o s' e ak=>?_) (fun a s' e ak=>?_)))|(refine uy (gs:=gs) (.inl (h.ea rfl)) h.fh kp h.pP (fun br bz dS ep=>?_))|(refine ay.imp (aE:=kx (aq.start []) _ _) aJ.auto (acn (k:={k with a1:=k.a1}) (op:=op) ⟨b7,b7,b7,b7,b7,b7⟩ aT (fun o s' e ak=>?_) (fun a s' e ak=>?_)))|(refine ay.imp (aE:=kx (aq.start []) _ _) aJ.auto (aqT (k:={k with a1:=k.a1}) (op:=op) ⟨b7,b7,b7,b7,b7,b7⟩ aT (fun o s' e ak=>?_) (fun a s' e ak=>?_)))|(refine ay.imp (aE:=kx (aq.start []) _ _) aJ.auto (adw (k:={k with a1:=k.a1}) (op:=op) ⟨b7,b7,b7,b7,b7,b7⟩ aT (fun o s' e ak=>?_) (fun a s' e ak=>?_)))|(refine ay.imp (aE:=kx (aq.start []) _ _) aJ.auto (adM (k:={k with a1:=k.a1}) (op:=op) ⟨b7,b7,b7,b7,b7,b7⟩ aT (fun o s' e ak=>?_) (fun a s' e ak=>?_))))
  |(show eB _ _ _ _;first|(rw[if_neg S,c3,e] at U;refine eB.imp (aE:=I5 g _ _ _ _ [J 0,J 0,J 0,J 0] M) (aJ.sub cn) (st ?_)))
  |(show h0 _ _ _ _ _;first|(rw[if_neg S,c3,e] at U;refine h0.imp (aE:=I5 g _ _ _ _ [J 0,J 0,J 0,J 0] M) (aJ.sub cn) (aoH ?_))|(refine VM ?_))
  |(refine p9 b7 aD W ?_)
  |(refine sR b7 aD W W ?_)
  |(rw[if_pos S] at U;have fz:=U br bz (by rw[<-fj];exact dS) ep;rw[<-fj] at fz;exact c1 fz cn)
  |(exact c1 U cn)
  |(have fz:=U br bz (by rw[<-fj];exact dS) ep;rw[<-fj] at fz;exact c1 fz cn)
  |refine jK ?_
  |(refine iK ?_ ?_<;>(try with_reducible intro ab)<;>(try(exfalso;omega)))
  |with_reducible intro r)<;>(try conv=>whnf))
):P:=h
theorem arj{k:aI}{a1:Int}{gs:List cz}{g:cg}{op:dp}(h:bc H k (aq.start gs) ⟨false,g.A,g.n,g.c⟩)(cT:op.o0=11)(U:jn H w0 X M K (pn k gs op)):a4 H w0 X M 98 #[.agg k.la.l.toArray,J a1,.slice g.A g.n g.c,.agg op.l.toArray,.slice k.bK k.aM k.bD] K Z:=by
 have c3:tW k op (aq.start [])=Dj k op (aq.start []):=by rw[tW,if_pos cT]
 exact FQ
theorem ark{k:aI}{a1:Int}{gs:List cz}{g:cg}{op:dp}(h:bc H k (aq.start gs) ⟨false,g.A,g.n,g.c⟩)(cT:op.o0=12)(U:jn H w0 X M K (pn k gs op)):a4 H w0 X M 98 #[.agg k.la.l.toArray,J a1,.slice g.A g.n g.c,.agg op.l.toArray,.slice k.bK k.aM k.bD] K Z:=by
 have c3:tW k op (aq.start [])=Cn k op (aq.start []):=by rw[tW,if_neg S,if_pos cT]
 exact FQ
theorem arl{k:aI}{a1:Int}{gs:List cz}{g:cg}{op:dp}(h:bc H k (aq.start gs) ⟨false,g.A,g.n,g.c⟩)(cT:op.o0=13)(U:jn H w0 X M K (pn k gs op)):a4 H w0 X M 98 #[.agg k.la.l.toArray,J a1,.slice g.A g.n g.c,.agg op.l.toArray,.slice k.bK k.aM k.bD] K Z:=by
 have c3:tW k op (aq.start [])=DK k op (aq.start []):=by rw[tW,if_neg S,if_neg S,if_pos cT]
 exact FQ
theorem arn{k:aI}{a1:Int}{gs:List cz}{g:cg}{op:dp}(h:bc H k (aq.start gs) ⟨false,g.A,g.n,g.c⟩)(cT:op.o0=14)(U:jn H w0 X M K (pn k gs op)):a4 H w0 X M 98 #[.agg k.la.l.toArray,J a1,.slice g.A g.n g.c,.agg op.l.toArray,.slice k.bK k.aM k.bD] K Z:=by
 have c3:tW k op (aq.start [])=yL k op (aq.start []):=by rw[tW,if_neg S,if_neg S,if_neg S,if_pos cT]
 exact FQ
theorem aro{k:aI}{a1:Int}{gs:List cz}{g:cg}{op:dp}(h:bc H k (aq.start gs) ⟨false,g.A,g.n,g.c⟩)(cT:op.o0=15)(U:jn H w0 X M K (pn k gs op)):a4 H w0 X M 98 #[.agg k.la.l.toArray,J a1,.slice g.A g.n g.c,.agg op.l.toArray,.slice k.bK k.aM k.bD] K Z:=by
 have c3:tW k op (aq.start [])=Cx k op (aq.start []):=by rw[tW,if_neg S,if_neg S,if_neg S,if_neg S]
 exact FQ
theorem W2{k:aI}{a1:Int}{gs:List cz}{g:cg}{op:dp}(h:bc H k (aq.start gs) ⟨false,g.A,g.n,g.c⟩)(U:jn H w0 X M K (pn k gs op)):a4 H w0 X M 98 #[.agg k.la.l.toArray,J a1,.slice g.A g.n g.c,.agg op.l.toArray,.slice k.bK k.aM k.bD] K Z:=by
 by_cases ab:op.o0<11\/15<op.o0
 ·exact arq h ab U
 ·rcases(show op.o0=11\/op.o0=12\/op.o0=13\/op.o0=14\/op.o0=15 by omega) with cT|cT|cT|cT|cT
  ·exact arj h cT U
  ·exact ark h cT U
  ·exact arl h cT U
  ·exact arn h cT U
  ·exact aro h cT U
end
theorem as1 {P:Prop} (h:P:=by
 repeat'((first
  |(refine gd aor ?_;intro be bM)
  |(refine gd aos ?_;intro be bM)
  |(refine Lc (s:=3) (d:=269) (k':= .u64) (k0:= .i64) ?_)
  |(refine Lc (s:=202) (d:=5) (k':= .u8) (k0:= .u64) ?_)
  |(refine Lc (s:=5) (d:=3) (k':= .i64) (k0:= .u8) ?_)
  |(refine aa7 ?_)
  |(refine zC ?_)
  |(refine ams W W W bP bC W W ?_)
  |(exact c1 (U _ W))
  |refine eg ?_
  |(refine eh ?_ ?_<;>(try with_reducible intro ab)<;>(try(exfalso;omega)))
  |with_reducible intro r)<;>(try conv=>whnf))):P:=h
def nC(b:Int):Int:=if b<1 then 0 else [0,0,0,1,0,1,2,3,0,1,2,3,4,5,6,7,0,1,2,3,4,5,6,7,8,9,10,11,12,13,14,15,0,1,2,3,4,5,6,7,8,9,10,11,12,13,14,15,16,17,18,19,20,21,22,23,24,25,26,27,28,29,30,31].getD b.toNat 0
section
variable{P:Program}{C:an}{K:Value->an->Prop}{Z:bF}
theorem Lc{s d:TypeId}{k k' k0:IntKind}{n:Int}(h:K (.int k' n) C)(ar:P.underlying s=some (.int k0):=by kernel_rfl)(aL:P.underlying d=some (.int k'):=by kernel_rfl)(aP:k'.wrap n=n:=by rfl):bk P C (convert s d (.int k n)) K:=by
 rw[<-aP] at h
 refine nc (fun w=>?_) h
 simp[convert,run_underlying ar,run_underlying aL,Conv.intToInt]
theorem aa7{t:TypeId}{a b r:Int}(h:K (J r) C)(aP:IntKind.i64.wrap (((BitVec.ofInt 64 a&&& ~~~ BitVec.ofInt 64 b).toNat:Nat):Int)=r:=by rfl):bk P C (binOp .andNot t (J a) (J b)) K:=by
 subst aP
 refine nc (fun w=>?_) h
 simp only[binOp,Op.intBits,ne_eq,not_true_eq_false,cZ]
 rfl
theorem ams{ao:Operand->Value}{o:Oper}{t:TypeId}{x y:Operand}{s:ByteArray}{k:IntKind}{i:Int}{b:UInt8}{r:Int}(aU:o.op= .index t x y)(aW:ao x= .string s)(bV:ao y= .int k i)(aS:P.underlying t=some .string)(aT:0<=i)(ab:s[i.toNat]?=some b)(aP:(b.toNat:Int)=r)(h:K (.int .u8 r) C):ff P C (execOp ao o) K Z:=by
 subst aP
 refine wa (fun w=>?_) h
 simp[execOp,aU,aW,bV,Instr.index,asIntOf,run_underlying aS,aT,ab]
end
section
theorem amH:∀n:Nat,n<64->(∀v,v=nC n->K (J v) (Y H w0 X M))->a4 H w0 X M 300 #[J n] K Z:=by
 intro n aB U
 rcases(show n=0\/n=1\/n=2\/n=3\/n=4\/n=5\/n=6\/n=7\/n=8\/n=9\/n=10\/n=11\/n=12\/n=13\/n=14\/n=15\/n=16\/n=17\/n=18\/n=19\/n=20\/n=21\/n=22\/n=23\/n=24\/n=25\/n=26\/n=27\/n=28\/n=29\/n=30\/n=31\/n=32\/n=33\/n=34\/n=35\/n=36\/n=37\/n=38\/n=39\/n=40\/n=41\/n=42\/n=43\/n=44\/n=45\/n=46\/n=47\/n=48\/n=49\/n=50\/n=51\/n=52\/n=53\/n=54\/n=55\/n=56\/n=57\/n=58\/n=59\/n=60\/n=61\/n=62\/n=63 by omega) with rfl|rfl|rfl|rfl|rfl|rfl|rfl|rfl|rfl|rfl|rfl|rfl|rfl|rfl|rfl|rfl|rfl|rfl|rfl|rfl|rfl|rfl|rfl|rfl|rfl|rfl|rfl|rfl|rfl|rfl|rfl|rfl|rfl|rfl|rfl|rfl|rfl|rfl|rfl|rfl|rfl|rfl|rfl|rfl|rfl|rfl|rfl|rfl|rfl|rfl|rfl|rfl|rfl|rfl|rfl|rfl|rfl|rfl|rfl|rfl|rfl|rfl|rfl|rfl
 all_goals
  refine a7 aop ?_
  intro az aF
  conv=>whnf
  exact as1
theorem amK{b:Int}(aT:0<=b)(O:b<64)(U:∀v,v=nC b->K (J v) (Y H w0 X M)):a4 H w0 X M 300 #[J b] K Z:=by
 obtain⟨n,rfl⟩:=uc aT
 exact amH n S U
theorem Jb{b:Int}(aT:1<=b)(O:b<64):0<=nC b/\nC b<b:=by
 obtain⟨n,rfl⟩:=uc (show 0<=b by omega)
 have:∀n:Fin 64,1<=(n.val:Int)->0<=nC (n.val:Int)/\nC (n.val:Int)<(n.val:Int):=by decide
 exact this ⟨n,by omega⟩ aT
end
theorem Gy {P:Prop} (h:P:=by
 repeat'((first
  |(show eB _ _ _ _;first|(refine Gg (J ((s.made+1:Nat):Int)) (by rw[cK S];rfl) ?_))
  |(show gn _ _ _ _ _;first|(refine xx hs 2 xQ S h.tF h.kJ s.made ((cK S).trans S) S (fun cu fX b0 gw=>?_))|(refine xx hs 2 xQ S h.tF h.kJ (o.c0+2).toNat ((cK (by have:=aW av;omega)).trans (by have:=aW av;omega)) (by have:=aW av;omega) (fun cu fX b0 gw=>?_)))
  |(show ih _ _ _ _;first|(refine tC (hs _) av aD W W ?_)|(refine uT (gw 0 _ rfl) aD W ?_)|(refine gE (by repeat(first|exact List.Mem.head _|refine dr _ ?_|exact db _ O)) aD W W ?_)|(refine gE (by repeat(first|exact List.Mem.head _|refine dr _ ?_|exact db _ aa)) aD W W ?_))
  |(show bk _ _ _ _;first|(refine iZ (hs _) av aD W W ?_)|(refine mo (gw 0 _ rfl) aD W ?_)|(refine fv (by repeat(first|exact List.Mem.head _|refine dr _ ?_|exact db _ O)) aD W W ?_)|(refine fv (by repeat(first|exact List.Mem.head _|refine dr _ ?_|exact db _ aa)) aD W W ?_))
  |(show ay _ _ _ _ _ _;first|(refine tJ ?_)|(refine Dk h.la (fun v ah=>?_);subst ah)|(refine Cp (a:=⟨4,oA k.la cv 1,0,1⟩) av (fun r s' e ak ad aZ=>?_) (fun e=>?_))|(refine Cp (a:=⟨3,oA k.la cv 0,size,IntKind.i64.wrap (2*size)⟩) av (fun r s' e ak ad aZ=>?_) (fun e=>?_))|(refine Cp (a:=⟨4,oA k.la cv 1,0, -1⟩) av (fun r s' e ak ad aZ=>?_) (fun e=>?_)))
  |(show ff _ _ _ _ _;first|(refine qO 3 0 W rfl bP aD W W ?_))
  |(refine cA (aC () _ ?_ av rfl (Nat.le_refl _));(simp only[tc,ax.cx,ax.dq,dm,cZ,ge_iff_le,and_true,true_and,and_false,false_and,and_self,reduceCtorEq,Int.reduceEq, *];done))
  |(refine hD (cl _ _ ?_ av);(simp only[tc,ax.cx,ax.dq,dm,cZ,ge_iff_le,and_true,true_and,and_false,false_and,and_self,reduceCtorEq,Int.reduceEq, *];done))
  |(refine cA (aC () _ ?_ av (by simp only[*]) S);(simp only[tc,ax.cx,ax.dq,dm,cZ,ge_iff_le,and_true,true_and,and_false,false_and,and_self,reduceCtorEq,Int.reduceEq, *];done))
  |(refine cA (U _ ?_);(simp only[zJ,ab,dm];done))
  |(refine cA (U _ ?_);(simp only[zJ,ab,dH,cZ,List.getD,List.getElem?_eq_getElem (show(o.c0+2).toNat<k.log.length by have:=aW av;omega)];first|done|rfl))
  |(exact hD (cl (Hj S)))
  |(exact cA (aC _ {s with made:=s.made+1} (Hk S) (h.up (qp _) (show s.made+1<=_ by omega) rfl) (El _) rfl))
  |refine eg ?_
  |(refine eh ?_ ?_<;>(try with_reducible intro ab)<;>(try(exfalso;omega)))
  |with_reducible intro r)<;>(try conv=>whnf))):P:=h
abbrev rk(a:c4):List PanicEntry:=[{v:= .iface 323 (.agg a.l.toArray),recovered:=false}]
def Jz(k:aI)(cv:Int)(s:aq)(g:cg):List Value:=[J k.la.bt,J k.la.nodes,J k.la.buckets,J k.la.h6,J k.la.en,J k.la.cells,J k.la.maps,J k.la.dj,J k.la.cF,J k.la.done,J k.la.count,J k.la.era,J k.la.free,J k.la.alive,J k.la.owner,J k.la.qV,J k.la.qv,J k.la.ring,J k.la.task,J k.la.cell,J k.la.map,J k.la.stack,J k.la.chan,J k.la.node,J k.la.size,J k.a1,.slice g.A g.n g.c,J cv,.slice k.bK k.aM k.bD,J (s.made:Int)]
def fB(k:aI)(cv:Int)(s:aq)(g:cg)(p:Nat)(M:aw):aw:=(ae p,.cs 295 (Jz k cv s g))::(eY g s++M)
abbrev lp(o:cI)(A:Option Addr)(n c:Nat):List Value:=[J o.val,.bool o.eG,J o.err,J o.c0,.slice A n c]
def zJ(k:aI)(x:cI×c4):Int:=if x.1.eG=true then(fq x.2.zq).idx else(fq (k.log.getD (x.1.c0+2).toNat (0,false)).1).idx
def tc(k:aI)(cv kind size:Int)(s:aq):ax Unit:=if kind=1 then .ok () s else
 if kind=2 then(hp k ⟨4,oA k.la cv 1,0,1⟩ s).and fun r s1=>if r.1>=IntKind.i64.wrap (2*size)/\size<k.la.buckets then(hp k ⟨3,oA k.la cv 0,size,IntKind.i64.wrap (2*size)⟩ s1).and fun _ aV=> .ok () aV else .ok () s1
 else(hp k ⟨4,oA k.la cv 1,0, -1⟩ s).and fun _ s1=> .ok () s1
def yw(head obj:Int)(a:c4):c4:=if head<0/\a.cell=obj then{a with cell:=head} else a
def JJ(k:aI)(s:aq):Option Addr:=if k.bD=s.made then k.bK else k.bK.map (·.add (s.made*2))
def qf(k:aI)(s:aq)(j:Nat):aI:=⟨k.la,k.a1,(k.log.drop s.made).take j,JJ k s,j,k.bD-s.made⟩
def e9.isDone:e9->Bool
 | .ask _=>false
 | .done _ _=>true
def m5(k:aI)(s:aq)(op:dp)(j:Nat):e9:=jy (qf k s j) s.gone op
def sn(f:Nat->Bool):Nat->Nat->Nat
 |0,j=>j
 |n+1,j=>if f j=true then j else sn f n (j+1)
def m4(k:aI)(kind e4 order v:Int)(s:aq):ax (cI×c4):=
 match m5 k s ⟨kind,(if eL k.la e4 0<0 then k.la.done else eL k.la e4 0),order,v⟩ (k.log.length-s.made) with
 | .ask a=> .ask (yw (eL k.la e4 0) (if eL k.la e4 0<0 then k.la.done else eL k.la e4 0) a)
 | .done o gs=>if o.c0<0 then .ok (o,⟨0,0,0,0⟩) s else
  .ok ({o with c0:=cB (o.c0+s.made)},match m5 k s ⟨kind,(if eL k.la e4 0<0 then k.la.done else eL k.la e4 0),order,v⟩ o.c0.toNat with
   | .ask a=>yw (eL k.la e4 0) (if eL k.la e4 0<0 then k.la.done else eL k.la e4 0) a
   | .done _ _=>⟨0,0,0,0⟩)
   {s with made:=s.made+sn (fun j=>(m5 k s ⟨kind,(if eL k.la e4 0<0 then k.la.done else eL k.la e4 0),order,v⟩ j).isDone) (k.log.length-s.made-(o.c0.toNat+1)) (o.c0.toNat+1),gone:=gs}
theorem dU.sub{H:World}{B:Nat}{A:Option Addr}{xs:List Value}(h:dU H B A xs)(j:Nat)(fT:List Value)(bV:∀i v,fT[i]?=some v->xs[j+i]?=some v):dU H B (A.map (·.add j)) fT:=by
 rcases h with rfl|⟨b,off,rfl,ab,aj⟩
 ·left
  cases fT with
  |nil=>rfl
  |cons y fT=>have:=bV 0 y rfl;simp at this
 ·refine .inr ⟨b,off+j,by rw[sb,Addr.add_lit],ab,fun i v ah=>?_⟩
  rw[yl]
  exact aj _ v (bV i v ah)
theorem Rz{ck:Type}(f:ck->List Value)(m:Nat)(aK:∀a,(f a).length=m):∀(l:List ck) (d i:Nat),((l.drop d).flatMap f)[i]?=(l.flatMap f)[d*m+i]?
 |[],d,i=>by simp
 |a::l,0,i=>by simp
 |a::l,d+1,i=>by
  rw[List.drop_succ_cons,Rz f m aK l d i,qn,GQ (by rw[aK,z5];omega),aK]
  congr 1
  rw[z5];omega
theorem ad3{ck:Type}(f:ck->List Value)(l:List ck)(j i:Nat)(v:Value)(h:((l.take j).flatMap f)[i]?=some v):(l.flatMap f)[i]?=some v:=by
 have e:l.flatMap f=(l.take j).flatMap f++(l.drop j).flatMap f:=by rw[<-zX,List.take_append_drop]
 rw[e]
 exact GP (l0.1 h).1▸h
theorem bc.sub{H E:World}{M:aw}{k:aI}{cv:Int}{s:aq}{g:cg}{p:Nat}(h:bc H k s g)(a2:dc H (fB k cv s g p M) E)(ab:s.gone.length<=1000000){j:Nat}(a9:s.made+j<=k.log.length):bc E (qf k s j) (aq.start s.gone) ⟨false,g.A,g.n,g.c⟩:=by
 have O:=h.kJ
 have V:=h.lc
 have aa:=h.lm
 refine⟨h.la,cY _,?_,?_,?_,a2.rd ?_,h.fh,h.gc,by show s.gone.length<=1000000+0;omega,h.pP,fun _=>?_⟩
 ·simp only[qf,r9,yh];omega
 ·simp only[qf];omega
 ·simp only[qf,r9,yh];omega
 ·simp only[qf,JJ]
  split
  ·have:j=0:=by omega
   subst this
   exact .inl (by simp)
  ·refine dU.sub h.tF _ _ fun i v ah=>?_
   have:=ad3 hs _ _ _ _ ah
   rw[Rz hs 2 xQ] at this
   exact this
 ·cases aU:g.own with
  |false=>exact a2.rd (h.ea aU)
  |true=>exact(a2.row g.A g.n g.c 187 2 (s.gone.flatMap ft) (by simp[fB,eY,aU])).1
section
theorem Cp{k:aI}{cv:Int}{s:aq}{g:cg}{p:Nat}{a:c4}(h:bc H k s g)(aC:∀r s',hp k a s= .ok r s'->bc H k s' g->s.made<s'.made->s'.gone=s.gone->K (.agg (hs r).toArray) (Y H w0 X (fB k cv s' g p M)))(cl:hp k a s= .ask a->Z (rk a) (Y H w0 X (fB k cv s g p M))):a4 H w0 X (fB k cv s g p M) 261 #[ae p,.agg a.l.toArray] K Z:=by
 have ad:=h.made
 have ai:=h.kJ
 have aW:=h.lm
 refine a7 aoi ?_
 intro az aF
 conv=>whnf
 exact Gy
theorem arz{k:aI}{cv:Int}{s:aq}{g:cg}{p:Nat}{o:cI}{acc:c4}{A:Option Addr}{n c:Nat}(h:bc H k s g)(aW:o.eG=false->0<=o.c0/\o.c0+2<k.log.length)(U:∀v,v=zJ k (o,acc)->K (J v) (Y H w0 X (fB k cv s g p M))):a4 H w0 X (fB k cv s g p M) 302 #[ae p,.agg (lp o A n c).toArray,.agg acc.l.toArray] K Z:=by
 have ai:=h.kJ
 have MZ:=h.lm
 refine a7 aoq ?_
 intro az aF
 conv=>whnf
 exact Gy
theorem abz{k:aI}{cv:Int}{s:aq}{g:cg}{p:Nat}{b1 du:Nat}{size:Int}(h:bc H k s g)(O:(ae b1,aY.cs 293 [ae p])∈M)(aa:(ae du,aY.cs 3 [J (oA k.la cv 1)])∈M)(aC:∀u s',tc k cv 2 size s= .ok u s'->bc H k s' g->s'.gone=s.gone->s.made<=s'.made->K (.tuple #[]) (Y H w0 X (fB k cv s' g p M)))(cl:∀a s',tc k cv 2 size s= .ask a->bc H k s' g->Z (rk a) (Y H w0 X (fB k cv s' g p M))):a4 H w0 X (fB k cv s g p M) 296 #[J size,ae b1,ae du] K Z:=by
 refine a7 aom ?_
 intro az aF
 conv=>whnf
 exact Gy
theorem abA{k:aI}{cv:Int}{s:aq}{g:cg}{p:Nat}{b1 du:Nat}{size:Int}(h:bc H k s g)(O:(ae b1,aY.cs 293 [ae p])∈M)(aa:(ae du,aY.cs 3 [J (oA k.la cv 1)])∈M)(aC:∀u s',tc k cv 3 size s= .ok u s'->bc H k s' g->s'.gone=s.gone->s.made<=s'.made->K (.tuple #[]) (Y H w0 X (fB k cv s' g p M)))(cl:∀a s',tc k cv 3 size s= .ask a->bc H k s' g->Z (rk a) (Y H w0 X (fB k cv s' g p M))):a4 H w0 X (fB k cv s g p M) 297 #[J size,ae b1,ae du] K Z:=by
 refine a7 aon ?_
 intro az aF
 conv=>whnf
 exact Gy
theorem aby{k:aI}{cv:Int}{s:aq}{g:cg}{p:Nat}{size:Int}(h:bc H k s g)(aC:∀u s',tc k cv 1 size s= .ok u s'->bc H k s' g->s'.gone=s.gone->s.made<=s'.made->K (.tuple #[]) (Y H w0 X (fB k cv s' g p M)))(cl:∀a s',tc k cv 1 size s= .ask a->bc H k s' g->Z (rk a) (Y H w0 X (fB k cv s' g p M))):a4 H w0 X (fB k cv s g p M) 295 #[J size] K Z:=by
 refine a7 aol ?_
 intro az aF
 conv=>whnf
 exact Gy
end
theorem Xz {P:Prop} (h:P:=by
 repeat'((first
  |(show ih _ _ _ _;first|(refine gE (by repeat(first|exact List.Mem.head _|refine dr _ ?_|exact db _ b9.q)) aD W W ?_)|(refine gE (by repeat(first|exact List.Mem.head _|refine dr _ ?_|exact db _ b9.o)) aD W W ?_)|(refine gE (by repeat(first|exact List.Mem.head _|refine dr _ ?_|exact db _ b9.l)) aD W W ?_)|(refine gE (by repeat(first|exact List.Mem.head _|refine dr _ ?_|exact db _ b9.h)) aD W W ?_)|(refine p0 (by repeat(first|exact List.Mem.head _|refine dr _ ?_|exact db _ b9.q)) aD W ?_)|(refine p0 (by repeat(first|exact List.Mem.head _|refine dr _ ?_|exact db _ b9.o)) aD W ?_)|(refine p0 (by repeat(first|exact List.Mem.head _|refine dr _ ?_|exact db _ b9.l)) aD W ?_)|(refine p0 (by repeat(first|exact List.Mem.head _|refine dr _ ?_|exact db _ b9.h)) aD W ?_))
  |(show bk _ _ _ _;first|(refine fv (by repeat(first|exact List.Mem.head _|refine dr _ ?_|exact db _ b9.q)) aD W W ?_)|(refine fv (by repeat(first|exact List.Mem.head _|refine dr _ ?_|exact db _ b9.o)) aD W W ?_)|(refine fv (by repeat(first|exact List.Mem.head _|refine dr _ ?_|exact db _ b9.l)) aD W W ?_)|(refine fv (by repeat(first|exact List.Mem.head _|refine dr _ ?_|exact db _ b9.h)) aD W W ?_)|(refine ke (by repeat(first|exact List.Mem.head _|refine dr _ ?_|exact db _ b9.q)) aD W ?_)|(refine ke (by repeat(first|exact List.Mem.head _|refine dr _ ?_|exact db _ b9.o)) aD W ?_)|(refine ke (by repeat(first|exact List.Mem.head _|refine dr _ ?_|exact db _ b9.l)) aD W ?_)|(refine ke (by repeat(first|exact List.Mem.head _|refine dr _ ?_|exact db _ b9.h)) aD W ?_))
  |(show ay _ _ _ _ _ _;first|(refine akL (k:=qf k s j) (gs:=s.gone) (g:=g) (op:=op) (fun E a2=>h.sub a2 ab a9) ?_;rw[show jy (qf k s j) s.gone op=_ from jT]))
  |(show kN _ _ _ _ _ _ _;first|(refine Ld j rfl S ?_))
  |(intro br bz dS ep)
  |(exact cd.imp _ (aJ.sink (_::eY g s) M) (U br bz dS ep))
  |(rw[yw,if_pos S] at U;exact cA U)
  |(rw[yw,if_neg S] at U;exact cA U)
  |refine eg ?_
  |(refine eh ?_ ?_<;>(try with_reducible intro ab)<;>(try(exfalso;omega)))
  |with_reducible intro r)<;>(try conv=>whnf))):P:=h
def Kf(H w0:World)(X:Nat->Prop)(head obj:Int)(F:aw->aw)(M:aw)(K:Value->an->Prop):e9->Prop
 | .ask a=>K (.tuple #[.agg (yw head obj a).l.toArray,.agg #[J 0,.bool false,J 0,J 0,.slice none 0 0],.bool false]) (Y H w0 X (F M))
 | .done o gs=> ∀aR aN,gs.length<=aN->(0<aN->∃b,aR=some ⟨b,0,none⟩)->K (.tuple #[.agg #[J 0,J 0,J 0,J 0],.agg (lp o aR gs.length aN).toArray,.bool true]) (Y H w0 X (F ((.slice aR gs.length aN,.row 187 2 (gs.flatMap ft))::M)))
structure z6(k:aI)(s:aq)(op:dp)(head:Int)(p cU cj a0 hH:Nat)(M:aw):Prop where
 q:(ae cU,aY.cs 293 [ae p])∈M
 o:(ae cj,aY.cs 72 op.l)∈M
 l:(ae a0,aY.cs 75 [.slice (JJ k s) (k.aM-s.made) (k.bD-s.made)])∈M
 h:(ae hH,aY.cs 3 [J head])∈M
section
theorem akL{k:aI}{gs:List cz}{g:cg}{op:dp}(AH:∀E,dc H M E->bc E k (aq.start gs) ⟨false,g.A,g.n,g.c⟩)(U:jn H w0 X M K (jy k gs op)):a4 H w0 X M 304 #[.agg k.la.l.toArray,J k.a1,.slice g.A g.n g.c,.agg op.l.toArray,.slice k.bK k.aM k.bD] K Z:=by
 refine ay.anchor [] M Tw.dg rfl (fun E w fV a2=>akM (AH E a2) ?_)
 cases jT:jy k gs op with
 |ask a=>rw[jT] at U;exact hR.go (aE:=[]) U
 |done o gv=>rw[jT] at U;intro aR aN O V;exact hR.go (aE:=[_]) (U aR aN O V)
theorem alE{k:aI}{cv:Int}{s:aq}{g:cg}{p:Nat}{op:dp}{head:Int}{cU cj a0 hH j:Nat}{a:c4}(h:bc H k s g)(b9:z6 k s op head p cU cj a0 hH M)(ab:s.gone.length<=1000000)(a9:s.made+j<=k.log.length)(jT:m5 k s op j= .ask a)(U:Kf H w0 X head op.o1 (fB k cv s g p) M K (.ask a)):a4 H w0 X (fB k cv s g p M) 303 #[J (j:Int),ae cU,ae cj,ae a0,ae hH] K Z:=by
 have qC:=h.kJ
 have sC:=h.lc
 refine a7 Vt ?_
 intro az aF
 conv=>whnf
 change K _ _ at U
 exact Xz
theorem alF{k:aI}{cv:Int}{s:aq}{g:cg}{p:Nat}{op:dp}{head:Int}{cU cj a0 hH j:Nat}{o:cI}{gs:List cz}(h:bc H k s g)(b9:z6 k s op head p cU cj a0 hH M)(ab:s.gone.length<=1000000)(a9:s.made+j<=k.log.length)(jT:m5 k s op j= .done o gs)(U:Kf H w0 X head op.o1 (fB k cv s g p) M K (.done o gs)):a4 H w0 X (fB k cv s g p M) 303 #[J (j:Int),ae cU,ae cj,ae a0,ae hH] K Z:=by
 have qC:=h.kJ
 have sC:=h.lc
 refine a7 Vt ?_
 intro az aF
 conv=>whnf
 exact Xz
theorem I2{k:aI}{cv:Int}{s:aq}{g:cg}{p:Nat}{op:dp}{head:Int}{cU cj a0 hH j:Nat}(h:bc H k s g)(b9:z6 k s op head p cU cj a0 hH M)(ab:s.gone.length<=1000000)(a9:s.made+j<=k.log.length)(U:Kf H w0 X head op.o1 (fB k cv s g p) M K (m5 k s op j)):a4 H w0 X (fB k cv s g p M) 303 #[J (j:Int),ae cU,ae cj,ae a0,ae hH] K Z:=by
 cases jT:m5 k s op j with
 |ask a=>rw[jT] at U;exact alE h b9 ab a9 jT U
 |done o gs=>rw[jT] at U;exact alF h b9 ab a9 jT U
end
end Go.Proofs.YtcflcebplhdcpaaGreat
