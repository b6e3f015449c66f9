/- Lemmas for the proof, joined from several texts: no statement of its own; their conditions stand in them. -/
import Derived.Test.YtgaopcbjhepklaaGreatGb
import Derived.Test.YtgaopcbjhepklaaGreatGd
import Derived.Test.YtgaopcbjhepklaaGreatGf
/- A frame that goes on: what it comes to is small. -/
namespace Go.Proofs.YtgaopcbjhepklaaGreat
open Go.RowKit
set_option linter.unusedSimpArgs false
set_option linter.unusedVariables false
set_option maxRecDepth 100000
def SR.sm (n : Nat) : SR → Prop
  | .go f => f.stk.length ≤ 100 ∧ f.loc.length = n
  | .ask f q => (f.stk.length ≤ 100 ∧ f.loc.length = n) ∧ q.got.length ≤ 100
  | .err _ => True
theorem sm_ite {c : Prop} [Decidable c] {a b : SR} {n : Nat} (h1 : c → a.sm n) (h2 : ¬ c → b.sm n) : (if c then a else b).sm n := by
  split
  · rename_i h; exact h1 h
  · rename_i h; exact h2 h
theorem instrP_sm {k : MK} {fa : Int → Int} {f : PF} {i : InsP} (h : f.stk.length ≤ 100) : (instrP k fa f i).sm f.loc.length := by
  unfold instrP callP PF.two
  repeat' (first | exact trivial | (refine sm_ite (fun hc => ?_) (fun hc => ?_)))
  all_goals (simp only [SR.sm, PF.nx, PF.pop, List.length_append, List.length_take, List.length_cons, List.length_nil, List.length_set, List.length_drop, and_true] <;> omega)
theorem runP_sm {k : MK} {fa : Int → Int} {b : BodyP} : ∀ (n : Nat) (f : PF) {f' : PF} {q : QP}, f.stk.length ≤ 100 → runP k fa b n f = .ok f' q → (f'.stk.length ≤ 100 ∧ f'.loc.length = f.loc.length) ∧ q.got.length ≤ 100
  | 0, f, f', q, _, h => by simp only [runP] at h; cases h
  | n + 1, f, f', q, hs, h => by
    have hst : (stepP k fa b f).sm f.loc.length := by
      unfold stepP
      refine sm_ite (fun _ => trivial) (fun _ => sm_ite (fun _ => trivial) (fun _ => sm_ite (fun _ => trivial) (fun _ => instrP_sm hs)))
    simp only [runP] at h
    split at h
    · rename_i f1 h1
      rw [h1] at hst
      have := runP_sm n f1 hst.1 h
      rw [hst.2] at this
      exact this
    · rename_i f1 q1 h1
      rw [h1] at hst
      injection h with h2 h3
      subst h2 h3
      exact hst
    · cases h
theorem nextP_sm {c : CodeP} {f : FrP} {f' : PF} {q : QP} (hs : f.stk.length ≤ 100) (h : nextP c f = .ok f' q) : (f'.stk.length ≤ 100 ∧ f'.loc.length = f.loc.length) ∧ q.got.length ≤ 100 := runP_sm _ _ hs h
/-- a frame that went on -/
def frG (k : MK) (v : MV) : FrP := ⟨k.task, k.Ap, k.np, k.cp, k.path, k.fn, v.pc, v.Al, v.nl, v.cl, v.loc, v.As, v.ns, v.cs, v.stk, k.Ak, k.nk, k.ck, k.kids, k.many, v.spent, v.fail⟩
theorem zFr_ok (w : World) : FrOk w zFr := ⟨⟨.inl rfl, rfl, Nat.le_refl _, by decide⟩, ⟨.inl rfl, rfl, Nat.le_refl _, by decide⟩, ⟨.inl rfl, rfl, Nat.le_refl _, by decide⟩, ⟨.inl rfl, rfl, Nat.le_refl _, by decide⟩⟩
theorem putF_len (fs : List FrP) (task : Nat) (f : FrP) : (putF fs task f).length = max fs.length task := by
  simp only [putF, List.length_set, List.length_append, List.length_replicate]; omega
theorem putF_ok {w : World} {fs : List FrP} {task : Nat} {g : FrP} (h0 : ∀ i (h : i < fs.length), i + 1 ≠ task → FrOk w fs[i]) (ht : 1 ≤ task) (hg : FrOk w g) : ∀ f ∈ putF fs task g, FrOk w f := fun f hf => by
  obtain ⟨i, hi, rfl⟩ := List.mem_iff_getElem.1 hf
  simp only [putF, List.getElem_set]
  split
  · exact hg
  · rename_i hne
    rw [List.getElem_append]
    split
    · rename_i h; exact h0 i h (by omega)
    · rw [List.getElem_replicate]; exact zFr_ok w
section
variable {wA w0 : World} {X : Nat → Prop} {M : EL} {K : Value → Ctx → Prop} {Z : PanK}
theorem CallVC.anchorP {P : Program} {f : FuncId} {args : Array Value} (Mk Mr : EL) {M : EL} (he : Enters P f) (hM : List.Perm M (Mk ++ Mr)) (h : ∀ E w Y, InE wA Mr E → CallVC P (CtxA E w Y Mk) f args (RetN wA w0 X E w Y Mr K) (PanN wA w0 X E w Y Mr Z)) : CallVC P (CtxA wA w0 X M) f args K Z :=
  CallVC.imp (Imp.perm hM) (CallVC.anchor Mk Mr he rfl h)
theorem RetN.to {E w : World} {Y : Nat → Prop} {Mr : EL} {v : Value} {M' : EL} (M3 : EL) (hM : M' ++ Mr = M3) (h : K v (CtxA wA w0 X M3)) : RetN wA w0 X E w Y Mr K v (CtxA E w Y M') := by subst hM; exact RetN.go h
theorem PanN.to {E w : World} {Y : Nat → Prop} {Mr : EL} {ch : List PanicEntry} {M' : EL} (M3 : EL) (hM : M' ++ Mr = M3) (h : Z ch (CtxA wA w0 X M3)) : PanN wA w0 X E w Y Mr Z ch (CtxA E w Y M') := by subst hM; exact PanN.go h
theorem InE.fs {E : World} (h : InE wA M E) {A : Option Addr} {n c : Nat} {fs : List FrP} (hf : FsOk wA A n c fs) : FsOk E A n c fs := ⟨h.rd hf.rd, hf.len, hf.cap, hf.sm, fun f hm => h.fr (hf.each f hm)⟩
variable {t : TuP} {bt : Nat} {fs : List FrP} {task : Nat}
/-- what is known behind a frame that went on -/
structure Gone1 (Ms : EL) (fs : List FrP) (task : Nat) (c : CodeP) (f g : FrP) (q : QV) (b n : Nat) : Prop where
  nx : nextP c f = .ok ⟨g.pc, g.spent, g.fail, g.loc, g.stk⟩ (qp q)
  task_ : g.task = f.task
  path : g.path = f.path
  fn : g.fn = f.fn
  kids : g.kids = f.kids
  many : g.many = f.many
  right : rightB c f = true
  kind : q.kind ≠ 0
  ok : ∀ wB E, InE wB Ms E → FrOk E g ∧ OldI E q.Aa q.na q.ca q.got ∧ ((∀ i (h : i < fs.length), i + 1 ≠ task → FrOk E fs[i]) → FsOk E (some ⟨b, 0, none⟩) n n (putF fs task g))
  n_eq : n = max fs.length task
theorem tput2_vc {task : Nat} {ti : Int} (hti : ti = (task : Int)) {f : FrP} {fs : List FrP} (hf : FsOk wA t.Af t.nf t.cf fs) (h0 : 1 ≤ task ∧ task ≤ 1000) (hk : ∀ b n, n = (if t.nf > task then t.nf else task) → K (.tuple #[]) (CtxA wA w0 X (tE { t with Af := some ⟨b, 0, none⟩, nf := n, cf := n } bt ((.slice (some ⟨b, 0, none⟩) n n, .row 36 10 ((putF fs task f).flatMap FrP.l)) :: M)))) :
    CallVC Tryz.prog (CtxA wA w0 X (tE t bt M)) 72 #[.pointer (some ⟨bt, 0, none⟩), .int .i64 ti, .agg f.l.toArray] K Z := by
  subst hti
  exact tput_vc hf h0 hk
theorem gone1_of {E0 : World} {c : CodeP} {f : FrP} {A : Option Addr} {nf cf : Nat} {Ap : Option Addr} {cp : Nat} {Ak : Option Addr} {ck : Nat} {v : MV} {q : QV} {b n : Nat} (hfE : FrOk E0 f) (hfs : FsOk wA A nf cf fs) (hm : MOk (kOf c f Ap cp Ak ck) v) (hq : QOk q) (hr : rightB c f = true) (hk : q.kind ≠ 0) (he : nextP c f = .ok (pf v) (qp q)) (hn : n = (if nf > task then nf else task)) (h0 : 1 ≤ task ∧ task ≤ 1000) :
    Gone1 ((.slice (some ⟨b, 0, none⟩) n n, .row 36 10 ((putF fs task (frG (kOf c f Ap cp Ak ck) v)).flatMap FrP.l)) :: rowsN (kOf c f Ap cp Ak ck) v q []) fs task c f (frG (kOf c f Ap cp Ak ck) v) q b n := by
  refine ⟨he, rfl, rfl, rfl, rfl, rfl, hr, hk, fun wB E hE => ?_, by have := hfs.len; rw [hn]; split <;> omega⟩
  have hR := rightB_spec hr
  have hsm := nextP_sm (by have := hfE.stk.len; have := hR.ns; omega) he
  have h1 : v.loc.length = f.loc.length := hsm.1.2
  have h2 : q.got.length ≤ 100 := hsm.2
  have h3 := hfE.loc.len
  have h4 := hfE.loc.sm
  have hg : FrOk E (frG (kOf c f Ap cp Ak ck) v) := by
    refine ⟨hE.ownI (t := 3) ?_ hfE.path.sm, hE.ownI (t := 3) ?_ (show v.nl ≤ _ by have := hm.nl; omega), hE.ownI (t := 3) ?_ (show v.ns ≤ _ by have := hm.sm; omega), hE.ownK (t := 67) ?_ hfE.kids.sm⟩
    all_goals exact (by repeat (first | exact List.Mem.head _ | refine List.Mem.tail _ ?_))
  refine ⟨hg, hE.ownI (t := 3) (by repeat (first | exact List.Mem.head _ | refine List.Mem.tail _ ?_)) (by have := hq.len; omega), ?_⟩
  obtain ⟨h5, h6, h7, h8⟩ := hE.row _ _ _ 36 10 ((putF fs task (frG (kOf c f Ap cp Ak ck) v)).flatMap FrP.l) (List.Mem.head _)
  rw [flat_len FrP.l 10 FrP.l_len] at h6
  exact fun h0' => ⟨h5, by omega, Nat.le_refl _, by have := hfs.sm; subst hn; split <;> omega, putF_ok h0' h0.1 hg⟩
set_option maxHeartbeats 4000000 in
theorem tresume_vc {f : FrP} (hc : CodeOk wA t.c) (hfs : FsOk wA t.Af t.nf t.cf fs) (hf : ∀ E, InE wA M E → FrOk E f) (ht : t.s.task = (task : Int)) (h0 : 1 ≤ task ∧ task ≤ 1000)
    (h1 : ∀ e, (rightB t.c f = false ∧ e = 1 ∨ rightB t.c f = true ∧ nextP t.c f = .err e) → Z (overC e 0) (CtxA wA w0 X (tE t bt M)))
    (h2 : ∀ g q ph o0 o1 o2 o3 b n M', Gone1 M' fs task t.c f g q b n → goOp t.s q f.task = ⟨ph, o0, o1, o2, o3⟩ → K (.tuple #[]) (CtxA wA w0 X (tE { t with s := goS t.s q ⟨ph, o0, o1, o2, o3⟩, Af := some ⟨b, 0, none⟩, nf := n, cf := n } bt (M' ++ M)))) :
    CallVC Tryz.prog (CtxA wA w0 X (tE t bt M)) 73 #[.pointer (some ⟨bt, 0, none⟩), .agg f.l.toArray] K Z := by
  refine it73 (by rfl) ?_
  intro w2 X2
  conv => whnf
  repeat' (first
    | (refine CallVC.anchor [] _ en10 rfl (fun E w Y hE => go_vc (s := t.s) (hE.code hc) (hf E (hE.less (fun e he => .tail _ he))) (fun hr => RetN.to (tE t bt M) rfl ?_) (fun hr e he => RetN.to (tE t bt M) rfl ?_) (fun hr Ap cp Ak ck v q hm hq hk he ph o0 o1 o2 o3 ho => RetN.to (rowsN (kOf t.c f Ap cp Ak ck) v q (tE t bt M)) rfl ?_)) <;> conv => whnf)
    | (refine PanT.drop (Z := Z) (tE t bt M) (by repeat (first | exact List.Sublist.refl _ | refine List.Sublist.cons_cons _ ?_ | refine List.Sublist.cons _ ?_)) (h1 1 (.inl ⟨by assumption, rfl⟩)))
    | (refine PanT.drop (Z := Z) (tE t bt M) (by repeat (first | exact List.Sublist.refl _ | refine List.Sublist.cons_cons _ ?_ | refine List.Sublist.cons _ ?_)) (h1 _ (.inr ⟨by assumption, by assumption⟩)))
    | (refine splitB.neI (fun hb => ?_) (fun hb => absurd hb (nextP_err he)); conv => whnf)
    | (refine CallVC.anchorP (tE { t with s := goS t.s q ⟨ph, o0, o1, o2, o3⟩ } bt []) (rowsN (kOf t.c f Ap cp Ak ck) v q M) en72 (List.perm_middle (l₁ := rowsN (kOf t.c f Ap cp Ak ck) v q [])) (fun E2 w3 Y2 hE2 => tput2_vc (t := { t with s := goS t.s q ⟨ph, o0, o1, o2, o3⟩ }) ht (f := frG (kOf t.c f Ap cp Ak ck) v) (hE2.fs hfs) h0 (fun b n hn => RetN.to (tE { t with s := goS t.s q ⟨ph, o0, o1, o2, o3⟩, Af := some ⟨b, 0, none⟩, nf := n, cf := n } bt ((.slice (some ⟨b, 0, none⟩) n n, .row 36 10 ((putF fs task (frG (kOf t.c f Ap cp Ak ck) v)).flatMap FrP.l)) :: rowsN (kOf t.c f Ap cp Ak ck) v q M)) rfl ?_)); conv => whnf)
    | (exact RetT.drop (K := K) _ (List.Sublist.refl _) (h2 _ q ph o0 o1 o2 o3 b n ((.slice (some ⟨b, 0, none⟩) n n, .row 36 10 ((putF fs task (frG (kOf t.c f Ap cp Ak ck) v)).flatMap FrP.l)) :: rowsN (kOf t.c f Ap cp Ak ck) v q []) (gone1_of (hf E (hE.less (fun e he => .tail _ he))) hfs hm hq hr hk he hn h0) ho))
    | (refine opMkI (by rfl) (tab_ok _ _ (by rfl)) (by rfl) ?_; conv => whnf)
    | (refine opPan (by rfl) (by rfl) ?_; conv => whnf)
    | (refine JoinVC.go ?_; conv => whnf)
    | (refine RetA.go ?_; conv => whnf)
    | (refine PanA.go ?_; conv => whnf)
    | (refine And.intro ?_ ?_ <;> conv => whnf)
    | (refine ldA (by repeat (first | exact List.Mem.head _ | refine List.Mem.tail _ ?_)) (tab_ok _ _ (by rfl)) (by rfl) (by rfl) ?_; conv => whnf)
    | (refine ldsA (by repeat (first | exact List.Mem.head _ | refine List.Mem.tail _ ?_)) (tab_ok _ _ (by rfl)) (by rfl) ?_; conv => whnf)
    | (refine stA (tab_ok _ _ (by rfl)) (by repeat (first | exact AtE.here | apply AtE.there)) ?_; conv => whnf)
    | (refine splitB.dec (fun hb => ?_) (fun hb => ?_) <;> first | (exfalso; omega) | (conv => whnf))
    | (refine splitB.ndec (fun hb => ?_) (fun hb => ?_) <;> first | (exfalso; omega) | (conv => whnf))
    | (refine splitB.eqI (fun hb => ?_) (fun hb => ?_) <;> first | (exfalso; omega) | (conv => whnf))
    | (refine splitB.neI (fun hb => ?_) (fun hb => ?_) <;> first | (exfalso; omega) | (conv => whnf))
    | (intro r bx; conv => whnf))
end
end Go.Proofs.YtgaopcbjhepklaaGreat
/- A seat's turn: what is ahead of its phase, and behind. -/
namespace Go.Proofs.YtgaopcbjhepklaaGreat
open Go.RowKit
set_option linter.unusedSimpArgs false
set_option linter.unusedVariables false
set_option maxRecDepth 100000
abbrev tz : List Value := [.int .i64 0, .int .i64 0, .int .i64 0, .int .i64 0, .int .i64 0, .int .i64 0, .int .i64 0, .int .i64 0, .int .i64 0, .int .i64 0, .slice none 0 0, .int .i64 0, .int .i64 0, .int .i64 0, .int .i64 0, .slice none 0 0, .slice none 0 0, .slice none 0 0, .int .i64 0, .slice none 0 0, .int .i64 0, .bool false, .int .i64 0, .int .i64 0]
/-- what a turn answers -/
def tdL (s : SeP) (Af : Option Addr) (nf cf : Nat) (sits : Int) (ov : Bool) (e v : Int) : List Value := s.l ++ [.slice Af nf cf, .int .i64 sits, .bool ov, .int .i64 e, .int .i64 v]
theorem Addr.add_zero (a : Addr) : a.add 0 = a := by
  cases a with
  | mk b o p => cases p <;> simp [Addr.add]
theorem opClip {P : Program} {C : Ctx} {t e : TypeId} {sz : Nat} {zs : List Value} {ev : Operand → Value} {o : Oper} {x h m : Operand} {A : Option Addr} {n c : Nat} {k k' : IntKind} {K : Value → Ctx → Prop} {Z : PanK} (hE : ElOk P t e sz zs) (ho : o.op = .slice t x none (some h) (some m)) (hx : ev x = .slice A n c) (hh : ev h = .int k n) (hm : ev m = .int k' n) (hn : n ≤ c) (h : K (.slice A n n) C) : OpVC P C (execOp ev o) K Z := by
  obtain ⟨i, z, hi, _⟩ := hE.parts
  have hA : A.map (fun x => x.add 0) = A := by cases A <;> simp [Addr.add_zero]
  refine opA (fun w => ?_) h
  have h1 : ∀ c' : BoundsCode, (Instr.sliceBound (.int k' n) c c').run P w = .ok n w := fun c' => by simpa using run_sliceBound (P := P) (w := w) (c := c') (k := k') (i := (n : Int)) (y := c) (by omega) (by omega)
  have h2 : ∀ c' : BoundsCode, (Instr.sliceBound (.int k n) n c').run P w = .ok n w := fun c' => by simpa using run_sliceBound (P := P) (w := w) (c := c') (k := k) (i := (n : Int)) (y := n) (by omega) (by omega)
  simp [execOp, ho, hx, hh, hm, Instr.sliceAt, run_underlying hE.sl, Instr.slice, Instr.sliceBounds, h1, h2, sizeOf, typeInfo, hi, hA]
abbrev turnD (b9 b10 b11 b14 : Nat) : Deferred := { target := .fn (.func 32) #[.pointer (some ⟨b9, 0, none⟩), .pointer (some ⟨b10, 0, none⟩), .pointer (some ⟨b11, 0, none⟩), .pointer (some ⟨b14, 0, none⟩)], args := #[] }
/-- the variables that the deferred closure looks at -/
def turnE (s : SeP) (Af : Option Addr) (nf cf : Nat) (me : Int) (d : List Value) (b9 b10 b11 b14 : Nat) (M : EL) : EL := (.pointer (some ⟨b14, 0, none⟩), .cs 57 d) :: (.pointer (some ⟨b11, 0, none⟩), .cs 3 [.int .i64 me]) :: (.pointer (some ⟨b10, 0, none⟩), .cs 39 [.slice Af nf cf]) :: (.pointer (some ⟨b9, 0, none⟩), .cs 33 s.l) :: M
theorem semNeI2 {x y : Operand} {v : Value} {C : Ctx} {K : Value → Ctx → Prop} (b : Bool) (hv : (v = .nilIface ∧ b = false) ∨ ∃ t u, v = .iface t u ∧ b = true) (hy : (y matches .const _) = true) (h : K (.bool b) C) : SemVC Tryz.prog C (do eqGuard .neq 20 x y v .nilIface; binOp .neq 20 v .nilIface) K := by
  have hu : Tryz.prog.underlying 20 = some (.interface #[]) := by kernel_rfl
  have e : Op.maxDepth = (Op.maxDepth - 1) + 1 := rfl
  refine semA (fun w => ?_) h
  rcases hv with ⟨rfl, rfl⟩ | ⟨t, u, rfl, rfl⟩
  · cases y <;> simp at hy
    simp [eqGuard, binOp, Op.equal]; rw [e]; simp [Op.equalIn, run_underlying hu]
  · simp [eqGuard, binOp, Op.equal]; rw [e]; simp [Op.equalIn, run_underlying hu]
theorem runAssO {w : World} {e v : Int} : (Instr.typeAssert (overV e v) 20 92 true).run Tryz.prog w = .ok (.tuple #[.agg #[.int .i64 e, .int .i64 v], .bool true]) w := by
  obtain ⟨n, hu⟩ : ∃ n, Tryz.prog.underlying 92 = some (.struct n) := ⟨_, by rfl⟩
  simp [Instr.typeAssert, run_underlying hu]
theorem opAssO {ev : Operand → Value} {o : Oper} {x : Operand} {e v : Int} (ho : o.op = .typeAssert x 20 92 true) (hx : ev x = overV e v) {C : Ctx} {K : Value → Ctx → Prop} {Z : PanK} (h : K (.tuple #[.agg #[.int .i64 e, .int .i64 v], .bool true]) C) : OpVC Tryz.prog C (execOp ev o) K Z :=
  opA (fun w => by simp [execOp, ho, hx, runAssO]) h
section
variable {wA w0 : World} {X : Nat → Prop} {M : EL}
set_option maxHeartbeats 4000000 in
theorem trec_pan {K : FrameMode → Ctx → Prop} {s : SeP} {Af : Option Addr} {nf cf : Nat} {me : Int} {d : List Value} (hd : d.length = 24) {b9 b10 b11 b14 : Nat} {e v : Int} (hk : K (.panicking [{ v := overV e v, recovered := true }]) (CtxA wA w0 X (turnE s Af nf cf me (tdL s Af nf cf me true e v) b9 b10 b11 b14 M))) :
    DefVC Tryz.prog (CtxA wA w0 X (turnE s Af nf cf me d b9 b10 b11 b14 M)) (turnD b9 b10 b11 b14) (.panicking [{ v := overV e v, recovered := false }]) K := by
  match d, hd with
  | [d0, d1, d2, d3, d4, d5, d6, d7, d8, d9, d10, d11, d12, d13, d14, d15, d16, d17, d18, d19, d20, d21, d22, d23], _ =>
  refine df32 (args := [.pointer (some ⟨b9, 0, none⟩), .pointer (some ⟨b10, 0, none⟩), .pointer (some ⟨b11, 0, none⟩), .pointer (some ⟨b14, 0, none⟩)]) (by rfl) rfl rfl ?_
  intro w2 X2
  conv => whnf
  refine semNeI2 true (.inr ⟨_, _, rfl, rfl⟩) rfl ?_
  conv => whnf
  repeat' (first
    | (refine ldsA (by repeat (first | exact List.Mem.head _ | refine List.Mem.tail _ ?_)) (tab_ok _ _ (by rfl)) (by rfl) ?_; conv => whnf)
    | (refine ldA (by repeat (first | exact List.Mem.head _ | refine List.Mem.tail _ ?_)) (tab_ok _ _ (by rfl)) (by rfl) (by rfl) ?_; conv => whnf)
    | (refine stA (tab_ok _ _ (by rfl)) (by repeat (first | exact AtE.here | apply AtE.there)) ?_; conv => whnf)
    | (refine opAssO (e := e) (v := v) (by rfl) (by rfl) ?_; conv => whnf)
    | (refine JoinVC.go ?_; conv => whnf))
  exact RetA.drop _ (List.Sublist.refl _) hk
set_option maxHeartbeats 4000000 in
theorem trec_ret {K : FrameMode → Ctx → Prop} {b9 b10 b11 b14 : Nat} (hk : K .returning (CtxA wA w0 X M)) : DefVC Tryz.prog (CtxA wA w0 X M) (turnD b9 b10 b11 b14) .returning K := by
  refine df32 (args := [.pointer (some ⟨b9, 0, none⟩), .pointer (some ⟨b10, 0, none⟩), .pointer (some ⟨b11, 0, none⟩), .pointer (some ⟨b14, 0, none⟩)]) (by rfl) rfl rfl ?_
  intro w2 X2
  conv => whnf
  refine semNeI2 false (.inl ⟨rfl, rfl⟩) rfl ?_
  conv => whnf
  exact RetA.drop _ (List.Sublist.refl _) hk
end
/-- what a method of a turn comes to -/
def Meth (wA : World) (F : FuncId) (t0 : TuP) (R : TuP → EL → Prop) (E : Int → Int → Prop) : Prop :=
  ∀ (w0 : World) (X : Nat → Prop) (M : EL) (bt : Nat) (K : Value → Ctx → Prop) (Z : PanK), (∀ t' M', R t' M' → K (.tuple #[]) (CtxA wA w0 X (tE t' bt (M' ++ M)))) → (∀ e v t' M', E e v → Z (overC e v) (CtxA wA w0 X (tE t' bt (M' ++ M)))) → CallVC Tryz.prog (CtxA wA w0 X (tE t0 bt M)) F #[.pointer (some ⟨bt, 0, none⟩)] K Z
theorem permJ {α : Type} (a : α) (M' L M : List α) : List.Perm (a :: (M' ++ (L ++ M))) (a :: (L ++ (M' ++ M))) := by
  refine List.Perm.cons _ ?_
  rw [← List.append_assoc, ← List.append_assoc]
  exact List.Perm.append_right _ List.perm_append_comm
section
variable {wA w0 : World} {X : Nat → Prop} {M : EL} {K : Value → Ctx → Prop} {Z : PanK}
abbrev phsL (bt : Nat) : List Value := [.func (.func 34) #[.pointer (some ⟨bt, 0, none⟩)] #[], .func (.func 35) #[.pointer (some ⟨bt, 0, none⟩)] #[], .func (.func 36) #[.pointer (some ⟨bt, 0, none⟩)] #[], .func (.func 37) #[.pointer (some ⟨bt, 0, none⟩)] #[], .func (.func 38) #[.pointer (some ⟨bt, 0, none⟩)] #[], .func (.func 39) #[.pointer (some ⟨bt, 0, none⟩)] #[]]
abbrev turn0 (c : CodeP) (la : LaP) (s : SeP) (Af : Option Addr) (nf cf : Nat) (me worker : Int) (u : OuP) : TuP := ⟨c, la, { s with Ag := u.Ag, ng := u.ng, cg := u.ng }, Af, nf, cf, me, worker, u, me⟩
abbrev turnL (s : SeP) (Af : Option Addr) (nf cf : Nat) (me : Int) (d : List Value) (b9 b10 b11 b14 b16 bt : Nat) : EL := (.pointer (some ⟨b16, 0, none⟩), .cs 98 (phsL bt)) :: turnE s Af nf cf me d b9 b10 b11 b14 []
end
end Go.Proofs.YtgaopcbjhepklaaGreat
/- A seat's turn by its phase. -/
namespace Go.Proofs.YtgaopcbjhepklaaGreat
open Go.RowKit
set_option linter.unusedSimpArgs false
set_option linter.unusedVariables false
set_option maxRecDepth 100000
section
variable {wA w0 : World} {X : Nat → Prop} {M : EL} {K : Value → Ctx → Prop} {Z : PanK}
set_option maxHeartbeats 8000000 in
theorem turn0_vc {c : CodeP} {la : LaP} {s : SeP} {Af : Option Addr} {nf cf : Nat} {me worker : Int} {u : OuP} {R : TuP → EL → Prop} {E : Int → Int → Prop} (hu : u.err = 0 ∨ s.o0 = 10 ∧ u.err = 16) (hg : u.ng ≤ u.cg) (hp : s.phase = 0)
    (hM : Meth wA 34 (turn0 c la s Af nf cf me worker u) R E)
    (h1 : ∀ t' M', R t' M' → K (.agg (tdL t'.s t'.Af t'.nf t'.cf t'.sits false 0 0).toArray) (CtxA wA w0 X (M' ++ M)))
    (h2 : ∀ e v M', E e v → K (.agg (tdL s Af nf cf me true e v).toArray) (CtxA wA w0 X (M' ++ M))) :
    CallVC Tryz.prog (CtxA wA w0 X M) 17 #[.agg c.l.toArray, .agg la.l.toArray, .agg s.l.toArray, .slice Af nf cf, .int .i64 me, .int .i64 worker, .agg u.l.toArray] K Z := by
  obtain ⟨val, is_, err, point, Agu, ngu, cgu⟩ := u
  obtain ⟨phase, at_, task, qk, qa, qb, p0, p1, p2, p3, Aq, nq, cq, o0, o1, o2, o3, Al, nl, cl, As, ns, cs, Ag, ng, cg, hold⟩ := s
  replace hp : phase = 0 := hp
  subst hp
  replace hg : ngu ≤ cgu := hg
  replace hu : err = 0 ∨ o0 = 10 ∧ err = 16 := hu
  refine it17 (by rfl) ?_
  intro w2 X2
  conv => whnf
  refine boxA (SeP.l _) rfl fun b9 => ?_
  conv => whnf
  refine boxA [.slice Af nf cf] rfl fun b10 => ?_
  conv => whnf
  refine boxA [.int .i64 me] rfl fun b11 => ?_
  conv => whnf
  refine allocA (tab_ok _ _ (by rfl)) _ rfl fun b14 => ?_
  conv => whnf
  refine opMkF (by rfl) ?_
  conv => whnf
  rcases hu with rfl | ⟨rfl, rfl⟩
  all_goals conv => whnf
  all_goals skip
  repeat' (first
    | (refine ia33 (by rfl) ?_; intro w1 X1; conv => whnf)
    | (refine opClip el31 (by rfl) (by rfl) (by rfl) (by rfl) hg ?_; conv => whnf)
    | (refine boxA (TuP.l ⟨c, la, _, Af, nf, cf, me, worker, ⟨val, is_, _, point, Agu, ngu, cgu⟩, me⟩) rfl fun bt => ?_; conv => whnf)
    | (refine opMkF (by rfl) ?_; conv => whnf)
    | (refine opMkI (by rfl) (tab_ok _ _ (by rfl)) (by rfl) ?_; conv => whnf)
    | (refine opPan (by rfl) (by rfl) ?_; conv => whnf)
    | (refine JoinVC.go ?_; conv => whnf)
    | (refine RetA.go ?_; conv => whnf)
    | (refine PanA.go ?_; conv => whnf)
    | (refine And.intro ?_ ?_ <;> conv => whnf)
    | (refine ldA (by repeat (first | exact List.Mem.head _ | refine List.Mem.tail _ ?_)) (tab_ok _ _ (by rfl)) (by rfl) (by rfl) ?_; conv => whnf)
    | (refine ldsA (by repeat (first | exact List.Mem.head _ | refine List.Mem.tail _ ?_)) (tab_ok _ _ (by rfl)) (by rfl) ?_; conv => whnf)
    | (refine stA (tab_ok _ _ (by rfl)) (by repeat (first | exact AtE.here | apply AtE.there)) ?_; conv => whnf)
    | (refine splitB.dec (fun hb => ?_) (fun hb => ?_) <;> first | (exfalso; omega) | (conv => whnf))
    | (refine splitB.ndec (fun hb => ?_) (fun hb => ?_) <;> first | (exfalso; omega) | (conv => whnf))
    | (refine splitB.eqI (fun hb => ?_) (fun hb => ?_) <;> first | (exfalso; omega) | (conv => whnf))
    | (refine splitB.neI (fun hb => ?_) (fun hb => ?_) <;> first | (exfalso; omega) | (conv => whnf))
    | (intro r bx; conv => whnf))
  · have hM := hM
    show SemVC _ (CtxA wA w2 X2 (tE (turn0 c la ⟨0, at_, task, qk, qa, qb, p0, p1, p2, p3, Aq, nq, cq, o0, o1, o2, o3, Al, nl, cl, As, ns, cs, Ag, ng, cg, hold⟩ Af nf cf me worker ⟨val, is_, 0, point, Agu, ngu, cgu⟩) bt (turnE ⟨0, at_, task, qk, qa, qb, p0, p1, p2, p3, Aq, nq, cq, o0, o1, o2, o3, Al, nl, cl, As, ns, cs, Ag, ng, cg, hold⟩ Af nf cf me tz b9 b10 b11 b14 M))) _ _
    refine buildA (n := 6) (e := 1) (by kernel_rfl) (tab_ok _ _ (by rfl)) (tab_ok _ _ (by rfl)) ?_
    conv => whnf
    refine allocA (tab_ok _ _ (by rfl)) _ rfl fun b16 => ?_
    conv => whnf
    refine stA (tab_ok _ _ (by rfl)) AtE.here ?_
    conv => whnf
    refine JoinVC.go ?_
    conv => whnf
    show SemVC _ (CtxA wA w2 X2 ((.pointer (some ⟨b16, 0, none⟩), .cs 98 (phsL bt)) :: tE (turn0 c la ⟨0, at_, task, qk, qa, qb, p0, p1, p2, p3, Aq, nq, cq, o0, o1, o2, o3, Al, nl, cl, As, ns, cs, Ag, ng, cg, hold⟩ Af nf cf me worker ⟨val, is_, 0, point, Agu, ngu, cgu⟩) bt (turnE ⟨0, at_, task, qk, qa, qb, p0, p1, p2, p3, Aq, nq, cq, o0, o1, o2, o3, Al, nl, cl, As, ns, cs, Ag, ng, cg, hold⟩ Af nf cf me tz b9 b10 b11 b14 M))) _ _
    repeat' (first
      | (refine idxArrN 0 rfl (n := 6) (e := 1) (by kernel_rfl) (tab_ok _ _ (by rfl)) (by decide) ?_; conv => whnf)
      | (refine CallVC.imp (Imp.perm (List.Perm.swap _ _ _)) (hM _ _ ((.pointer (some ⟨b16, 0, none⟩), .cs 98 (phsL bt)) :: turnE ⟨0, at_, task, qk, qa, qb, p0, p1, p2, p3, Aq, nq, cq, o0, o1, o2, o3, Al, nl, cl, As, ns, cs, Ag, ng, cg, hold⟩ Af nf cf me tz b9 b10 b11 b14 M) bt _ _ (fun t' M' hR => ?_) (fun e v t' M' hE => ?_)) <;> conv => whnf)
      | (refine opMkI (by rfl) (tab_ok _ _ (by rfl)) (by rfl) ?_; conv => whnf)
      | (refine opPan (by rfl) (by rfl) ?_; conv => whnf)
      | (refine JoinVC.go ?_; conv => whnf)
      | (refine RetA.go ?_; conv => whnf)
      | (refine PanA.go ?_; conv => whnf)
      | (refine And.intro ?_ ?_ <;> conv => whnf)
      | (refine ldA (by repeat (first | exact List.Mem.head _ | refine List.Mem.tail _ ?_)) (tab_ok _ _ (by rfl)) (by rfl) (by rfl) ?_; conv => whnf)
      | (refine ldsA (by repeat (first | exact List.Mem.head _ | refine List.Mem.tail _ ?_)) (tab_ok _ _ (by rfl)) (by rfl) ?_; conv => whnf)
      | (refine stA (tab_ok _ _ (by rfl)) (by repeat (first | exact AtE.here | apply AtE.there)) ?_; conv => whnf)
      | (refine splitB.dec (fun hb => ?_) (fun hb => ?_) <;> first | (exfalso; omega) | (conv => whnf))
      | (refine splitB.ndec (fun hb => ?_) (fun hb => ?_) <;> first | (exfalso; omega) | (conv => whnf))
      | (refine splitB.eqI (fun hb => ?_) (fun hb => ?_) <;> first | (exfalso; omega) | (conv => whnf))
      | (refine splitB.neI (fun hb => ?_) (fun hb => ?_) <;> first | (exfalso; omega) | (conv => whnf))
      | (intro r bx; conv => whnf))
    repeat' (first
      | (refine StoVC.imp (Imp.perm (permJ _ M' (turnL ⟨0, at_, task, qk, qa, qb, p0, p1, p2, p3, Aq, nq, cq, o0, o1, o2, o3, Al, nl, cl, As, ns, cs, Ag, ng, cg, hold⟩ Af nf cf me tz b9 b10 b11 b14 b16 bt) M)) ?_; refine stA (tab_ok _ _ (by rfl)) (.there (.there .here)) ?_; conv => whnf)
      | (refine DefVC.imp ((Imp.perm (permJ _ M' (turnL ⟨0, at_, task, qk, qa, qb, p0, p1, p2, p3, Aq, nq, cq, o0, o1, o2, o3, Al, nl, cl, As, ns, cs, Ag, ng, cg, hold⟩ Af nf cf me tz b9 b10 b11 b14 b16 bt) M)).trans (Imp.sub (.cons _ (.cons _ (.refl _))))) (trec_pan rfl ?_); conv => whnf)
      | (refine trec_ret ?_; conv => whnf)
      | (refine ressA (by repeat (first | exact List.Mem.head _ | refine List.Mem.tail _ ?_)) (tab_ok _ _ (by rfl)) (by rfl) ?_; conv => whnf)
      | (exact RetT.imp (K := K) (M' ++ M) (Imp.sub (by repeat (first | exact List.Sublist.refl _ | refine List.Sublist.cons _ ?_))) (h1 t' M' (by assumption)))
      | (exact RetT.imp (K := K) (M' ++ M) (Imp.sub (by repeat (first | exact List.Sublist.refl _ | refine List.Sublist.cons _ ?_))) (h2 _ _ M' (by assumption))))
  · have hM := hM
    show SemVC _ (CtxA wA w2 X2 (tE (turn0 c la ⟨0, at_, task, qk, qa, qb, p0, p1, p2, p3, Aq, nq, cq, 10, o1, o2, o3, Al, nl, cl, As, ns, cs, Ag, ng, cg, hold⟩ Af nf cf me worker ⟨val, is_, 16, point, Agu, ngu, cgu⟩) bt (turnE ⟨0, at_, task, qk, qa, qb, p0, p1, p2, p3, Aq, nq, cq, 10, o1, o2, o3, Al, nl, cl, As, ns, cs, Ag, ng, cg, hold⟩ Af nf cf me tz b9 b10 b11 b14 M))) _ _
    refine buildA (n := 6) (e := 1) (by kernel_rfl) (tab_ok _ _ (by rfl)) (tab_ok _ _ (by rfl)) ?_
    conv => whnf
    refine allocA (tab_ok _ _ (by rfl)) _ rfl fun b16 => ?_
    conv => whnf
    refine stA (tab_ok _ _ (by rfl)) AtE.here ?_
    conv => whnf
    refine JoinVC.go ?_
    conv => whnf
    show SemVC _ (CtxA wA w2 X2 ((.pointer (some ⟨b16, 0, none⟩), .cs 98 (phsL bt)) :: tE (turn0 c la ⟨0, at_, task, qk, qa, qb, p0, p1, p2, p3, Aq, nq, cq, 10, o1, o2, o3, Al, nl, cl, As, ns, cs, Ag, ng, cg, hold⟩ Af nf cf me worker ⟨val, is_, 16, point, Agu, ngu, cgu⟩) bt (turnE ⟨0, at_, task, qk, qa, qb, p0, p1, p2, p3, Aq, nq, cq, 10, o1, o2, o3, Al, nl, cl, As, ns, cs, Ag, ng, cg, hold⟩ Af nf cf me tz b9 b10 b11 b14 M))) _ _
    repeat' (first
      | (refine idxArrN 0 rfl (n := 6) (e := 1) (by kernel_rfl) (tab_ok _ _ (by rfl)) (by decide) ?_; conv => whnf)
      | (refine CallVC.imp (Imp.perm (List.Perm.swap _ _ _)) (hM _ _ ((.pointer (some ⟨b16, 0, none⟩), .cs 98 (phsL bt)) :: turnE ⟨0, at_, task, qk, qa, qb, p0, p1, p2, p3, Aq, nq, cq, 10, o1, o2, o3, Al, nl, cl, As, ns, cs, Ag, ng, cg, hold⟩ Af nf cf me tz b9 b10 b11 b14 M) bt _ _ (fun t' M' hR => ?_) (fun e v t' M' hE => ?_)) <;> conv => whnf)
      | (refine opMkI (by rfl) (tab_ok _ _ (by rfl)) (by rfl) ?_; conv => whnf)
      | (refine opPan (by rfl) (by rfl) ?_; conv => whnf)
      | (refine JoinVC.go ?_; conv => whnf)
      | (refine RetA.go ?_; conv => whnf)
      | (refine PanA.go ?_; conv => whnf)
      | (refine And.intro ?_ ?_ <;> conv => whnf)
      | (refine ldA (by repeat (first | exact List.Mem.head _ | refine List.Mem.tail _ ?_)) (tab_ok _ _ (by rfl)) (by rfl) (by rfl) ?_; conv => whnf)
      | (refine ldsA (by repeat (first | exact List.Mem.head _ | refine List.Mem.tail _ ?_)) (tab_ok _ _ (by rfl)) (by rfl) ?_; conv => whnf)
      | (refine stA (tab_ok _ _ (by rfl)) (by repeat (first | exact AtE.here | apply AtE.there)) ?_; conv => whnf)
      | (refine splitB.dec (fun hb => ?_) (fun hb => ?_) <;> first | (exfalso; omega) | (conv => whnf))
      | (refine splitB.ndec (fun hb => ?_) (fun hb => ?_) <;> first | (exfalso; omega) | (conv => whnf))
      | (refine splitB.eqI (fun hb => ?_) (fun hb => ?_) <;> first | (exfalso; omega) | (conv => whnf))
      | (refine splitB.neI (fun hb => ?_) (fun hb => ?_) <;> first | (exfalso; omega) | (conv => whnf))
      | (intro r bx; conv => whnf))
    repeat' (first
      | (refine StoVC.imp (Imp.perm (permJ _ M' (turnL ⟨0, at_, task, qk, qa, qb, p0, p1, p2, p3, Aq, nq, cq, 10, o1, o2, o3, Al, nl, cl, As, ns, cs, Ag, ng, cg, hold⟩ Af nf cf me tz b9 b10 b11 b14 b16 bt) M)) ?_; refine stA (tab_ok _ _ (by rfl)) (.there (.there .here)) ?_; conv => whnf)
      | (refine DefVC.imp ((Imp.perm (permJ _ M' (turnL ⟨0, at_, task, qk, qa, qb, p0, p1, p2, p3, Aq, nq, cq, 10, o1, o2, o3, Al, nl, cl, As, ns, cs, Ag, ng, cg, hold⟩ Af nf cf me tz b9 b10 b11 b14 b16 bt) M)).trans (Imp.sub (.cons _ (.cons _ (.refl _))))) (trec_pan rfl ?_); conv => whnf)
      | (refine trec_ret ?_; conv => whnf)
      | (refine ressA (by repeat (first | exact List.Mem.head _ | refine List.Mem.tail _ ?_)) (tab_ok _ _ (by rfl)) (by rfl) ?_; conv => whnf)
      | (exact RetT.imp (K := K) (M' ++ M) (Imp.sub (by repeat (first | exact List.Sublist.refl _ | refine List.Sublist.cons _ ?_))) (h1 t' M' (by assumption)))
      | (exact RetT.imp (K := K) (M' ++ M) (Imp.sub (by repeat (first | exact List.Sublist.refl _ | refine List.Sublist.cons _ ?_))) (h2 _ _ M' (by assumption))))
end
end Go.Proofs.YtgaopcbjhepklaaGreat
/- A seat's turn by its phase. -/
namespace Go.Proofs.YtgaopcbjhepklaaGreat
open Go.RowKit
set_option linter.unusedSimpArgs false
set_option linter.unusedVariables false
set_option maxRecDepth 100000
section
variable {wA w0 : World} {X : Nat → Prop} {M : EL} {K : Value → Ctx → Prop} {Z : PanK}
set_option maxHeartbeats 8000000 in
theorem turn1_vc {c : CodeP} {la : LaP} {s : SeP} {Af : Option Addr} {nf cf : Nat} {me worker : Int} {u : OuP} {R : TuP → EL → Prop} {E : Int → Int → Prop} (hu : u.err = 0 ∨ s.o0 = 10 ∧ u.err = 16) (hg : u.ng ≤ u.cg) (hp : s.phase = 1)
    (hM : Meth wA 35 (turn0 c la s Af nf cf me worker u) R E)
    (h1 : ∀ t' M', R t' M' → K (.agg (tdL t'.s t'.Af t'.nf t'.cf t'.sits false 0 0).toArray) (CtxA wA w0 X (M' ++ M)))
    (h2 : ∀ e v M', E e v → K (.agg (tdL s Af nf cf me true e v).toArray) (CtxA wA w0 X (M' ++ M))) :
    CallVC Tryz.prog (CtxA wA w0 X M) 17 #[.agg c.l.toArray, .agg la.l.toArray, .agg s.l.toArray, .slice Af nf cf, .int .i64 me, .int .i64 worker, .agg u.l.toArray] K Z := by
  obtain ⟨val, is_, err, point, Agu, ngu, cgu⟩ := u
  obtain ⟨phase, at_, task, qk, qa, qb, p0, p1, p2, p3, Aq, nq, cq, o0, o1, o2, o3, Al, nl, cl, As, ns, cs, Ag, ng, cg, hold⟩ := s
  replace hp : phase = 1 := hp
  subst hp
  replace hg : ngu ≤ cgu := hg
  replace hu : err = 0 ∨ o0 = 10 ∧ err = 16 := hu
  refine it17 (by rfl) ?_
  intro w2 X2
  conv => whnf
  refine boxA (SeP.l _) rfl fun b9 => ?_
  conv => whnf
  refine boxA [.slice Af nf cf] rfl fun b10 => ?_
  conv => whnf
  refine boxA [.int .i64 me] rfl fun b11 => ?_
  conv => whnf
  refine allocA (tab_ok _ _ (by rfl)) _ rfl fun b14 => ?_
  conv => whnf
  refine opMkF (by rfl) ?_
  conv => whnf
  rcases hu with rfl | ⟨rfl, rfl⟩
  all_goals conv => whnf
  all_goals skip
  repeat' (first
    | (refine ia33 (by rfl) ?_; intro w1 X1; conv => whnf)
    | (refine opClip el31 (by rfl) (by rfl) (by rfl) (by rfl) hg ?_; conv => whnf)
    | (refine boxA (TuP.l ⟨c, la, _, Af, nf, cf, me, worker, ⟨val, is_, _, point, Agu, ngu, cgu⟩, me⟩) rfl fun bt => ?_; conv => whnf)
    | (refine opMkF (by rfl) ?_; conv => whnf)
    | (refine opMkI (by rfl) (tab_ok _ _ (by rfl)) (by rfl) ?_; conv => whnf)
    | (refine opPan (by rfl) (by rfl) ?_; conv => whnf)
    | (refine JoinVC.go ?_; conv => whnf)
    | (refine RetA.go ?_; conv => whnf)
    | (refine PanA.go ?_; conv => whnf)
    | (refine And.intro ?_ ?_ <;> conv => whnf)
    | (refine ldA (by repeat (first | exact List.Mem.head _ | refine List.Mem.tail _ ?_)) (tab_ok _ _ (by rfl)) (by rfl) (by rfl) ?_; conv => whnf)
    | (refine ldsA (by repeat (first | exact List.Mem.head _ | refine List.Mem.tail _ ?_)) (tab_ok _ _ (by rfl)) (by rfl) ?_; conv => whnf)
    | (refine stA (tab_ok _ _ (by rfl)) (by repeat (first | exact AtE.here | apply AtE.there)) ?_; conv => whnf)
    | (refine splitB.dec (fun hb => ?_) (fun hb => ?_) <;> first | (exfalso; omega) | (conv => whnf))
    | (refine splitB.ndec (fun hb => ?_) (fun hb => ?_) <;> first | (exfalso; omega) | (conv => whnf))
    | (refine splitB.eqI (fun hb => ?_) (fun hb => ?_) <;> first | (exfalso; omega) | (conv => whnf))
    | (refine splitB.neI (fun hb => ?_) (fun hb => ?_) <;> first | (exfalso; omega) | (conv => whnf))
    | (intro r bx; conv => whnf))
  · have hM := hM
    show SemVC _ (CtxA wA w2 X2 (tE (turn0 c la ⟨1, at_, task, qk, qa, qb, p0, p1, p2, p3, Aq, nq, cq, o0, o1, o2, o3, Al, nl, cl, As, ns, cs, Ag, ng, cg, hold⟩ Af nf cf me worker ⟨val, is_, 0, point, Agu, ngu, cgu⟩) bt (turnE ⟨1, at_, task, qk, qa, qb, p0, p1, p2, p3, Aq, nq, cq, o0, o1, o2, o3, Al, nl, cl, As, ns, cs, Ag, ng, cg, hold⟩ Af nf cf me tz b9 b10 b11 b14 M))) _ _
    refine buildA (n := 6) (e := 1) (by kernel_rfl) (tab_ok _ _ (by rfl)) (tab_ok _ _ (by rfl)) ?_
    conv => whnf
    refine allocA (tab_ok _ _ (by rfl)) _ rfl fun b16 => ?_
    conv => whnf
    refine stA (tab_ok _ _ (by rfl)) AtE.here ?_
    conv => whnf
    refine JoinVC.go ?_
    conv => whnf
    show SemVC _ (CtxA wA w2 X2 ((.pointer (some ⟨b16, 0, none⟩), .cs 98 (phsL bt)) :: tE (turn0 c la ⟨1, at_, task, qk, qa, qb, p0, p1, p2, p3, Aq, nq, cq, o0, o1, o2, o3, Al, nl, cl, As, ns, cs, Ag, ng, cg, hold⟩ Af nf cf me worker ⟨val, is_, 0, point, Agu, ngu, cgu⟩) bt (turnE ⟨1, at_, task, qk, qa, qb, p0, p1, p2, p3, Aq, nq, cq, o0, o1, o2, o3, Al, nl, cl, As, ns, cs, Ag, ng, cg, hold⟩ Af nf cf me tz b9 b10 b11 b14 M))) _ _
    repeat' (first
      | (refine idxArrN 1 rfl (n := 6) (e := 1) (by kernel_rfl) (tab_ok _ _ (by rfl)) (by decide) ?_; conv => whnf)
      | (refine CallVC.imp (Imp.perm (List.Perm.swap _ _ _)) (hM _ _ ((.pointer (some ⟨b16, 0, none⟩), .cs 98 (phsL bt)) :: turnE ⟨1, at_, task, qk, qa, qb, p0, p1, p2, p3, Aq, nq, cq, o0, o1, o2, o3, Al, nl, cl, As, ns, cs, Ag, ng, cg, hold⟩ Af nf cf me tz b9 b10 b11 b14 M) bt _ _ (fun t' M' hR => ?_) (fun e v t' M' hE => ?_)) <;> conv => whnf)
      | (refine opMkI (by rfl) (tab_ok _ _ (by rfl)) (by rfl) ?_; conv => whnf)
      | (refine opPan (by rfl) (by rfl) ?_; conv => whnf)
      | (refine JoinVC.go ?_; conv => whnf)
      | (refine RetA.go ?_; conv => whnf)
      | (refine PanA.go ?_; conv => whnf)
      | (refine And.intro ?_ ?_ <;> conv => whnf)
      | (refine ldA (by repeat (first | exact List.Mem.head _ | refine List.Mem.tail _ ?_)) (tab_ok _ _ (by rfl)) (by rfl) (by rfl) ?_; conv => whnf)
      | (refine ldsA (by repeat (first | exact List.Mem.head _ | refine List.Mem.tail _ ?_)) (tab_ok _ _ (by rfl)) (by rfl) ?_; conv => whnf)
      | (refine stA (tab_ok _ _ (by rfl)) (by repeat (first | exact AtE.here | apply AtE.there)) ?_; conv => whnf)
      | (refine splitB.dec (fun hb => ?_) (fun hb => ?_) <;> first | (exfalso; omega) | (conv => whnf))
      | (refine splitB.ndec (fun hb => ?_) (fun hb => ?_) <;> first | (exfalso; omega) | (conv => whnf))
      | (refine splitB.eqI (fun hb => ?_) (fun hb => ?_) <;> first | (exfalso; omega) | (conv => whnf))
      | (refine splitB.neI (fun hb => ?_) (fun hb => ?_) <;> first | (exfalso; omega) | (conv => whnf))
      | (intro r bx; conv => whnf))
    repeat' (first
      | (refine StoVC.imp (Imp.perm (permJ _ M' (turnL ⟨1, at_, task, qk, qa, qb, p0, p1, p2, p3, Aq, nq, cq, o0, o1, o2, o3, Al, nl, cl, As, ns, cs, Ag, ng, cg, hold⟩ Af nf cf me tz b9 b10 b11 b14 b16 bt) M)) ?_; refine stA (tab_ok _ _ (by rfl)) (.there (.there .here)) ?_; conv => whnf)
      | (refine DefVC.imp ((Imp.perm (permJ _ M' (turnL ⟨1, at_, task, qk, qa, qb, p0, p1, p2, p3, Aq, nq, cq, o0, o1, o2, o3, Al, nl, cl, As, ns, cs, Ag, ng, cg, hold⟩ Af nf cf me tz b9 b10 b11 b14 b16 bt) M)).trans (Imp.sub (.cons _ (.cons _ (.refl _))))) (trec_pan rfl ?_); conv => whnf)
      | (refine trec_ret ?_; conv => whnf)
      | (refine ressA (by repeat (first | exact List.Mem.head _ | refine List.Mem.tail _ ?_)) (tab_ok _ _ (by rfl)) (by rfl) ?_; conv => whnf)
      | (exact RetT.imp (K := K) (M' ++ M) (Imp.sub (by repeat (first | exact List.Sublist.refl _ | refine List.Sublist.cons _ ?_))) (h1 t' M' (by assumption)))
      | (exact RetT.imp (K := K) (M' ++ M) (Imp.sub (by repeat (first | exact List.Sublist.refl _ | refine List.Sublist.cons _ ?_))) (h2 _ _ M' (by assumption))))
  · have hM := hM
    show SemVC _ (CtxA wA w2 X2 (tE (turn0 c la ⟨1, at_, task, qk, qa, qb, p0, p1, p2, p3, Aq, nq, cq, 10, o1, o2, o3, Al, nl, cl, As, ns, cs, Ag, ng, cg, hold⟩ Af nf cf me worker ⟨val, is_, 16, point, Agu, ngu, cgu⟩) bt (turnE ⟨1, at_, task, qk, qa, qb, p0, p1, p2, p3, Aq, nq, cq, 10, o1, o2, o3, Al, nl, cl, As, ns, cs, Ag, ng, cg, hold⟩ Af nf cf me tz b9 b10 b11 b14 M))) _ _
    refine buildA (n := 6) (e := 1) (by kernel_rfl) (tab_ok _ _ (by rfl)) (tab_ok _ _ (by rfl)) ?_
    conv => whnf
    refine allocA (tab_ok _ _ (by rfl)) _ rfl fun b16 => ?_
    conv => whnf
    refine stA (tab_ok _ _ (by rfl)) AtE.here ?_
    conv => whnf
    refine JoinVC.go ?_
    conv => whnf
    show SemVC _ (CtxA wA w2 X2 ((.pointer (some ⟨b16, 0, none⟩), .cs 98 (phsL bt)) :: tE (turn0 c la ⟨1, at_, task, qk, qa, qb, p0, p1, p2, p3, Aq, nq, cq, 10, o1, o2, o3, Al, nl, cl, As, ns, cs, Ag, ng, cg, hold⟩ Af nf cf me worker ⟨val, is_, 16, point, Agu, ngu, cgu⟩) bt (turnE ⟨1, at_, task, qk, qa, qb, p0, p1, p2, p3, Aq, nq, cq, 10, o1, o2, o3, Al, nl, cl, As, ns, cs, Ag, ng, cg, hold⟩ Af nf cf me tz b9 b10 b11 b14 M))) _ _
    repeat' (first
      | (refine idxArrN 1 rfl (n := 6) (e := 1) (by kernel_rfl) (tab_ok _ _ (by rfl)) (by decide) ?_; conv => whnf)
      | (refine CallVC.imp (Imp.perm (List.Perm.swap _ _ _)) (hM _ _ ((.pointer (some ⟨b16, 0, none⟩), .cs 98 (phsL bt)) :: turnE ⟨1, at_, task, qk, qa, qb, p0, p1, p2, p3, Aq, nq, cq, 10, o1, o2, o3, Al, nl, cl, As, ns, cs, Ag, ng, cg, hold⟩ Af nf cf me tz b9 b10 b11 b14 M) bt _ _ (fun t' M' hR => ?_) (fun e v t' M' hE => ?_)) <;> conv => whnf)
      | (refine opMkI (by rfl) (tab_ok _ _ (by rfl)) (by rfl) ?_; conv => whnf)
      | (refine opPan (by rfl) (by rfl) ?_; conv => whnf)
      | (refine JoinVC.go ?_; conv => whnf)
      | (refine RetA.go ?_; conv => whnf)
      | (refine PanA.go ?_; conv => whnf)
      | (refine And.intro ?_ ?_ <;> conv => whnf)
      | (refine ldA (by repeat (first | exact List.Mem.head _ | refine List.Mem.tail _ ?_)) (tab_ok _ _ (by rfl)) (by rfl) (by rfl) ?_; conv => whnf)
      | (refine ldsA (by repeat (first | exact List.Mem.head _ | refine List.Mem.tail _ ?_)) (tab_ok _ _ (by rfl)) (by rfl) ?_; conv => whnf)
      | (refine stA (tab_ok _ _ (by rfl)) (by repeat (first | exact AtE.here | apply AtE.there)) ?_; conv => whnf)
      | (refine splitB.dec (fun hb => ?_) (fun hb => ?_) <;> first | (exfalso; omega) | (conv => whnf))
      | (refine splitB.ndec (fun hb => ?_) (fun hb => ?_) <;> first | (exfalso; omega) | (conv => whnf))
      | (refine splitB.eqI (fun hb => ?_) (fun hb => ?_) <;> first | (exfalso; omega) | (conv => whnf))
      | (refine splitB.neI (fun hb => ?_) (fun hb => ?_) <;> first | (exfalso; omega) | (conv => whnf))
      | (intro r bx; conv => whnf))
    repeat' (first
      | (refine StoVC.imp (Imp.perm (permJ _ M' (turnL ⟨1, at_, task, qk, qa, qb, p0, p1, p2, p3, Aq, nq, cq, 10, o1, o2, o3, Al, nl, cl, As, ns, cs, Ag, ng, cg, hold⟩ Af nf cf me tz b9 b10 b11 b14 b16 bt) M)) ?_; refine stA (tab_ok _ _ (by rfl)) (.there (.there .here)) ?_; conv => whnf)
      | (refine DefVC.imp ((Imp.perm (permJ _ M' (turnL ⟨1, at_, task, qk, qa, qb, p0, p1, p2, p3, Aq, nq, cq, 10, o1, o2, o3, Al, nl, cl, As, ns, cs, Ag, ng, cg, hold⟩ Af nf cf me tz b9 b10 b11 b14 b16 bt) M)).trans (Imp.sub (.cons _ (.cons _ (.refl _))))) (trec_pan rfl ?_); conv => whnf)
      | (refine trec_ret ?_; conv => whnf)
      | (refine ressA (by repeat (first | exact List.Mem.head _ | refine List.Mem.tail _ ?_)) (tab_ok _ _ (by rfl)) (by rfl) ?_; conv => whnf)
      | (exact RetT.imp (K := K) (M' ++ M) (Imp.sub (by repeat (first | exact List.Sublist.refl _ | refine List.Sublist.cons _ ?_))) (h1 t' M' (by assumption)))
      | (exact RetT.imp (K := K) (M' ++ M) (Imp.sub (by repeat (first | exact List.Sublist.refl _ | refine List.Sublist.cons _ ?_))) (h2 _ _ M' (by assumption))))
end
end Go.Proofs.YtgaopcbjhepklaaGreat
/- A seat's turn by its phase. -/
namespace Go.Proofs.YtgaopcbjhepklaaGreat
open Go.RowKit
set_option linter.unusedSimpArgs false
set_option linter.unusedVariables false
set_option maxRecDepth 100000
section
variable {wA w0 : World} {X : Nat → Prop} {M : EL} {K : Value → Ctx → Prop} {Z : PanK}
set_option maxHeartbeats 8000000 in
theorem turn5_vc {c : CodeP} {la : LaP} {s : SeP} {Af : Option Addr} {nf cf : Nat} {me worker : Int} {u : OuP} {R : TuP → EL → Prop} {E : Int → Int → Prop} (hu : u.err = 0 ∨ s.o0 = 10 ∧ u.err = 16) (hg : u.ng ≤ u.cg) (hp : s.phase = 5)
    (hM : Meth wA 39 (turn0 c la s Af nf cf me worker u) R E)
    (h1 : ∀ t' M', R t' M' → K (.agg (tdL t'.s t'.Af t'.nf t'.cf t'.sits false 0 0).toArray) (CtxA wA w0 X (M' ++ M)))
    (h2 : ∀ e v M', E e v → K (.agg (tdL s Af nf cf me true e v).toArray) (CtxA wA w0 X (M' ++ M))) :
    CallVC Tryz.prog (CtxA wA w0 X M) 17 #[.agg c.l.toArray, .agg la.l.toArray, .agg s.l.toArray, .slice Af nf cf, .int .i64 me, .int .i64 worker, .agg u.l.toArray] K Z := by
  obtain ⟨val, is_, err, point, Agu, ngu, cgu⟩ := u
  obtain ⟨phase, at_, task, qk, qa, qb, p0, p1, p2, p3, Aq, nq, cq, o0, o1, o2, o3, Al, nl, cl, As, ns, cs, Ag, ng, cg, hold⟩ := s
  replace hp : phase = 5 := hp
  subst hp
  replace hg : ngu ≤ cgu := hg
  replace hu : err = 0 ∨ o0 = 10 ∧ err = 16 := hu
  refine it17 (by rfl) ?_
  intro w2 X2
  conv => whnf
  refine boxA (SeP.l _) rfl fun b9 => ?_
  conv => whnf
  refine boxA [.slice Af nf cf] rfl fun b10 => ?_
  conv => whnf
  refine boxA [.int .i64 me] rfl fun b11 => ?_
  conv => whnf
  refine allocA (tab_ok _ _ (by rfl)) _ rfl fun b14 => ?_
  conv => whnf
  refine opMkF (by rfl) ?_
  conv => whnf
  rcases hu with rfl | ⟨rfl, rfl⟩
  all_goals conv => whnf
  all_goals skip
  repeat' (first
    | (refine ia33 (by rfl) ?_; intro w1 X1; conv => whnf)
    | (refine opClip el31 (by rfl) (by rfl) (by rfl) (by rfl) hg ?_; conv => whnf)
    | (refine boxA (TuP.l ⟨c, la, _, Af, nf, cf, me, worker, ⟨val, is_, _, point, Agu, ngu, cgu⟩, me⟩) rfl fun bt => ?_; conv => whnf)
    | (refine opMkF (by rfl) ?_; conv => whnf)
    | (refine opMkI (by rfl) (tab_ok _ _ (by rfl)) (by rfl) ?_; conv => whnf)
    | (refine opPan (by rfl) (by rfl) ?_; conv => whnf)
    | (refine JoinVC.go ?_; conv => whnf)
    | (refine RetA.go ?_; conv => whnf)
    | (refine PanA.go ?_; conv => whnf)
    | (refine And.intro ?_ ?_ <;> conv => whnf)
    | (refine ldA (by repeat (first | exact List.Mem.head _ | refine List.Mem.tail _ ?_)) (tab_ok _ _ (by rfl)) (by rfl) (by rfl) ?_; conv => whnf)
    | (refine ldsA (by repeat (first | exact List.Mem.head _ | refine List.Mem.tail _ ?_)) (tab_ok _ _ (by rfl)) (by rfl) ?_; conv => whnf)
    | (refine stA (tab_ok _ _ (by rfl)) (by repeat (first | exact AtE.here | apply AtE.there)) ?_; conv => whnf)
    | (refine splitB.dec (fun hb => ?_) (fun hb => ?_) <;> first | (exfalso; omega) | (conv => whnf))
    | (refine splitB.ndec (fun hb => ?_) (fun hb => ?_) <;> first | (exfalso; omega) | (conv => whnf))
    | (refine splitB.eqI (fun hb => ?_) (fun hb => ?_) <;> first | (exfalso; omega) | (conv => whnf))
    | (refine splitB.neI (fun hb => ?_) (fun hb => ?_) <;> first | (exfalso; omega) | (conv => whnf))
    | (intro r bx; conv => whnf))
  · have hM := hM
    show SemVC _ (CtxA wA w2 X2 (tE (turn0 c la ⟨5, at_, task, qk, qa, qb, p0, p1, p2, p3, Aq, nq, cq, o0, o1, o2, o3, Al, nl, cl, As, ns, cs, Ag, ng, cg, hold⟩ Af nf cf me worker ⟨val, is_, 0, point, Agu, ngu, cgu⟩) bt (turnE ⟨5, at_, task, qk, qa, qb, p0, p1, p2, p3, Aq, nq, cq, o0, o1, o2, o3, Al, nl, cl, As, ns, cs, Ag, ng, cg, hold⟩ Af nf cf me tz b9 b10 b11 b14 M))) _ _
    refine buildA (n := 6) (e := 1) (by kernel_rfl) (tab_ok _ _ (by rfl)) (tab_ok _ _ (by rfl)) ?_
    conv => whnf
    refine allocA (tab_ok _ _ (by rfl)) _ rfl fun b16 => ?_
    conv => whnf
    refine stA (tab_ok _ _ (by rfl)) AtE.here ?_
    conv => whnf
    refine JoinVC.go ?_
    conv => whnf
    show SemVC _ (CtxA wA w2 X2 ((.pointer (some ⟨b16, 0, none⟩), .cs 98 (phsL bt)) :: tE (turn0 c la ⟨5, at_, task, qk, qa, qb, p0, p1, p2, p3, Aq, nq, cq, o0, o1, o2, o3, Al, nl, cl, As, ns, cs, Ag, ng, cg, hold⟩ Af nf cf me worker ⟨val, is_, 0, point, Agu, ngu, cgu⟩) bt (turnE ⟨5, at_, task, qk, qa, qb, p0, p1, p2, p3, Aq, nq, cq, o0, o1, o2, o3, Al, nl, cl, As, ns, cs, Ag, ng, cg, hold⟩ Af nf cf me tz b9 b10 b11 b14 M))) _ _
    repeat' (first
      | (refine idxArrN 5 rfl (n := 6) (e := 1) (by kernel_rfl) (tab_ok _ _ (by rfl)) (by decide) ?_; conv => whnf)
      | (refine CallVC.imp (Imp.perm (List.Perm.swap _ _ _)) (hM _ _ ((.pointer (some ⟨b16, 0, none⟩), .cs 98 (phsL bt)) :: turnE ⟨5, at_, task, qk, qa, qb, p0, p1, p2, p3, Aq, nq, cq, o0, o1, o2, o3, Al, nl, cl, As, ns, cs, Ag, ng, cg, hold⟩ Af nf cf me tz b9 b10 b11 b14 M) bt _ _ (fun t' M' hR => ?_) (fun e v t' M' hE => ?_)) <;> conv => whnf)
      | (refine opMkI (by rfl) (tab_ok _ _ (by rfl)) (by rfl) ?_; conv => whnf)
      | (refine opPan (by rfl) (by rfl) ?_; conv => whnf)
      | (refine JoinVC.go ?_; conv => whnf)
      | (refine RetA.go ?_; conv => whnf)
      | (refine PanA.go ?_; conv => whnf)
      | (refine And.intro ?_ ?_ <;> conv => whnf)
      | (refine ldA (by repeat (first | exact List.Mem.head _ | refine List.Mem.tail _ ?_)) (tab_ok _ _ (by rfl)) (by rfl) (by rfl) ?_; conv => whnf)
      | (refine ldsA (by repeat (first | exact List.Mem.head _ | refine List.Mem.tail _ ?_)) (tab_ok _ _ (by rfl)) (by rfl) ?_; conv => whnf)
      | (refine stA (tab_ok _ _ (by rfl)) (by repeat (first | exact AtE.here | apply AtE.there)) ?_; conv => whnf)
      | (refine splitB.dec (fun hb => ?_) (fun hb => ?_) <;> first | (exfalso; omega) | (conv => whnf))
      | (refine splitB.ndec (fun hb => ?_) (fun hb => ?_) <;> first | (exfalso; omega) | (conv => whnf))
      | (refine splitB.eqI (fun hb => ?_) (fun hb => ?_) <;> first | (exfalso; omega) | (conv => whnf))
      | (refine splitB.neI (fun hb => ?_) (fun hb => ?_) <;> first | (exfalso; omega) | (conv => whnf))
      | (intro r bx; conv => whnf))
    repeat' (first
      | (refine StoVC.imp (Imp.perm (permJ _ M' (turnL ⟨5, at_, task, qk, qa, qb, p0, p1, p2, p3, Aq, nq, cq, o0, o1, o2, o3, Al, nl, cl, As, ns, cs, Ag, ng, cg, hold⟩ Af nf cf me tz b9 b10 b11 b14 b16 bt) M)) ?_; refine stA (tab_ok _ _ (by rfl)) (.there (.there .here)) ?_; conv => whnf)
      | (refine DefVC.imp ((Imp.perm (permJ _ M' (turnL ⟨5, at_, task, qk, qa, qb, p0, p1, p2, p3, Aq, nq, cq, o0, o1, o2, o3, Al, nl, cl, As, ns, cs, Ag, ng, cg, hold⟩ Af nf cf me tz b9 b10 b11 b14 b16 bt) M)).trans (Imp.sub (.cons _ (.cons _ (.refl _))))) (trec_pan rfl ?_); conv => whnf)
      | (refine trec_ret ?_; conv => whnf)
      | (refine ressA (by repeat (first | exact List.Mem.head _ | refine List.Mem.tail _ ?_)) (tab_ok _ _ (by rfl)) (by rfl) ?_; conv => whnf)
      | (exact RetT.imp (K := K) (M' ++ M) (Imp.sub (by repeat (first | exact List.Sublist.refl _ | refine List.Sublist.cons _ ?_))) (h1 t' M' (by assumption)))
      | (exact RetT.imp (K := K) (M' ++ M) (Imp.sub (by repeat (first | exact List.Sublist.refl _ | refine List.Sublist.cons _ ?_))) (h2 _ _ M' (by assumption))))
  · have hM := hM
    show SemVC _ (CtxA wA w2 X2 (tE (turn0 c la ⟨5, at_, task, qk, qa, qb, p0, p1, p2, p3, Aq, nq, cq, 10, o1, o2, o3, Al, nl, cl, As, ns, cs, Ag, ng, cg, hold⟩ Af nf cf me worker ⟨val, is_, 16, point, Agu, ngu, cgu⟩) bt (turnE ⟨5, at_, task, qk, qa, qb, p0, p1, p2, p3, Aq, nq, cq, 10, o1, o2, o3, Al, nl, cl, As, ns, cs, Ag, ng, cg, hold⟩ Af nf cf me tz b9 b10 b11 b14 M))) _ _
    refine buildA (n := 6) (e := 1) (by kernel_rfl) (tab_ok _ _ (by rfl)) (tab_ok _ _ (by rfl)) ?_
    conv => whnf
    refine allocA (tab_ok _ _ (by rfl)) _ rfl fun b16 => ?_
    conv => whnf
    refine stA (tab_ok _ _ (by rfl)) AtE.here ?_
    conv => whnf
    refine JoinVC.go ?_
    conv => whnf
    show SemVC _ (CtxA wA w2 X2 ((.pointer (some ⟨b16, 0, none⟩), .cs 98 (phsL bt)) :: tE (turn0 c la ⟨5, at_, task, qk, qa, qb, p0, p1, p2, p3, Aq, nq, cq, 10, o1, o2, o3, Al, nl, cl, As, ns, cs, Ag, ng, cg, hold⟩ Af nf cf me worker ⟨val, is_, 16, point, Agu, ngu, cgu⟩) bt (turnE ⟨5, at_, task, qk, qa, qb, p0, p1, p2, p3, Aq, nq, cq, 10, o1, o2, o3, Al, nl, cl, As, ns, cs, Ag, ng, cg, hold⟩ Af nf cf me tz b9 b10 b11 b14 M))) _ _
    repeat' (first
      | (refine idxArrN 5 rfl (n := 6) (e := 1) (by kernel_rfl) (tab_ok _ _ (by rfl)) (by decide) ?_; conv => whnf)
      | (refine CallVC.imp (Imp.perm (List.Perm.swap _ _ _)) (hM _ _ ((.pointer (some ⟨b16, 0, none⟩), .cs 98 (phsL bt)) :: turnE ⟨5, at_, task, qk, qa, qb, p0, p1, p2, p3, Aq, nq, cq, 10, o1, o2, o3, Al, nl, cl, As, ns, cs, Ag, ng, cg, hold⟩ Af nf cf me tz b9 b10 b11 b14 M) bt _ _ (fun t' M' hR => ?_) (fun e v t' M' hE => ?_)) <;> conv => whnf)
      | (refine opMkI (by rfl) (tab_ok _ _ (by rfl)) (by rfl) ?_; conv => whnf)
      | (refine opPan (by rfl) (by rfl) ?_; conv => whnf)
      | (refine JoinVC.go ?_; conv => whnf)
      | (refine RetA.go ?_; conv => whnf)
      | (refine PanA.go ?_; conv => whnf)
      | (refine And.intro ?_ ?_ <;> conv => whnf)
      | (refine ldA (by repeat (first | exact List.Mem.head _ | refine List.Mem.tail _ ?_)) (tab_ok _ _ (by rfl)) (by rfl) (by rfl) ?_; conv => whnf)
      | (refine ldsA (by repeat (first | exact List.Mem.head _ | refine List.Mem.tail _ ?_)) (tab_ok _ _ (by rfl)) (by rfl) ?_; conv => whnf)
      | (refine stA (tab_ok _ _ (by rfl)) (by repeat (first | exact AtE.here | apply AtE.there)) ?_; conv => whnf)
      | (refine splitB.dec (fun hb => ?_) (fun hb => ?_) <;> first | (exfalso; omega) | (conv => whnf))
      | (refine splitB.ndec (fun hb => ?_) (fun hb => ?_) <;> first | (exfalso; omega) | (conv => whnf))
      | (refine splitB.eqI (fun hb => ?_) (fun hb => ?_) <;> first | (exfalso; omega) | (conv => whnf))
      | (refine splitB.neI (fun hb => ?_) (fun hb => ?_) <;> first | (exfalso; omega) | (conv => whnf))
      | (intro r bx; conv => whnf))
    repeat' (first
      | (refine StoVC.imp (Imp.perm (permJ _ M' (turnL ⟨5, at_, task, qk, qa, qb, p0, p1, p2, p3, Aq, nq, cq, 10, o1, o2, o3, Al, nl, cl, As, ns, cs, Ag, ng, cg, hold⟩ Af nf cf me tz b9 b10 b11 b14 b16 bt) M)) ?_; refine stA (tab_ok _ _ (by rfl)) (.there (.there .here)) ?_; conv => whnf)
      | (refine DefVC.imp ((Imp.perm (permJ _ M' (turnL ⟨5, at_, task, qk, qa, qb, p0, p1, p2, p3, Aq, nq, cq, 10, o1, o2, o3, Al, nl, cl, As, ns, cs, Ag, ng, cg, hold⟩ Af nf cf me tz b9 b10 b11 b14 b16 bt) M)).trans (Imp.sub (.cons _ (.cons _ (.refl _))))) (trec_pan rfl ?_); conv => whnf)
      | (refine trec_ret ?_; conv => whnf)
      | (refine ressA (by repeat (first | exact List.Mem.head _ | refine List.Mem.tail _ ?_)) (tab_ok _ _ (by rfl)) (by rfl) ?_; conv => whnf)
      | (exact RetT.imp (K := K) (M' ++ M) (Imp.sub (by repeat (first | exact List.Sublist.refl _ | refine List.Sublist.cons _ ?_))) (h1 t' M' (by assumption)))
      | (exact RetT.imp (K := K) (M' ++ M) (Imp.sub (by repeat (first | exact List.Sublist.refl _ | refine List.Sublist.cons _ ?_))) (h2 _ _ M' (by assumption))))
end
end Go.Proofs.YtgaopcbjhepklaaGreat
/- A seat's turn after an error. -/
namespace Go.Proofs.YtgaopcbjhepklaaGreat
open Go.RowKit
set_option linter.unusedSimpArgs false
set_option linter.unusedVariables false
set_option maxRecDepth 100000
section
variable {wA w0 : World} {X : Nat → Prop} {M : EL} {K : Value → Ctx → Prop} {Z : PanK}
set_option maxHeartbeats 8000000 in
theorem turnErr_vc {c : CodeP} {la : LaP} {s : SeP} {Af : Option Addr} {nf cf : Nat} {me worker : Int} {u : OuP} (hu : u.err = 8) (hu2 : s.o0 = 18)
    (h2 : K (.agg (tdL s Af nf cf me true 8 0).toArray) (CtxA wA w0 X M)) :
    CallVC Tryz.prog (CtxA wA w0 X M) 17 #[.agg c.l.toArray, .agg la.l.toArray, .agg s.l.toArray, .slice Af nf cf, .int .i64 me, .int .i64 worker, .agg u.l.toArray] K Z := by
  obtain ⟨val, is_, err, point, Agu, ngu, cgu⟩ := u
  obtain ⟨phase, at_, task, qk, qa, qb, p0, p1, p2, p3, Aq, nq, cq, o0, o1, o2, o3, Al, nl, cl, As, ns, cs, Ag, ng, cg, hold⟩ := s
  replace hu : err = 8 := hu
  replace hu2 : o0 = 18 := hu2
  subst hu hu2
  refine it17 (by rfl) ?_
  intro w2 X2
  conv => whnf
  refine boxA (SeP.l _) rfl fun b9 => ?_
  conv => whnf
  refine boxA [.slice Af nf cf] rfl fun b10 => ?_
  conv => whnf
  refine boxA [.int .i64 me] rfl fun b11 => ?_
  conv => whnf
  refine allocA (tab_ok _ _ (by rfl)) _ rfl fun b14 => ?_
  conv => whnf
  refine opMkF (by rfl) ?_
  conv => whnf
  refine JoinVC.go ?_
  conv => whnf
  refine ldA (by repeat (first | exact List.Mem.head _ | refine List.Mem.tail _ ?_)) (tab_ok _ _ (by rfl)) (by rfl) (by rfl) ?_
  conv => whnf
  refine opMkI (by rfl) (tab_ok _ _ (by rfl)) (by rfl) ?_
  conv => whnf
  refine opPan (by rfl) (by rfl) ?_
  conv => whnf
  refine DefVC.imp (Imp.refl _) (trec_pan (s := ⟨phase, at_, task, qk, qa, qb, p0, p1, p2, p3, Aq, nq, cq, 18, o1, o2, o3, Al, nl, cl, As, ns, cs, Ag, ng, cg, hold⟩) (Af := Af) (nf := nf) (cf := cf) (me := me) (d := tz) (M := M) rfl ?_)
  conv => whnf
  refine ressA (by repeat (first | exact List.Mem.head _ | refine List.Mem.tail _ ?_)) (tab_ok _ _ (by rfl)) (by rfl) ?_
  conv => whnf
  exact RetT.imp (K := K) M (Imp.sub (by repeat (first | exact List.Sublist.refl _ | refine List.Sublist.cons _ ?_))) h2
end
end Go.Proofs.YtgaopcbjhepklaaGreat
/- A seat's turn: a frame is told what it asked for, and goes on. -/
namespace Go.Proofs.YtgaopcbjhepklaaGreat
open Go.RowKit
set_option linter.unusedSimpArgs false
set_option linter.unusedVariables false
set_option maxRecDepth 100000
structure Told1 (f : FrP) (k b : Int) (vs : List Int) (g : FrP) : Prop where
  eq : toldP f k b vs = some ⟨g.stk, g.loc, g.kids, g.many⟩
  task : g.task = f.task
  path : g.path = f.path
  fn : g.fn = f.fn
  pc : g.pc = f.pc
  spent : g.spent = f.spent
  fail : g.fail = f.fail
  lens : g.np = g.path.length ∧ g.nl = g.loc.length ∧ g.ns = g.stk.length ∧ g.nk = g.kids.length
theorem setAll_len2 (loc : List Int) (ks : List KidP) (vs : List Int) : (setAll loc ks vs).length = loc.length := setAll_len ks vs loc
theorem toldP_len {f : FrP} {k b : Int} {vs : List Int} {r : TP} (h : toldP f k b vs = some r) : r.stk.length ≤ f.stk.length + 1 ∧ r.loc.length = f.loc.length ∧ r.kids.length ≤ f.kids.length + 1 := by
  unfold toldP at h
  repeat' split at h
  all_goals first | (cases h; done) | skip
  all_goals (injection h with h; subst h; rename_i h1; refine ⟨?_, ?_, ?_⟩ <;> simp [setAll_len2] <;> omega)
section
variable {wA w0 : World} {X : Nat → Prop} {M : EL} {K : Value → Ctx → Prop} {Z : PanK}
theorem InE.len1 {E : World} (h : InE wA M E) {A : Option Addr} {n c : Nat} {t : TypeId} {xs : List Int} (hm : (Value.slice A n c, DA.row t 1 (is xs)) ∈ M) : n = xs.length := by
  obtain ⟨_, h2, _⟩ := h.row _ _ _ _ _ _ hm
  simpa using h2.symm
theorem InE.len2 {E : World} (h : InE wA M E) {A : Option Addr} {n c : Nat} {t : TypeId} {xs : List KidP} (hm : (Value.slice A n c, DA.row t 2 (kidL xs)) ∈ M) : n = xs.length := by
  obtain ⟨_, h2, _⟩ := h.row _ _ _ _ _ _ hm
  rw [kidL_length] at h2; omega
theorem CallVC.fact {P : Program} {f : FuncId} {args : Array Value} {φ : Prop} (he : Enters P f) (h : ∀ w, InA wA w0 X M w → φ) (hk : φ → CallVC P (CtxA wA w0 X M) f args K Z) : CallVC P (CtxA wA w0 X M) f args K Z := by
  constructor
  exact ⟨he, fun w hw => (hk (h w hw)).out.2 w hw⟩
theorem InA.lenR {w : World} (hw : InA wA w0 X M w) {A : Option Addr} {n c : Nat} {t : TypeId} {sz : Nat} {l : List Value} (hm : (Value.slice A n c, DA.row t sz l) ∈ M) : l.length = n * sz := by
  obtain ⟨A', n', cap', e, hl, _⟩ := hw.new _ hm
  injection e with e1 e2 e3
  subst e1 e2 e3
  exact hl
theorem InA.lensG {w : World} {g : FrP} (hw : InA wA w0 X (rowsG g M) w) : g.np = g.path.length ∧ g.nl = g.loc.length ∧ g.ns = g.stk.length ∧ g.nk = g.kids.length := by
  have h1 := hw.lenR (A := g.Ap) (n := g.np) (c := g.cp) (t := 3) (sz := 1) (l := is g.path) (by repeat (first | exact List.Mem.head _ | refine List.Mem.tail _ ?_))
  have h2 := hw.lenR (A := g.Al) (n := g.nl) (c := g.cl) (t := 3) (sz := 1) (l := is g.loc) (by repeat (first | exact List.Mem.head _ | refine List.Mem.tail _ ?_))
  have h3 := hw.lenR (A := g.As) (n := g.ns) (c := g.cs) (t := 3) (sz := 1) (l := is g.stk) (by repeat (first | exact List.Mem.head _ | refine List.Mem.tail _ ?_))
  have h4 := hw.lenR (A := g.Ak) (n := g.nk) (c := g.ck) (t := 67) (sz := 2) (l := kidL g.kids) (by repeat (first | exact List.Mem.head _ | refine List.Mem.tail _ ?_))
  rw [kidL_length] at h4
  simp at h1 h2 h3
  omega
theorem rowsG_ok {E : World} {f g : FrP} {k b : Int} {vs : List Int} (hE : InE wA (rowsG g M) E) (hf : FrOk E f) (ht : Told1 f k b vs g) (hkb : f.nk ≤ 999999 ∧ f.ns ≤ 999999) : FrOk E g := by
  obtain ⟨h1, h2, h3⟩ := toldP_len ht.eq
  simp only at h1 h2 h3
  have l1 := hf.path.len
  have l2 := hf.loc.len
  have l3 := hf.stk.len
  have l4 := hf.kids.len
  have s1 := hf.path.sm
  have s2 := hf.loc.sm
  have m1 : (Value.slice g.Ap g.np g.cp, DA.row 3 1 (is g.path)) ∈ rowsG g M := (by repeat (first | exact List.Mem.head _ | refine List.Mem.tail _ ?_))
  have m2 : (Value.slice g.Al g.nl g.cl, DA.row 3 1 (is g.loc)) ∈ rowsG g M := (by repeat (first | exact List.Mem.head _ | refine List.Mem.tail _ ?_))
  have m3 : (Value.slice g.As g.ns g.cs, DA.row 3 1 (is g.stk)) ∈ rowsG g M := (by repeat (first | exact List.Mem.head _ | refine List.Mem.tail _ ?_))
  have m4 : (Value.slice g.Ak g.nk g.ck, DA.row 67 2 (kidL g.kids)) ∈ rowsG g M := (by repeat (first | exact List.Mem.head _ | refine List.Mem.tail _ ?_))
  have n1 := hE.len1 m1
  have n2 := hE.len1 m2
  have n3 := hE.len1 m3
  have n4 := hE.len2 m4
  rw [ht.path] at n1
  exact ⟨hE.ownI m1 (by omega), hE.ownI m2 (by omega), hE.ownI m3 (by omega), hE.ownK m4 (by omega)⟩
def AnsE (c : CodeP) (f : FrP) (k b : Int) (vs : List Int) (e : Int) : Prop := (toldP f k b vs = none ∧ e = 1) ∨ ∃ g, Told1 f k b vs g ∧ (rightB c g = false ∧ e = 1 ∨ rightB c g = true ∧ nextP c g = .err e)
variable {t : TuP} {bt : Nat} {fs : List FrP} {task : Nat}
set_option maxHeartbeats 4000000 in
theorem tanswer_vc {f : FrP} {Av : Option Addr} {nv cv : Nat} {vs : List Int} (hc : CodeOk wA t.c) (hfs : FsOk wA t.Af t.nf t.cf fs) (hf : ∀ E, InE wA M E → FrOk E f) (hv : ∀ E, InE wA M E → OldI E Av nv cv vs) (hkb : f.nk ≤ 999999 ∧ f.ns ≤ 999999) (ht : t.s.task = (task : Int)) (h0 : 1 ≤ task ∧ task ≤ 1000)
    (h1 : ∀ e, AnsE t.c f t.s.qk t.s.qb vs e → Z (overC e 0) (CtxA wA w0 X (tE t bt M)))
    (h2 : ∀ g0 g q ph o0 o1 o2 o3 b n M', Told1 f t.s.qk t.s.qb vs g0 → Gone1 M' fs task t.c g0 g q b n → goOp t.s q g0.task = ⟨ph, o0, o1, o2, o3⟩ → K (.tuple #[]) (CtxA wA w0 X (tE { t with s := goS t.s q ⟨ph, o0, o1, o2, o3⟩, Af := some ⟨b, 0, none⟩, nf := n, cf := n } bt (M' ++ M)))) :
    CallVC Tryz.prog (CtxA wA w0 X (tE t bt M)) 68 #[.pointer (some ⟨bt, 0, none⟩), .agg f.l.toArray, .slice Av nv cv] K Z := by
  refine it68 (by rfl) ?_
  intro w2 X2
  conv => whnf
  repeat' (first
    | (refine CallVC.anchor [] _ en119 rfl (fun E w Y hE => told_vc (f := f) (k := t.s.qk) (b := t.s.qb) (hf E (hE.less (fun e he => .tail _ he))) (hv E (hE.less (fun e he => .tail _ he))) (fun hn => RetN.to (tE t bt M) rfl ?_) (fun g0 t1 t2 t3 t4 t5 t6 t7 => RetN.to (rowsG g0 (tE t bt M)) rfl ?_)) <;> conv => whnf)
    | (refine PanT.drop (Z := Z) (tE t bt M) (by repeat (first | exact List.Sublist.refl _ | refine List.Sublist.cons_cons _ ?_ | refine List.Sublist.cons _ ?_)) (h1 1 (.inl ⟨by assumption, rfl⟩)))
    | (refine PanT.drop (Z := Z) (tE t bt M) (by repeat (first | exact List.Sublist.refl _ | refine List.Sublist.cons_cons _ ?_ | refine List.Sublist.cons _ ?_)) (h1 _ (.inr ⟨_, ⟨t1, t2, t3, t4, t5, t6, t7, t8⟩, by assumption⟩)))
    | (refine splitB.neI (fun hb => absurd hb (by decide)) (fun hb => ?_); conv => whnf)
    | (refine splitB.neI (fun hb => ?_) (fun hb => absurd hb (by decide)); conv => whnf)
    | (refine CallVC.fact en73 (fun w hw => InA.lensG hw) (fun t8 => CallVC.imp (Imp.perm (List.perm_middle (l₁ := rowsG g0 []))) (tresume_vc (t := t) (M := rowsG g0 M) (fs := fs) hc hfs (fun E hE => rowsG_ok hE (hf E (hE.less (fun e he => .tail _ (.tail _ (.tail _ (.tail _ he)))))) ⟨t1, t2, t3, t4, t5, t6, t7, t8⟩ hkb) ht h0 (fun e he => ?_) (fun g q ph o0 o1 o2 o3 b n M' hG ho => ?_))) <;> conv => whnf)
    | (refine RetT.drop (K := K) (tE { t with s := goS t.s q ⟨ph, o0, o1, o2, o3⟩, Af := some ⟨b, 0, none⟩, nf := n, cf := n } bt (M' ++ M)) (List.Sublist.cons_cons _ (List.Sublist.append (List.Sublist.refl _) (List.sublist_append_right (rowsG g0 []) M))) (h2 g0 g q ph o0 o1 o2 o3 b n M' ⟨t1, t2, t3, t4, t5, t6, t7, t8⟩ hG ho))
    | (refine opMkI (by rfl) (tab_ok _ _ (by rfl)) (by rfl) ?_; conv => whnf)
    | (refine opPan (by rfl) (by rfl) ?_; conv => whnf)
    | (refine JoinVC.go ?_; conv => whnf)
    | (refine RetA.go ?_; conv => whnf)
    | (refine PanA.go ?_; conv => whnf)
    | (refine And.intro ?_ ?_ <;> conv => whnf)
    | (refine ldA (by repeat (first | exact List.Mem.head _ | refine List.Mem.tail _ ?_)) (tab_ok _ _ (by rfl)) (by rfl) (by rfl) ?_; conv => whnf)
    | (refine ldsA (by repeat (first | exact List.Mem.head _ | refine List.Mem.tail _ ?_)) (tab_ok _ _ (by rfl)) (by rfl) ?_; conv => whnf)
    | (refine stA (tab_ok _ _ (by rfl)) (by repeat (first | exact AtE.here | apply AtE.there)) ?_; conv => whnf)
    | (refine splitB.dec (fun hb => ?_) (fun hb => ?_) <;> first | (exfalso; omega) | (conv => whnf))
    | (refine splitB.ndec (fun hb => ?_) (fun hb => ?_) <;> first | (exfalso; omega) | (conv => whnf))
    | (refine splitB.eqI (fun hb => ?_) (fun hb => ?_) <;> first | (exfalso; omega) | (conv => whnf))
    | (refine splitB.neI (fun hb => ?_) (fun hb => ?_) <;> first | (exfalso; omega) | (conv => whnf))
    | (intro r bx; conv => whnf))
end
end Go.Proofs.YtgaopcbjhepklaaGreat
/- A seat's turn: what comes of an operation. -/
namespace Go.Proofs.YtgaopcbjhepklaaGreat
open Go.RowKit
set_option linter.unusedSimpArgs false
set_option linter.unusedVariables false
set_option maxRecDepth 100000
def soughtA (n at_ : Int) : Int := if w64 (w64 (2 * n) - 2) ≤ at_ then 0 else w64 (at_ + 1)
section
variable {wA w0 : World} {X : Nat → Prop} {M : EL} {K : Value → Ctx → Prop} {Z : PanK}
variable {t : TuP} {bt : Nat} {fs : List FrP} {task : Nat}
set_option maxHeartbeats 4000000 in
theorem tsought_vc (hn : 1 ≤ t.la.seats ∧ t.la.seats ≤ 8)
    (h1 : t.u.is_ = false → ∀ a' o0 o1 o2 o3, a' = atP t.la.seats (soughtA t.la.seats t.s.at_) → seekP t.la.seats t.me t.worker a' = ⟨o0, o1, o2, o3⟩ → K (.tuple #[]) (CtxA wA w0 X (tE { t with s := seekS t.s a' ⟨o0, o1, o2, o3⟩ } bt M)))
    (h2 : t.u.is_ = true → t.s.o0 = 16 → ∀ a' o0 o1 o2 o3, a' = atP t.la.seats 0 → seekP t.la.seats t.me t.worker a' = ⟨o0, o1, o2, o3⟩ → K (.tuple #[]) (CtxA wA w0 X (tE { t with s := seekS t.s a' ⟨o0, o1, o2, o3⟩, sits := t.s.o2 } bt M)))
    (h3 : t.u.is_ = true → t.s.o0 ≠ 16 → K (.tuple #[]) (CtxA wA w0 X (tE { t with s := beginS { t.s with task := t.u.val } 3 0 ⟨12, 0, t.u.val, 0⟩ } bt M))) :
    CallVC Tryz.prog (CtxA wA w0 X (tE t bt M)) 34 #[.pointer (some ⟨bt, 0, none⟩)] K Z := by
  obtain ⟨c, la, s, Af, nf, cf, me, worker, ⟨val, is_, err, point, Ag, ng, cg⟩, sits⟩ := t
  dsimp only at hn h1 h2 h3
  refine it34 (by rfl) ?_
  intro w2 X2
  conv => whnf
  cases is_
  · skip
    repeat' (first
      | (refine tseek_vc (t := ⟨c, la, s, Af, nf, cf, me, worker, ⟨val, false, err, point, Ag, ng, cg⟩, sits⟩) (M := M) hn (fun a' o0 o1 o2 o3 ha ho => ?_); conv => whnf)
      | (refine opMkI (by rfl) (tab_ok _ _ (by rfl)) (by rfl) ?_; conv => whnf)
      | (refine opPan (by rfl) (by rfl) ?_; conv => whnf)
      | (refine JoinVC.go ?_; conv => whnf)
      | (refine RetA.go ?_; conv => whnf)
      | (refine PanA.go ?_; conv => whnf)
      | (refine And.intro ?_ ?_ <;> conv => whnf)
      | (refine ldA (by repeat (first | exact List.Mem.head _ | refine List.Mem.tail _ ?_)) (tab_ok _ _ (by rfl)) (by rfl) (by rfl) ?_; conv => whnf)
      | (refine ldsA (by repeat (first | exact List.Mem.head _ | refine List.Mem.tail _ ?_)) (tab_ok _ _ (by rfl)) (by rfl) ?_; conv => whnf)
      | (refine stA (tab_ok _ _ (by rfl)) (by repeat (first | exact AtE.here | apply AtE.there)) ?_; conv => whnf)
      | (refine splitB.dec (fun hb => ?_) (fun hb => ?_) <;> first | (exfalso; omega) | (conv => whnf))
      | (refine splitB.ndec (fun hb => ?_) (fun hb => ?_) <;> first | (exfalso; omega) | (conv => whnf))
      | (refine splitB.eqI (fun hb => ?_) (fun hb => ?_) <;> first | (exfalso; omega) | (conv => whnf))
      | (refine splitB.neI (fun hb => ?_) (fun hb => ?_) <;> first | (exfalso; omega) | (conv => whnf))
      | (intro r bx; conv => whnf))
    all_goals (dsimp only at hb ha ho; exact RetT.drop (K := K) _ (List.Sublist.refl _) (h1 rfl a' o0 o1 o2 o3 (by rw [ha]; simp only [soughtA, w64]; first | exact congrArg _ (if_pos (by omega)).symm | exact congrArg _ (if_neg (by omega)).symm) ho))
  · skip
    repeat' (first
      | (refine tseek_vc (t := ⟨c, la, s, Af, nf, cf, me, worker, ⟨val, true, err, point, Ag, ng, cg⟩, s.o2⟩) (M := M) hn (fun a' o0 o1 o2 o3 ha ho => ?_); conv => whnf)
      | (refine tbegin_vc (t := ⟨c, la, { s with task := val }, Af, nf, cf, me, worker, ⟨val, true, err, point, Ag, ng, cg⟩, sits⟩) (M := M) ?_; conv => whnf)
      | (exact RetT.drop (K := K) _ (List.Sublist.refl _) (h2 rfl (by omega) a' o0 o1 o2 o3 ha ho))
      | (exact RetT.drop (K := K) _ (List.Sublist.refl _) (h3 rfl (by omega)))
      | (refine opMkI (by rfl) (tab_ok _ _ (by rfl)) (by rfl) ?_; conv => whnf)
      | (refine opPan (by rfl) (by rfl) ?_; conv => whnf)
      | (refine JoinVC.go ?_; conv => whnf)
      | (refine RetA.go ?_; conv => whnf)
      | (refine PanA.go ?_; conv => whnf)
      | (refine And.intro ?_ ?_ <;> conv => whnf)
      | (refine ldA (by repeat (first | exact List.Mem.head _ | refine List.Mem.tail _ ?_)) (tab_ok _ _ (by rfl)) (by rfl) (by rfl) ?_; conv => whnf)
      | (refine ldsA (by repeat (first | exact List.Mem.head _ | refine List.Mem.tail _ ?_)) (tab_ok _ _ (by rfl)) (by rfl) ?_; conv => whnf)
      | (refine stA (tab_ok _ _ (by rfl)) (by repeat (first | exact AtE.here | apply AtE.there)) ?_; conv => whnf)
      | (refine splitB.dec (fun hb => ?_) (fun hb => ?_) <;> first | (exfalso; omega) | (conv => whnf))
      | (refine splitB.ndec (fun hb => ?_) (fun hb => ?_) <;> first | (exfalso; omega) | (conv => whnf))
      | (refine splitB.eqI (fun hb => ?_) (fun hb => ?_) <;> first | (exfalso; omega) | (conv => whnf))
      | (refine splitB.neI (fun hb => ?_) (fun hb => ?_) <;> first | (exfalso; omega) | (conv => whnf))
      | (intro r bx; conv => whnf))
set_option maxHeartbeats 4000000 in
theorem tendedT_vc (hi : t.u.is_ = true) (h1 : Z (overC 0 t.s.o3) (CtxA wA w0 X (tE t bt M))) :
    CallVC Tryz.prog (CtxA wA w0 X (tE t bt M)) 39 #[.pointer (some ⟨bt, 0, none⟩)] K Z := by
  obtain ⟨c, la, s, Af, nf, cf, me, worker, ⟨val, is_, err, point, Ag, ng, cg⟩, sits⟩ := t
  simp only at hi
  subst hi
  refine it39 (by rfl) ?_
  intro w2 X2
  conv => whnf
  repeat' (first
    | (exact PanT.drop (Z := Z) _ (by repeat (first | exact List.Sublist.refl _ | refine List.Sublist.cons_cons _ ?_ | refine List.Sublist.cons _ ?_)) h1)
    | (refine opMkI (by rfl) (tab_ok _ _ (by rfl)) (by rfl) ?_; conv => whnf)
    | (refine opPan (by rfl) (by rfl) ?_; conv => whnf)
    | (refine JoinVC.go ?_; conv => whnf)
    | (refine RetA.go ?_; conv => whnf)
    | (refine PanA.go ?_; conv => whnf)
    | (refine And.intro ?_ ?_ <;> conv => whnf)
    | (refine ldA (by repeat (first | exact List.Mem.head _ | refine List.Mem.tail _ ?_)) (tab_ok _ _ (by rfl)) (by rfl) (by rfl) ?_; conv => whnf)
    | (refine ldsA (by repeat (first | exact List.Mem.head _ | refine List.Mem.tail _ ?_)) (tab_ok _ _ (by rfl)) (by rfl) ?_; conv => whnf)
    | (refine stA (tab_ok _ _ (by rfl)) (by repeat (first | exact AtE.here | apply AtE.there)) ?_; conv => whnf)
    | (refine splitB.dec (fun hb => ?_) (fun hb => ?_) <;> first | (exfalso; omega) | (conv => whnf))
    | (refine splitB.ndec (fun hb => ?_) (fun hb => ?_) <;> first | (exfalso; omega) | (conv => whnf))
    | (refine splitB.eqI (fun hb => ?_) (fun hb => ?_) <;> first | (exfalso; omega) | (conv => whnf))
    | (refine splitB.neI (fun hb => ?_) (fun hb => ?_) <;> first | (exfalso; omega) | (conv => whnf))
    | (intro r bx; conv => whnf))
set_option maxHeartbeats 4000000 in
theorem tranW_vc {i : Nat} (hi : i < fs.length) (hc : CodeOk wA t.c) (hfs : FsOk wA t.Af t.nf t.cf fs) (hkb : fs[i].nk ≤ 999999 ∧ fs[i].ns ≤ 999999) (ht : t.s.task = ((i + 1 : Nat) : Int)) (h0 : i < 1000) (ho : t.s.o0 = 18)
    (h1 : ∀ e, AnsE t.c fs[i] t.s.qk t.s.qb [] e → Z (overC e 0) (CtxA wA w0 X (tE t bt M)))
    (h2 : ∀ g0 g q ph o0 o1 o2 o3 b n M', Told1 fs[i] t.s.qk t.s.qb [] g0 → Gone1 M' fs (i + 1) t.c g0 g q b n → goOp t.s q g0.task = ⟨ph, o0, o1, o2, o3⟩ → K (.tuple #[]) (CtxA wA w0 X (tE { t with s := goS t.s q ⟨ph, o0, o1, o2, o3⟩, Af := some ⟨b, 0, none⟩, nf := n, cf := n } bt (M' ++ M)))) :
    CallVC Tryz.prog (CtxA wA w0 X (tE t bt M)) 35 #[.pointer (some ⟨bt, 0, none⟩)] K Z := by
  refine it35 (by rfl) ?_
  intro w2 X2
  conv => whnf
  repeat' (first
    | (refine tframe_vc hfs (fun j hj hjt => ?_) (fun hnj => ?_); (conv => whnf); obtain rfl : j = i := by omega)
    | (refine tanswer_vc (t := t) (M := M) (fs := fs) (task := j + 1) (f := fs[j]) (Av := none) (nv := 0) (cv := 0) (vs := []) hc hfs (fun E hE => hE.fr (hfs.each _ (List.getElem_mem hj))) (fun E hE => ⟨.inl rfl, rfl, Nat.le_refl _, by decide⟩) hkb ht (by omega) (fun e he => ?_) (fun g0 g q ph o0 o1 o2 o3 b n M' hT hG hO => ?_); conv => whnf)
    | (exact PanT.drop (Z := Z) (tE t bt M) (by repeat (first | exact List.Sublist.refl _ | refine List.Sublist.cons_cons _ ?_ | refine List.Sublist.cons _ ?_)) (h1 _ he))
    | (exact RetT.drop (K := K) _ (List.Sublist.refl _) (h2 g0 g q ph o0 o1 o2 o3 b n M' hT hG hO))
    | ((exfalso; omega))
    | (refine opMkI (by rfl) (tab_ok _ _ (by rfl)) (by rfl) ?_; conv => whnf)
    | (refine opPan (by rfl) (by rfl) ?_; conv => whnf)
    | (refine JoinVC.go ?_; conv => whnf)
    | (refine RetA.go ?_; conv => whnf)
    | (refine PanA.go ?_; conv => whnf)
    | (refine And.intro ?_ ?_ <;> conv => whnf)
    | (refine ldA (by repeat (first | exact List.Mem.head _ | refine List.Mem.tail _ ?_)) (tab_ok _ _ (by rfl)) (by rfl) (by rfl) ?_; conv => whnf)
    | (refine ldsA (by repeat (first | exact List.Mem.head _ | refine List.Mem.tail _ ?_)) (tab_ok _ _ (by rfl)) (by rfl) ?_; conv => whnf)
    | (refine stA (tab_ok _ _ (by rfl)) (by repeat (first | exact AtE.here | apply AtE.there)) ?_; conv => whnf)
    | (refine splitB.dec (fun hb => ?_) (fun hb => ?_) <;> first | (exfalso; omega) | (conv => whnf))
    | (refine splitB.ndec (fun hb => ?_) (fun hb => ?_) <;> first | (exfalso; omega) | (conv => whnf))
    | (refine splitB.eqI (fun hb => ?_) (fun hb => ?_) <;> first | (exfalso; omega) | (conv => whnf))
    | (refine splitB.neI (fun hb => ?_) (fun hb => ?_) <;> first | (exfalso; omega) | (conv => whnf))
    | (intro r bx; conv => whnf))
end
end Go.Proofs.YtgaopcbjhepklaaGreat
/- A seat: what it does, by contracts. -/
namespace Go.Proofs.YtgaopcbjhepklaaGreat
open Go.RowKit
set_option linter.unusedSimpArgs false
set_option linter.unusedVariables false
set_option maxRecDepth 100000
/-- what is known behind a frame that went on by itself -/
structure Gone0 (Ms : EL) (c : CodeP) (f g : FrP) (q : QV) : Prop where
  nx : nextP c f = .ok ⟨g.pc, g.spent, g.fail, g.loc, g.stk⟩ (qp q)
  task_ : g.task = f.task
  path : g.path = f.path
  fn : g.fn = f.fn
  kids : g.kids = f.kids
  many : g.many = f.many
  right : rightB c f = true
  kind : q.kind ≠ 0
  ok : ∀ wB E, InE wB Ms E → FrOk E g ∧ OldI E q.Aa q.na q.ca q.got
section
variable {wA w0 : World} {X : Nat → Prop} {M : EL} {K : Value → Ctx → Prop} {Z : PanK}
theorem gone0_of {c : CodeP} {f : FrP} {Ap : Option Addr} {cp : Nat} {Ak : Option Addr} {ck : Nat} {v : MV} {q : QV} (hfE : FrOk wA f) (hm : MOk (kOf c f Ap cp Ak ck) v) (hq : QOk q) (hr : rightB c f = true) (hk : q.kind ≠ 0) (he : nextP c f = .ok (pf v) (qp q)) :
    Gone0 (rowsN (kOf c f Ap cp Ak ck) v q []) c f (frG (kOf c f Ap cp Ak ck) v) q := by
  refine ⟨he, rfl, rfl, rfl, rfl, rfl, hr, hk, fun wB E hE => ?_⟩
  have hR := rightB_spec hr
  have hsm := nextP_sm (by have := hfE.stk.len; have := hR.ns; omega) he
  have h1 : v.loc.length = f.loc.length := hsm.1.2
  have h2 : q.got.length ≤ 100 := hsm.2
  have h3 := hfE.loc.len
  have h4 := hfE.loc.sm
  have hg : FrOk E (frG (kOf c f Ap cp Ak ck) v) := by
    refine ⟨hE.ownI (t := 3) ?_ hfE.path.sm, hE.ownI (t := 3) ?_ (show v.nl ≤ _ by have := hm.nl; omega), hE.ownI (t := 3) ?_ (show v.ns ≤ _ by have := hm.sm; omega), hE.ownK (t := 67) ?_ hfE.kids.sm⟩
    all_goals exact (by repeat (first | exact List.Mem.head _ | refine List.Mem.tail _ ?_))
  exact ⟨hg, hE.ownI (t := 3) (by repeat (first | exact List.Mem.head _ | refine List.Mem.tail _ ?_)) (by have := hq.len; omega)⟩
theorem go2_vc {c : CodeP} {s : SeP} {f : FrP} (hc : CodeOk wA c) (hf : FrOk wA f)
    (h1 : ∀ e, (rightB c f = false ∧ e = 1 ∨ rightB c f = true ∧ nextP c f = .err e) → K (.tuple #[.agg s.l.toArray, .agg f.l.toArray, .int .i64 e]) (CtxA wA w0 X M))
    (h2 : ∀ g q ph o0 o1 o2 o3 M', Gone0 M' c f g q → goOp s q f.task = ⟨ph, o0, o1, o2, o3⟩ → K (.tuple #[.agg (goS s q ⟨ph, o0, o1, o2, o3⟩).l.toArray, .agg g.l.toArray, .int .i64 0]) (CtxA wA w0 X (M' ++ M))) :
    CallVC Tryz.prog (CtxA wA w0 X M) 10 #[.agg c.l.toArray, .agg s.l.toArray, .agg f.l.toArray] K Z :=
  go_vc hc hf (fun hr => h1 1 (.inl ⟨hr, rfl⟩)) (fun hr e he => h1 e (.inr ⟨hr, he⟩)) (fun hr Ap cp Ak ck v q hm hq hk he ph o0 o1 o2 o3 ho => h2 (frG (kOf c f Ap cp Ak ck) v) q ph o0 o1 o2 o3 (rowsN (kOf c f Ap cp Ak ck) v q []) (gone0_of hf hm hq hr hk he) ho)
/-- what a turn comes to where the seat seeks -/
def SoughtR (t : TuP) (t' : TuP) (M' : EL) : Prop := M' = [] ∧
  ((t.u.is_ = false ∧ ∃ a' o0 o1 o2 o3, a' = atP t.la.seats (soughtA t.la.seats t.s.at_) ∧ seekP t.la.seats t.me t.worker a' = ⟨o0, o1, o2, o3⟩ ∧ t' = { t with s := seekS t.s a' ⟨o0, o1, o2, o3⟩ }) ∨
   (t.u.is_ = true ∧ t.s.o0 = 16 ∧ ∃ a' o0 o1 o2 o3, a' = atP t.la.seats 0 ∧ seekP t.la.seats t.me t.worker a' = ⟨o0, o1, o2, o3⟩ ∧ t' = { t with s := seekS t.s a' ⟨o0, o1, o2, o3⟩, sits := t.s.o2 }) ∨
   (t.u.is_ = true ∧ t.s.o0 ≠ 16 ∧ t' = { t with s := beginS { t.s with task := t.u.val } 3 0 ⟨12, 0, t.u.val, 0⟩ }))
theorem meth0 {t : TuP} (hn : 1 ≤ t.la.seats ∧ t.la.seats ≤ 8) : Meth wA 34 t (SoughtR t) (fun _ _ => False) := fun w0 X M bt K Z hK hZ =>
  tsought_vc hn (fun hi a' o0 o1 o2 o3 ha ho => hK _ [] ⟨rfl, .inl ⟨hi, a', o0, o1, o2, o3, ha, ho, rfl⟩⟩) (fun hi h16 a' o0 o1 o2 o3 ha ho => hK _ [] ⟨rfl, .inr (.inl ⟨hi, h16, a', o0, o1, o2, o3, ha, ho, rfl⟩)⟩) (fun hi h16 => hK _ [] ⟨rfl, .inr (.inr ⟨hi, h16, rfl⟩)⟩)
theorem meth5 {t : TuP} (hi : t.u.is_ = true) : Meth wA 39 t (fun _ _ => False) (fun e v => e = 0 ∧ v = t.s.o3) := fun w0 X M bt K Z hK hZ =>
  tendedT_vc hi (hZ 0 _ t [] ⟨rfl, rfl⟩)
def RanR (t : TuP) (fs : List FrP) (f : FrP) (task : Nat) (vs : List Int) (t' : TuP) (M' : EL) : Prop :=
  ∃ g0 g q ph o0 o1 o2 o3 b n, Told1 f t.s.qk t.s.qb vs g0 ∧ Gone1 M' fs task t.c g0 g q b n ∧ goOp t.s q g0.task = ⟨ph, o0, o1, o2, o3⟩ ∧ t' = { t with s := goS t.s q ⟨ph, o0, o1, o2, o3⟩, Af := some ⟨b, 0, none⟩, nf := n, cf := n }
theorem meth1W {t : TuP} {fs : List FrP} {i : Nat} (hi : i < fs.length) (hc : CodeOk wA t.c) (hfs : FsOk wA t.Af t.nf t.cf fs) (hkb : fs[i].nk ≤ 999999 ∧ fs[i].ns ≤ 999999) (ht : t.s.task = ((i + 1 : Nat) : Int)) (h0 : i < 1000) (ho : t.s.o0 = 18) : Meth wA 35 t (RanR t fs fs[i] (i + 1) []) (fun e v => AnsE t.c fs[i] t.s.qk t.s.qb [] e ∧ v = 0) := fun w0 X M bt K Z hK hZ =>
  tranW_vc hi hc hfs hkb ht h0 ho (fun e he => hZ e 0 t [] ⟨he, rfl⟩) (fun g0 g q ph o0 o1 o2 o3 b n M' h1 h2 h3 => hK _ M' ⟨g0, g, q, ph, o0, o1, o2, o3, b, n, h1, h2, h3, rfl⟩)
end
end Go.Proofs.YtgaopcbjhepklaaGreat
