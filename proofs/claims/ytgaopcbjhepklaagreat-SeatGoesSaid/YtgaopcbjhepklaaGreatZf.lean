/- A frame that goes on: what it is read from. -/
import Derived.Test.YtgaopcbjhepklaaGreatZa
namespace Go.Proofs.YtgaopcbjhepklaaGreat
open Go.RowKit
set_option linter.unusedSimpArgs false
set_option linter.unusedVariables false
set_option maxRecDepth 100000
/-- a row of numbers that was there -/
structure OldI (wA : World) (A : Option Addr) (n c : Nat) (xs : List Int) : Prop where
  rd : Rd wA wA.heap.size A (is xs)
  len : n = xs.length
  cap : n ≤ c
  sm : n ≤ 1000000
structure OldK (wA : World) (A : Option Addr) (n c : Nat) (xs : List KidP) : Prop where
  rd : Rd wA wA.heap.size A (kidL xs)
  len : n = xs.length
  cap : n ≤ c
  sm : n ≤ 1000000
def valB (x : Int) : Bool := decide (0 ≤ x) && decide (x < 4294967296)
theorem valB_t {x : Int} (h : 0 ≤ x ∧ x < 4294967296) : valB x = true := by simp only [valB, Bool.and_eq_true, decide_eq_true_eq]; exact h
theorem valB_f {x : Int} (h : ¬ (0 ≤ x ∧ x < 4294967296)) : valB x = false := by
  cases e : valB x with
  | false => rfl
  | true => simp only [valB, Bool.and_eq_true, decide_eq_true_eq] at e; exact absurd e h
def valsB (xs : List Int) : Bool := xs.all valB
def dstB (d locals : Int) : Bool := decide (d = -1) || decide (0 ≤ d) && decide (d < locals)
def kidB (locals : Int) (k : KidP) : Bool := decide (1 ≤ k.task) && dstB k.dst locals
structure InsP where
  op : Int
  a : Int
  b : Int
  c : Int
def insL : List InsP → List Value
  | [] => []
  | i :: l => .int .i64 i.op :: .int .i64 i.a :: .int .i64 i.b :: .int .i64 i.c :: insL l
structure BodyP where
  args : Int
  locals : Int
  Ai : Option Addr
  ni : Nat
  ci : Nat
  ins : List InsP
def BodyP.l (b : BodyP) : List Value := [.int .i64 b.args, .int .i64 b.locals, .slice b.Ai b.ni b.ci]
structure CodeP where
  Af : Option Addr
  nf : Nat
  cf : Nat
  Ac : Option Addr
  nc : Nat
  cc : Nat
  maps : Int
  stacks : Int
  chans : Int
  main : Int
  funs : List BodyP
def CodeP.l (c : CodeP) : List Value := [.slice c.Af c.nf c.cf, .slice c.Ac c.nc c.cc, .int .i64 c.maps, .int .i64 c.stacks, .int .i64 c.chans, .int .i64 c.main]
structure CodeOk (wA : World) (c : CodeP) : Prop where
  nf : c.nf = c.funs.length
  sm : c.nf ≤ 1000000
  sc : c.nc ≤ 1000000
  body : ∀ i (h : i < c.funs.length), ∃ b o, c.Af = some ⟨b, o, none⟩ ∧ ∀ q v, c.funs[i].l[q]? = some v → wA.cell? ⟨b, o + i * 3 + q, none⟩ = some v
  ins : ∀ i (h : i < c.funs.length), Rd wA wA.heap.size c.funs[i].Ai (insL c.funs[i].ins) ∧ c.funs[i].ni = c.funs[i].ins.length ∧ c.funs[i].ni ≤ 1000000
structure FrP where
  task : Int
  Ap : Option Addr
  np : Nat
  cp : Nat
  path : List Int
  fn : Int
  pc : Int
  Al : Option Addr
  nl : Nat
  cl : Nat
  loc : List Int
  As : Option Addr
  ns : Nat
  cs : Nat
  stk : List Int
  Ak : Option Addr
  nk : Nat
  ck : Nat
  kids : List KidP
  many : Int
  spent : Int
  fail : Bool
def FrP.l (f : FrP) : List Value := [.int .i64 f.task, .slice f.Ap f.np f.cp, .int .i64 f.fn, .int .i64 f.pc, .slice f.Al f.nl f.cl, .slice f.As f.ns f.cs, .slice f.Ak f.nk f.ck, .int .i64 f.many, .int .i64 f.spent, .bool f.fail]
structure FrOk (wA : World) (f : FrP) : Prop where
  path : OldI wA f.Ap f.np f.cp f.path
  loc : OldI wA f.Al f.nl f.cl f.loc
  stk : OldI wA f.As f.ns f.cs f.stk
  kids : OldK wA f.Ak f.nk f.ck f.kids
def bodyAt (c : CodeP) (fn : Int) : BodyP := c.funs.getD fn.toNat ⟨0, 0, none, 0, 0, []⟩
def rightB (c : CodeP) (f : FrP) : Bool :=
  if f.task < 1 ∨ ¬ (0 ≤ f.fn ∧ f.fn < c.nf) then false else
  if ¬ (0 ≤ f.pc ∧ f.pc < (bodyAt c f.fn).ni + 1) ∨ (f.nl : Int) ≠ (bodyAt c f.fn).locals ∨ f.ns > 100 then false else
  if f.kids.all (kidB (bodyAt c f.fn).locals) = false then false else
  valsB f.loc && (valsB f.stk && (decide (f.many ≥ 0) && (decide (0 ≤ f.spent) && decide (f.spent < 2001))))
theorem castB {K : Value → Ctx → Prop} {C : Ctx} {b b' : Bool} (h : b' = b) (hk : K (.bool b) C) : K (.bool b') C := by subst h; exact hk
theorem kidB_f {l : Int} {k : KidP} (h : k.task < 1 ∨ ¬ (k.dst = -1 ∨ 0 ≤ k.dst ∧ k.dst < l)) : kidB l k = false := by
  cases e : kidB l k with
  | false => rfl
  | true => simp only [kidB, dstB, Bool.and_eq_true, Bool.or_eq_true, decide_eq_true_eq] at e; omega
theorem kidB_t {l : Int} {k : KidP} (h : 1 ≤ k.task) (h2 : k.dst = -1 ∨ 0 ≤ k.dst ∧ k.dst < l) : kidB l k = true := by
  simp only [kidB, dstB, Bool.and_eq_true, Bool.or_eq_true, decide_eq_true_eq]; exact ⟨h, h2⟩
section
variable {wA w0 : World} {X : Nat → Prop} {M : EL} {K : Value → Ctx → Prop} {Z : PanK}
theorem idxOI {A : Option Addr} {n c : Nat} {xs : List Int} (h : OldI wA A n c xs) {i : Int} (j : Nat) (hj : i = j) (h1 : j < n) {K : Value → Prop} (hk : ∀ b off, A = some ⟨b, off, none⟩ → wA.cell? ⟨b, off + j, none⟩ = some (.int .i64 (xs.getD j 0)) → K (.pointer (some ⟨b, off + j, none⟩))) : IdxVC A n i 1 K := by
  subst hj
  have hx : (is xs)[j]? = some (.int .i64 (xs.getD j 0)) := isAt j (by have := h.len; omega)
  obtain ⟨b, off, hA, _, hc⟩ := h.rd.at_ hx
  refine ⟨_, hA, by omega, by omega, ?_⟩
  rw [Addr.add_lit]
  simpa using hk b off hA hc
theorem idxOK {A : Option Addr} {n c : Nat} {xs : List KidP} (h : OldK wA A n c xs) {i : Int} (j : Nat) (hj : i = j) (h1 : j < xs.length) {K : Value → Prop} (hk : ∀ b off, A = some ⟨b, off, none⟩ → (∀ q v, [Value.int .i64 xs[j].task, .int .i64 xs[j].dst][q]? = some v → wA.cell? ⟨b, off + j * 2 + q, none⟩ = some v) → K (.pointer (some ⟨b, off + j * 2, none⟩))) : IdxVC A n i 2 K := by
  subst hj
  have key : ∀ q v, [Value.int .i64 xs[j].task, .int .i64 xs[j].dst][q]? = some v → (kidL xs)[j * 2 + q]? = some v := fun q v hv => by
    have := kidL_at xs j h1
    rw [← this] at hv
    have hq := (List.getElem?_eq_some_iff.1 hv).1
    rw [List.getElem?_take, if_pos (by simp at hq; omega), List.getElem?_drop] at hv
    exact hv
  obtain ⟨b, off, hA, hb, _⟩ := h.rd.at_ (key 0 _ rfl)
  refine ⟨_, hA, by omega, by have := h.len; omega, ?_⟩
  rw [Addr.add_lit]
  simp only [Int.toNat_natCast]
  refine hk b off hA fun q v hv => ?_
  obtain ⟨b', off', hA', _, hc⟩ := h.rd.at_ (key q v hv)
  rw [hA] at hA'
  injection hA' with hA'
  injection hA' with e1 e2
  subst e1 e2
  rw [Nat.add_assoc]
  exact hc
set_option maxHeartbeats 4000000 in
theorem values_vc {A : Option Addr} {n c : Nat} {xs : List Int} (h : OldI wA A n c xs) (hk : K (.bool (valsB xs)) (CtxA wA w0 X M)) : CallVC Tryz.prog (CtxA wA w0 X M) 89 #[.slice A n c] K Z := by
  refine it89 (by rfl) ?_
  intro w2 X2
  conv => whnf
  refine LoopVC.on (X := Nat) (fun i => [(5, .v (.slice A n c)), (6, .v (.int .i64 n)), (7, .v (.int .i64 (i : Int)))]) (fun _ => []) (fun _ => CtxA wA w2 X2 M) (fun i => i ≤ n ∧ ∀ j, j < i → valB (xs.getD j 0) = true) (fun i => n - i) 0 ⟨Nat.zero_le _, fun _ h => absurd h (by omega)⟩ ⟨rfl, rfl, rfl, trivial⟩ trivial ?_
  intro i r ⟨hi, hno⟩
  conv => whnf
  have bad : valB (xs.getD i 0) = false → i < n → K (.bool false) (CtxA wA w0 X M) := fun hv hlt => by
    have : valsB xs = false := by
      unfold valsB
      rw [List.all_eq_false]
      have hx : i < xs.length := by have := h.len; omega
      refine ⟨xs[i], List.getElem_mem hx, ?_⟩
      have e : xs.getD i 0 = xs[i] := by simp [List.getD, hx]
      rw [e] at hv
      simp [hv]
    rw [this] at hk
    exact hk
  refine splitB.dec (fun hlt => ?_) (fun hge => ?_)
  · have hlt : i < n := by omega
    conv => whnf
    refine idxOI h i rfl hlt (fun b off hA hc => ?_)
    conv => whnf
    refine ldO hc (tab_ok _ _ (by rfl)) (by rfl) ?_
    conv => whnf
    repeat' (first
      | (refine RetT.drop (K := K) M (List.Sublist.refl _) ?_; exact bad (valB_f (by omega)) hlt)
      | exact rnd (X := Nat) (i + 1) (by omega) ⟨by omega, fun j hj => by
          by_cases e : j = i
          · subst e; exact valB_t (by omega)
          · exact hno j (by omega)⟩ ⟨rfl, rfl, by show SV.v (.int .i64 (IntKind.i64.wrap ((i : Int) + 1))) = _; rw [wrapI (by have := h.sm; omega)]; rfl, trivial⟩ trivial
      | (refine JoinVC.go ?_; conv => whnf)
      | (refine RetA.go ?_; conv => whnf)
      | (refine ia134 (by rfl) ?_; intro w1 X1; conv => whnf)
      | (refine ia57 (by rfl) ?_; intro w1 X1; conv => whnf)
      | (refine splitB.dec (fun hb => ?_) (fun hb => ?_) <;> conv => whnf)
      | (refine splitB.ndec (fun hb => ?_) (fun hb => ?_) <;> conv => whnf))
  · conv => whnf
    refine RetT.drop (K := K) M (List.Sublist.refl _) ?_
    have : valsB xs = true := by
      unfold valsB
      rw [List.all_eq_true]
      intro x hx
      obtain ⟨j, hj, rfl⟩ := List.mem_iff_getElem.1 hx
      have := hno j (by have := h.len; omega)
      simpa [List.getD, hj] using this
    rw [this] at hk
    exact hk
theorem CodeOk.at_ {c : CodeP} (h : CodeOk wA c) {fn : Int} (h0 : 0 ≤ fn) (h1 : fn < c.nf) : ∃ b o, c.Af = some ⟨b, o, none⟩ ∧ ∀ q v, (bodyAt c fn).l[q]? = some v → wA.cell? ⟨b, o + fn.toNat * 3 + q, none⟩ = some v := by
  have hi : fn.toNat < c.funs.length := by have := h.nf; omega
  have e : bodyAt c fn = c.funs[fn.toNat] := by simp [bodyAt, List.getD, hi]
  rw [e]
  exact h.body _ hi
theorem CodeOk.ni {c : CodeP} (h : CodeOk wA c) {fn : Int} (h0 : 0 ≤ fn) (h1 : fn < c.nf) : Rd wA wA.heap.size (bodyAt c fn).Ai (insL (bodyAt c fn).ins) ∧ (bodyAt c fn).ni = (bodyAt c fn).ins.length ∧ (bodyAt c fn).ni ≤ 1000000 := by
  have hi : fn.toNat < c.funs.length := by have := h.nf; omega
  have e : bodyAt c fn = c.funs[fn.toNat] := by simp [bodyAt, List.getD, hi]
  rw [e]
  exact h.ins _ hi
set_option maxHeartbeats 4000000 in
theorem right_vc {c : CodeP} {f : FrP} (hc : CodeOk wA c) (hf : FrOk wA f) (hk : K (.bool (rightB c f)) (CtxA wA w0 X M)) : CallVC Tryz.prog (CtxA wA w0 X M) 52 #[.agg c.l.toArray, .agg f.l.toArray] K Z := by
  refine it52 (by rfl) ?_
  intro w2 X2
  conv => whnf
  repeat' (first
    | (refine RetT.drop (K := K) M (List.Sublist.refl _) ?_; refine castB ?_ hk; rw [rightB, if_pos (by omega)])
    | (refine JoinVC.go ?_; conv => whnf)
    | (refine RetA.go ?_; conv => whnf)
    | (refine ia57 (by rfl) ?_; intro w1 X1; conv => whnf)
    | (refine splitB.dec (fun hb => ?_) (fun hb => ?_) <;> conv => whnf)
    | (refine splitB.ndec (fun hb => ?_) (fun hb => ?_) <;> conv => whnf))
  rename_i q0 q1
  obtain ⟨b, o, hA, hcell⟩ := hc.at_ q1 hb
  obtain ⟨_, hni, hnis⟩ := hc.ni q1 hb
  refine idxO b o hA q1 hb ?_
  conv => whnf
  refine ldsO (bodyAt c f.fn).l hcell (tab_ok _ _ (by rfl)) (by rfl) (by rfl) ?_
  conv => whnf
  have e1 : IntKind.i64.wrap (((bodyAt c f.fn).ni : Int) + 1) = (bodyAt c f.fn).ni + 1 := wrapI (by omega)
  repeat' (first
    | (refine RetT.drop (K := K) M (List.Sublist.refl _) ?_; refine castB ?_ hk; rw [rightB, if_neg (by omega), if_pos (by omega)])
    | (refine JoinVC.go ?_; conv => whnf)
    | (refine RetA.go ?_; conv => whnf)
    | (refine ia57 (by rfl) ?_; intro w1 X1; conv => whnf)
    | (refine splitB.dec (fun hb => ?_) (fun hb => ?_) <;> conv => whnf)
    | (refine splitB.neI (fun hb => ?_) (fun hb => ?_) <;> conv => whnf)
    | (refine splitB.ndec (fun hb => ?_) (fun hb => ?_) <;> conv => whnf))
  refine LoopVC.on (X := Nat) (fun i => [(2, .p 2 0), (3, .p 3 0), (5, .p 5 0), (49, .v (.slice f.Ak f.nk f.ck)), (50, .v (.int .i64 f.nk)), (51, .v (.int .i64 (i : Int)))]) (fun _ => [(2, 25, c.l), (3, 36, f.l), (5, 63, (bodyAt c f.fn).l)]) (fun _ => CtxA wA w2 X2 M) (fun i => i ≤ f.nk ∧ ∀ j (h : j < f.kids.length), j < i → kidB (bodyAt c f.fn).locals f.kids[j] = true) (fun i => f.nk - i) 0 ⟨Nat.zero_le _, fun _ _ h => absurd h (by omega)⟩ ⟨rfl, rfl, rfl, rfl, rfl, rfl, trivial⟩ ⟨rfl, rfl, rfl, trivial⟩ ?_
  rename_i q2 q3 q4
  intro i r ⟨hi, hno⟩
  conv => whnf
  have hkn := hf.kids.len
  refine splitB.dec (fun hlt => ?_) (fun hge => ?_)
  · have hlt : i < f.kids.length := by omega
    have bad : kidB (bodyAt c f.fn).locals f.kids[i] = false → K (.bool false) (CtxA wA w0 X M) := fun hv => by
      refine castB ?_ hk
      have ha : f.kids.all (kidB (bodyAt c f.fn).locals) = false := List.all_eq_false.2 ⟨f.kids[i], List.getElem_mem hlt, by simp [hv]⟩
      rw [rightB, if_neg (by omega), if_neg (by omega), if_pos ha]
    conv => whnf
    refine idxOK hf.kids i rfl hlt (fun b' o' hA' hc' => ?_)
    conv => whnf
    refine ldsO _ hc' (tab_ok _ _ (by rfl)) (by rfl) (by rfl) ?_
    conv => whnf
    repeat' (first
      | (refine RetT.drop (K := K) M (List.Sublist.refl _) ?_; exact bad (kidB_f (by omega)))
      | exact rnd (X := Nat) (i + 1) (by omega) ⟨by omega, fun j hj hji => by
          by_cases e : j = i
          · subst e; exact kidB_t (by omega) (by omega)
          · exact hno j hj (by omega)⟩ ⟨rfl, rfl, rfl, rfl, rfl, by show SV.v (.int .i64 (IntKind.i64.wrap ((i : Int) + 1))) = _; rw [wrapI (by have := hf.kids.sm; omega)]; rfl, trivial⟩ ⟨rfl, rfl, rfl, trivial⟩
      | (refine JoinVC.go ?_; conv => whnf)
      | (refine RetA.go ?_; conv => whnf)
      | (refine ia88 (by rfl) ?_; intro w1 X1; conv => whnf)
      | (refine ia57 (by rfl) ?_; intro w1 X1; conv => whnf)
      | (refine splitB.dec (fun hb => ?_) (fun hb => ?_) <;> conv => whnf)
      | (refine splitB.eqI (fun hb => ?_) (fun hb => ?_) <;> conv => whnf)
      | (refine splitB.ndec (fun hb => ?_) (fun hb => ?_) <;> conv => whnf))
  · have hall : ¬ f.kids.all (kidB (bodyAt c f.fn).locals) = false := by
      have : f.kids.all (kidB (bodyAt c f.fn).locals) = true := by
        rw [List.all_eq_true]
        intro x hx
        obtain ⟨j, hj, rfl⟩ := List.mem_iff_getElem.1 hx
        exact hno j hj (by omega)
      rw [this]; simp
    have fin : ∀ b, b = (valsB f.loc && (valsB f.stk && (decide (f.many ≥ 0) && (decide (0 ≤ f.spent) && decide (f.spent < 2001))))) → K (.bool b) (CtxA wA w0 X M) := fun b e => by
      refine castB ?_ hk
      rw [rightB, if_neg (by omega), if_neg (by omega), if_neg hall]
      exact e
    conv => whnf
    repeat' (first
      | (refine RetT.drop (K := K) M (List.Sublist.refl _) ?_; refine fin _ ?_; simp only [*, Bool.true_and, Bool.false_and, Bool.and_true, Bool.and_false, decide_true, decide_false]; (try omega); done)
      | (refine JoinVC.go ?_; conv => whnf)
      | (refine RetA.go ?_; conv => whnf)
      | (refine values_vc hf.loc ?_; cases hv1 : valsB f.loc <;> conv => whnf)
      | (refine values_vc hf.stk ?_; cases hv2 : valsB f.stk <;> conv => whnf)
      | (refine ia57 (by rfl) ?_; intro w1 X1; conv => whnf)
      | (refine splitB.dec (fun hb => ?_) (fun hb => ?_) <;> conv => whnf)
      | (refine splitB.ndec (fun hb => ?_) (fun hb => ?_) <;> conv => whnf))
end
end Go.Proofs.YtgaopcbjhepklaaGreat
