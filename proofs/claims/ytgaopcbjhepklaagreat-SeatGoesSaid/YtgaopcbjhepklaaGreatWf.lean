/- The conditions of code: definitions. -/
import Derived.Test.YtgaopcbjhepklaaGreatWe
namespace Go.Proofs.YtgaopcbjhepklaaGreat
open Go.RowKit
set_option linter.unusedSimpArgs false
set_option linter.unusedVariables false

def gsel (want : Bool) (A B : Prop) : Prop := match want with
  | true => A
  | false => B
def litB (ss : SS) (g : Nat) (b : Bool) : SS := match ss with
  | ⟨s, bx⟩ => ⟨upd s g (.v (.bool b)), bx⟩
def opAt : List Oper → Nat → Option Oper
  | [], _ => none
  | o :: _, 0 => some o
  | _ :: l, n + 1 => opAt l n
theorem opAt_eq (l : List Oper) (i : Nat) : opAt l i = l[i]? := by
  induction l generalizing i with
  | nil => simp [opAt]
  | cons o l ih => cases i with
    | zero => rfl
    | succ n => simp [opAt, ih]
/-- an operation that is guarded: wanted, or not -/
def guardK (ops : List Oper) (o : Oper) (ss : SS) (A B : SS → Prop) : Prop := match o.guard with
  | none => A ss
  | some (j, want) => match opAt ops j with
    | some og => match og.dst with
      | some g => match ss.s g with
        | .v (.bool b) => splitB b (gsel want (A (litB ss g true)) (B (litB ss g true))) (gsel want (B (litB ss g false)) (A (litB ss g false)))
        | .v (.tuple _) => B ss
        | _ => False
      | none => False
    | none => False
def finK (N : Fk) (dst : Option Tmp) (x : SV) (s : Nat → SV) (b : Nat → Option (TypeId × List Value)) (δ : Option (Nat × TypeId × List Value)) (K : SS → Prop) : Prop := match δ with
  | none => putK N dst x ⟨s, b⟩ K
  | some (d, t, cs) => putK N dst x ⟨s, upd b d (some (t, cs))⟩ K
theorem finK_eq (N : Fk) (dst : Option Tmp) (x : SV) (s : Nat → SV) (b : Nat → Option (TypeId × List Value)) (δ : Option (Nat × TypeId × List Value)) (K : SS → Prop) : finK N dst x s b δ K = putK N dst x ⟨s, applyB b δ⟩ K := by
  cases δ <;> rfl
def escOf (N : Fk) (dst : Option Tmp) : Bool := match dst with
  | some d => N.esc d
  | none => false
abbrev ZK := List PanicEntry → Ctx → SS → Prop
def stepK (P : Program) (T : List (Nat × TyI)) (N : Fk) (ops : List Oper) (o : Oper) (C : Ctx) (ss : SS) (K : Ctx → SS → Prop) (Z : ZK) : Prop :=
  guardK ops o ss (fun ss => match ss with | ⟨s, b⟩ => opK P T (escOf N o.dst) o C (SS.eval ⟨s, b⟩) b (fun C' x δ => finK N o.dst x s b δ (K C')) (fun ch C' => Z ch C' ⟨s, b⟩)) (fun ss => putK N o.dst (.v undef) ss (K C))
theorem stepK_eq (P : Program) (T : List (Nat × TyI)) (N : Fk) (ops : List Oper) (o : Oper) (C : Ctx) (ss : SS) (K : Ctx → SS → Prop) (Z : ZK) : stepK P T N ops o C ss K Z = guardK ops o ss (fun ss => opK P T (escOf N o.dst) o C ss.eval ss.b (fun C' x δ => putK N o.dst x ⟨ss.s, applyB ss.b δ⟩ (K C')) (fun ch C' => Z ch C' ss)) (fun ss => putK N o.dst (.v undef) ss (K C)) := by
  unfold stepK
  simp only [finK_eq]
def opsK (P : Program) (T : List (Nat × TyI)) (N : Fk) (ops : List Oper) (l : List Oper) (Z : ZK) : Ctx → SS → (Ctx → SS → Prop) → Prop :=
  List.rec (motive := fun _ => Ctx → SS → (Ctx → SS → Prop) → Prop) (fun C ss K => K C ss) (fun o _ ih C ss K => stepK P T N ops o C ss (fun C' ss' => ih C' ss' K) Z) l

/-! ### regions that draw their order -/
inductive Plan where
  | done
  | pure (i : Nat) (late : List Nat) (next : Plan)
  | alt (i : Nat) (next : Plan) (more : Plan)
  | stop
def pureOp : Op → Bool
  | .move _ | .assign _ | .pick .. | .build .. | .fieldAddr .. | .load .. | .nilCheck _ | .binOp .. | .unOp .. | .extract .. | .indexAddr .. | .slice .. => true
  | .call { callee := .builtin .len, .. } => true
  | _ => false
/-- the conditions of an operation that yields a value and turns nothing; rb: the box that it reads -/
def pureK (T : List (Nat × TyI)) (o : Oper) (ev : Operand → SV) (bx : Nat → Option (TypeId × List Value)) (K : SV → Option Nat → Prop) : Prop :=
  match o.op with
  | .move x => forceV (ev x) fun x => K x none
  | .assign x => forceV (ev x) fun x => K x none
  | .pick c a b => match ev c with
    | .v (.bool t) => splitB t (forceV (ev a) fun x => K x none) (forceV (ev b) fun x => K x none)
    | _ => False
  | .build t parts => match lookT T t with
    | some i => match i.d with
      | .st offs => partsK ev parts.toList fun ps => cellsK i.zv fun cs => fillK offs cs ps fun cs => K (.v (.agg cs.toArray)) none
      | _ => False
    | none => False
  | .fieldAddr t x f => match lookT T t with
    | some i => match i.d with
      | .st offs => match offs[f]? with
        | some (o, some (sz + 1)) => match ev x with
          | .p b off => K (.p b (off + o)) none
          | .v (.pointer (some a)) => K (.v (.pointer (some (a.add o)))) none
          | _ => False
        | _ => False
      | _ => False
    | none => False
  | .load t x => match ev x with
    | .p b off => match bx b, lookT T t with
      | some (_, cs), some i => match i.d.agg with
        | true => forceL ((cs.drop off).take i.size) fun l => chk (Nat.beq l.length i.size) (K (.v (.agg l.toArray)) (some b))
        | false => match cs.drop off with
          | v :: _ => K (.v v) (some b)
          | [] => False
      | _, _ => False
    | _ => False
  | .binOp op t x y _ => valK (ev x) fun a => valK (ev y) fun b => match a, b with
    | .int k a, .int k' b => match op with
      | .shl => False
      | .shr => False
      | .and => False
      | .or => False
      | .xor => False
      | .andNot => False
      | op => chk (decide (k = k')) (intK op k a b fun v => K (.v v) none)
    | a, b => match aggEq T op t a b with
      | some r => K (.v (.bool r)) none
      | none => False
  | .unOp op _ x => valK (ev x) fun a => match op, a with
    | .not, .bool b => K (.v (.bool !b)) none
    | _, _ => False
  | .nilCheck x => match ev x with
    | .p b off => K (.p b off) none
    | .v (.pointer (some ad)) => K (.v (.pointer (some ad))) none
    | _ => False
  | .extract x i => match ev x with
    | .v (.tuple vs) => match vs.toList[i]? with
      | some v => K (.v v) none
      | none => False
    | _ => False
  | .indexAddr t x i => match ev x with
    | .v (.slice A n c) => match lookT T t, ev i with
      | some ti, .v (.int _ k) => match ti.d with
        | .sl (some sz) => IdxVC A n k sz fun v => K (.v v) none
        | _ => False
      | _, _ => False
    | _ => False
  | .slice t x lo hi none => valK (ev x) fun x => optK ev lo fun lo => optK ev hi fun hi => match x, lookT T t with
    | .slice A n c, some i => match i.d with
      | .sl (some sz) => match lo, hi with
        | none, some (.int _ h) => CutVC A n c sz none (some h) fun v => K (.v v) none
        | some (.int _ l), none => CutVC A n c sz (some l) none fun v => K (.v v) none
        | some (.int _ l), some (.int _ h) => CutVC A n c sz (some l) (some h) fun v => K (.v v) none
        | _, _ => False
      | _ => False
    | _, _ => False
  | .call c => match c.callee with
    | .builtin .len => valsK ev c.args.toList fun vs => match vs, c.argTypes.toList with
      | [.slice _ n _], [t] => match lookT T t with
        | some i => match i.d with
          | .sl _ => K (.v (.int .i64 n)) none
          | _ => False
        | none => False
      | _, _ => False
    | _ => False
  | _ => False
/-- the stores that may come ahead are of other boxes -/
def lateK (ss : SS) (rb : Option Nat) : List Nat → Prop → Prop
  | [], A => A
  | t :: l, A => match rb with
    | none => A
    | some b => match ss.s t with
      | .p b' _ => match Nat.beq b' b with
        | true => False
        | false => lateK ss rb l A
      | _ => False
/-- a panic within a region: the slots that its operations put may have any values -/
def inL : List Nat → Nat → Bool
  | [], _ => false
  | d :: l, t => bif Nat.beq t d then true else inL l t
def mskS (ds : List Nat) (r s : Nat → SV) : Nat → SV := fun t => bif inL ds t then r t else s t
def ZS (Z : ZK) (ds : List Nat) : ZK := fun ch C ss => ∀ r b, Z ch C ⟨mskS ds r ss.s, b⟩
def dstL : List Oper → List Nat
  | [] => []
  | o :: l => match o.dst with
    | some d => d :: dstL l
    | none => dstL l
theorem inL_mem : ∀ {l : List Nat} {t : Nat}, t ∈ l → inL l t = true
  | d :: l, t, h => by
    simp only [inL]
    cases h with
    | head => simp
    | tail _ h => rw [inL_mem h]; cases Nat.beq t d <;> rfl
theorem dstL_mem {l : List Oper} {o : Oper} {d : Nat} (h : o ∈ l) (e : o.dst = some d) : d ∈ dstL l := by
  induction l with
  | nil => cases h
  | cons x l ih =>
    rcases List.mem_cons.1 h with h | h
    · subst h
      simp only [dstL, e]
      exact List.mem_cons_self
    · have := ih h
      simp only [dstL]
      cases x.dst with
      | none => exact this
      | some d' => exact List.mem_cons_of_mem _ this
theorem mskS_upd {ds : List Nat} {r s : Nat → SV} {d : Nat} {x : SV} (h : d ∈ ds) : mskS ds r (upd s d x) = mskS ds r s := by
  funext t
  by_cases e : t = d
  · subst e; simp [mskS, inL_mem h]
  · simp only [mskS]; rw [upd_ne _ _ e]
theorem ZS.here {Z : ZK} {ds : List Nat} {ch : List PanicEntry} {C : Ctx} {ss : SS} (h : ZS Z ds ch C ss) : Z ch C ss := by
  have := h ss.s ss.b
  have e : mskS ds ss.s ss.s = ss.s := by funext t; simp only [mskS]; cases inL ds t <;> rfl
  rw [e] at this
  exact this
/-- what a region's operations put makes no odds -/
def PutInv (ops : List Oper) (Z : ZK) : Prop := ∀ o ∈ ops, ∀ d x ch C s b, o.dst = some d → Z ch C ⟨upd s d x, b⟩ → Z ch C ⟨s, b⟩
theorem ZS.inv (Z : ZK) (ops : List Oper) : PutInv ops (ZS Z (dstL ops)) := fun o ho d x ch C s b hd h r b' => by
  have := h r b'
  rw [mskS_upd (dstL_mem ho hd)] at this
  exact this
def planK (P : Program) (T : List (Nat × TyI)) (N : Fk) (ops : List Oper) (Z : ZK) (π : Plan) : Ctx → SS → (Ctx → SS → Prop) → Prop :=
  Plan.rec (motive := fun _ => Ctx → SS → (Ctx → SS → Prop) → Prop) (fun C ss K => K C ss)
    (fun i late _ ih C ss K => match opAt ops i with
      | some o => guardK ops o ss
          (fun ss => pureK T o ss.eval ss.b fun x rb => lateK ss rb late (putK N o.dst x ss fun ss' => ih C ss' K))
          (fun ss => putK N o.dst (.v undef) ss fun ss' => ih C ss' K)
      | none => False)
    (fun i _ more ih ih2 C ss K => match opAt ops i with
      | some o => match more with
        | .stop => stepK P T N ops o C ss (fun C' ss' => ih C' ss' K) Z
        | _ => stepK P T N ops o C ss (fun C' ss' => ih C' ss' K) Z ∧ ih2 C ss K
      | none => False)
    (fun _ _ _ => True) π
theorem planK_done (P : Program) (T : List (Nat × TyI)) (N : Fk) (ops : List Oper) (Z : ZK) (C : Ctx) (ss : SS) (K : Ctx → SS → Prop) : planK P T N ops Z .done C ss K = K C ss := rfl
theorem planK_stop (P : Program) (T : List (Nat × TyI)) (N : Fk) (ops : List Oper) (Z : ZK) (C : Ctx) (ss : SS) (K : Ctx → SS → Prop) : planK P T N ops Z .stop C ss K = True := rfl
theorem planK_pure (P : Program) (T : List (Nat × TyI)) (N : Fk) (ops : List Oper) (Z : ZK) (i : Nat) (late : List Nat) (next : Plan) (C : Ctx) (ss : SS) (K : Ctx → SS → Prop) : planK P T N ops Z (.pure i late next) C ss K = match opAt ops i with
      | some o => guardK ops o ss
          (fun ss => pureK T o ss.eval ss.b fun x rb => lateK ss rb late (putK N o.dst x ss fun ss' => planK P T N ops Z next C ss' K))
          (fun ss => putK N o.dst (.v undef) ss fun ss' => planK P T N ops Z next C ss' K)
      | none => False := rfl
theorem planK_alt_eq (P : Program) (T : List (Nat × TyI)) (N : Fk) (ops : List Oper) (Z : ZK) (i : Nat) (next more : Plan) (C : Ctx) (ss : SS) (K : Ctx → SS → Prop) : planK P T N ops Z (.alt i next more) C ss K = match opAt ops i with
      | some o => match more with
        | .stop => stepK P T N ops o C ss (fun C' ss' => planK P T N ops Z next C' ss' K) Z
        | more => stepK P T N ops o C ss (fun C' ss' => planK P T N ops Z next C' ss' K) Z ∧ planK P T N ops Z more C ss K
      | none => False := by
  show (match opAt ops i with
      | some o => match more with
        | .stop => stepK P T N ops o C ss (fun C' ss' => planK P T N ops Z next C' ss' K) Z
        | _ => stepK P T N ops o C ss (fun C' ss' => planK P T N ops Z next C' ss' K) Z ∧ planK P T N ops Z more C ss K
      | none => False) = _
  split
  · cases more <;> rfl
  · rfl

/-! ### code -/
def falls : Code → Bool
  | .ret => false
  | .exit _ => false
  | .goto _ => false
  | .seq a b => falls a && falls b
  | .cond _ a b => falls a || falls b
  | _ => true
def guarded : List Oper → Bool
  | [] => false
  | o :: l => match o.guard with
    | none => guarded l
    | some _ => true
def multi : Plan → Bool
  | .pure _ _ n => multi n
  | .alt _ n more => match more with
    | .stop => multi n
    | _ => true
  | _ => false
def joins (D : Nat → Plan) : Code → Bool
  | .cond _ a b => falls a && falls b
  | .region id ops draw => guarded ops.toList || (draw && multi (D id))
  | .block _ _ => false
  | _ => false
/-- less is known of a state -/
def Wk (ss : SS) (Ψ : SS → Prop) : Prop := ∀ N C ρ a w, RepAt N C ρ ss a w → ∃ ss', Ψ ss' ∧ RepAt N C ρ ss' a w
theorem Wk.self {ss : SS} {Ψ : SS → Prop} (h : Ψ ss) : Wk ss Ψ := fun N C ρ a w r => ⟨ss, h, r⟩
theorem Wk.mono {ss : SS} {Ψ Ψ' : SS → Prop} (h : Wk ss Ψ) (hk : ∀ ss, Ψ ss → Ψ' ss) : Wk ss Ψ' := fun N C ρ a w r => by
  obtain ⟨ss', h1, h2⟩ := h N C ρ a w r
  exact ⟨ss', hk _ h1, h2⟩
structure JoinVC (A : (Ctx → SS → Prop) → Prop) (K : Ctx → SS → Prop) : Prop where
  out : A K ∨ ∃ J : Ctx → SS → Prop, A (fun C ss => Wk ss (J C)) ∧ ∀ C ss, J C ss → K C ss
theorem JoinVC.go {A : (Ctx → SS → Prop) → Prop} {K : Ctx → SS → Prop} (h : A K) : JoinVC A K := ⟨.inl h⟩
theorem JoinVC.cut {A : (Ctx → SS → Prop) → Prop} {K : Ctx → SS → Prop} (J : Ctx → SS → Prop) (h : A (fun C ss => Wk ss (J C))) (hk : ∀ C ss, J C ss → K C ss) : JoinVC A K := ⟨.inr ⟨J, h, hk⟩⟩
structure LoopVC (B : Ctx → SS → (Ctx → SS → Prop) → Prop) (C : Ctx) (ss : SS) : Prop where
  out : ∀ Φ : Ctx → SS → Prop, (∀ C ss K, B C ss K → (∀ C' ss', K C' ss' → Φ C' ss') → Φ C ss) → (∀ C ss (Ψ : SS → Prop), Wk ss Ψ → (∀ ss', Ψ ss' → Φ C ss') → Φ C ss) → Φ C ss
theorem LoopVC.intro {B : Ctx → SS → (Ctx → SS → Prop) → Prop} {C : Ctx} {ss : SS} (Inv : Nat → Ctx → SS → Prop) (n : Nat) (h0 : Wk ss (Inv n C)) (h : ∀ n C ss, Inv n C ss → B C ss fun C' ss' => ∃ n', n' < n ∧ Wk ss' (Inv n' C')) : LoopVC B C ss := by
  refine ⟨fun Φ h1 h2 => ?_⟩
  have key : ∀ n C ss, Inv n C ss → Φ C ss := by
    intro n
    induction n using Nat.strongRecOn with
    | ind n ih => intro C ss hi; exact h1 C ss _ (h n C ss hi) fun C' ss' ⟨n', hn, hw⟩ => h2 C' ss' _ hw fun ss'' hs => ih n' hn C' ss'' hs
  exact h2 C ss _ h0 fun ss' hs => key n C ss' hs
/-- one round of a loop -/
theorem LoopVC.unroll {B : Ctx → SS → (Ctx → SS → Prop) → Prop} {C : Ctx} {ss : SS} (h : B C ss fun C' ss' => LoopVC B C' ss') : LoopVC B C ss :=
  ⟨fun Φ h1 h2 => h1 C ss _ h fun C' ss' hl => hl.out Φ h1 h2⟩
/-- some slots and boxes are known; the other slots have some values -/
def mkS : List (Nat × SV) → (Nat → Value) → Nat → SV
  | [], r, t => .v (r t)
  | (d, x) :: l, r, t => bif Nat.beq t d then x else mkS l r t
def mkB : List (Nat × TypeId × List Value) → Nat → Option (TypeId × List Value)
  | [], _ => none
  | (d, x) :: l, t => bif Nat.beq t d then some x else mkB l t
def fitS (ss : SS) : List (Nat × SV) → Prop
  | [] => True
  | (d, x) :: l => ss.s d = x ∧ fitS ss l
def fitB (ss : SS) : List (Nat × TypeId × List Value) → Prop
  | [] => True
  | (d, x) :: l => ss.b d = some x ∧ fitB ss l
def ptrOk (bl : List (Nat × TypeId × List Value)) : List (Nat × SV) → Bool
  | [] => true
  | (_, .p b _) :: l => (mkB bl b).isSome && ptrOk bl l
  | (_, .v _) :: l => ptrOk bl l
theorem beq_false {t d : Nat} (h : t ≠ d) : Nat.beq t d = false := by
  cases e : Nat.beq t d with
  | false => rfl
  | true => exact absurd (Nat.eq_of_beq_eq_true e) h
theorem mkB_fit {ss : SS} : ∀ {bl : List (Nat × TypeId × List Value)}, fitB ss bl → ∀ b x, mkB bl b = some x → ss.b b = some x
  | [], _, b, x, h => by cases h
  | (d, y) :: l, hf, b, x, h => by
    by_cases e : b = d
    · subst e
      simp only [mkB, Nat.beq_refl, cond_true] at h
      rw [hf.1, h]
    · simp only [mkB, beq_false e, cond_false] at h
      exact mkB_fit hf.2 b x h
theorem mkS_fit {ss : SS} {ρ : Nat → Nat} : ∀ {l : List (Nat × SV)}, fitS ss l → ∀ t, (mkS l (fun t => (ss.s t).den ρ) t).den ρ = (ss.s t).den ρ
  | [], _, t => rfl
  | (d, y) :: l, hf, t => by
    by_cases e : t = d
    · subst e
      simp only [mkS, Nat.beq_refl, cond_true]
      rw [hf.1]
    · simp only [mkS, beq_false e, cond_false]
      exact mkS_fit hf.2 t
theorem mkS_ptr {bl : List (Nat × TypeId × List Value)} {r : Nat → Value} : ∀ {l : List (Nat × SV)}, ptrOk bl l = true → ∀ t b off, mkS l r t = .p b off → (mkB bl b).isSome = true
  | [], _, t, b, off, h => by cases h
  | (d, y) :: l, hp, t, b, off, h => by
    have hl : ptrOk bl l = true := by
      cases y with
      | v x => exact hp
      | p b off => simp only [ptrOk, Bool.and_eq_true] at hp; exact hp.2
    by_cases e : t = d
    · subst e
      simp only [mkS, Nat.beq_refl, cond_true] at h
      subst h
      simp only [ptrOk, Bool.and_eq_true] at hp
      exact hp.1
    · simp only [mkS, beq_false e, cond_false] at h
      exact mkS_ptr hl t b off h
theorem Wk.fit {ss : SS} {Ψ : SS → Prop} (l : List (Nat × SV)) (bl : List (Nat × TypeId × List Value)) (h1 : fitS ss l) (h2 : fitB ss bl) (hp : ptrOk bl l = true) (h : ∀ r, Ψ ⟨mkS l r, mkB bl⟩) : Wk ss Ψ := fun N C ρ a w r => by
  refine ⟨_, h fun t => (ss.s t).den ρ, r.size, r.nod, fun t => ?_, fun b ty cs hb => r.box b ty cs (mkB_fit h2 b _ hb), fun b b' hb hb' e => ?_, fun t b off ht => mkS_ptr hp t b off ht, r.rest⟩
  · rw [r.slot t]
    exact (mkS_fit h1 t).symm
  · have some_of : ∀ b, (mkB bl b).isSome = true → (ss.b b).isSome = true := fun b h => by
      obtain ⟨x, hx⟩ := Option.isSome_iff_exists.1 h
      rw [mkB_fit h2 b x hx]; rfl
    exact r.inj b b' (some_of b hb) (some_of b' hb') e
abbrev EK := Exit → Ctx → SS → Prop
def blockE (id : Nat) (K : Ctx → SS → Prop) (E : EK) : EK := fun e C ss => match e with
  | .exit id' => match Nat.beq id' id with
    | true => K C ss
    | false => E (.exit id') C ss
  | e => E e C ss
def vc (P : Program) (T : List (Nat × TyI)) (N : Fk) (D : Nat → Plan) : Code → Ctx → SS → (Ctx → SS → Prop) → EK → Prop
  | .skip, C, ss, K, _ => K C ss
  | .label _, C, ss, K, _ => K C ss
  | .region id ops draw, C, ss, K, E => match draw with
    | false => opsK P T N ops.toList ops.toList (fun ch C ss => E (.panic ch) C ss) C ss K
    | true => planK P T N ops.toList (ZS (fun ch C ss => E (.panic ch) C ss) (dstL ops.toList)) (D id) C ss K
  | .seq x y, C, ss, K, E => match joins D x with
    | true => JoinVC (fun J => vc P T N D x C ss J E) fun C' ss' => vc P T N D y C' ss' K E
    | false => vc P T N D x C ss (fun C' ss' => vc P T N D y C' ss' K E) E
  | .cond c x y, C, ss, K, E => match ss.eval c with
    | .v (.bool b) => splitB b (vc P T N D x C ss K E) (vc P T N D y C ss K E)
    | _ => False
  | .block id c, C, ss, K, E => vc P T N D c C ss K (blockE id K E)
  | .loop c, C, ss, _, E => LoopVC (fun C ss K => vc P T N D c C ss K E) C ss
  | .exit id, C, ss, _, E => E (.exit id) C ss
  | .goto l, C, ss, _, E => E (.goto l) C ss
  | .ret, C, ss, _, E => E .ret C ss
  | .scope _, _, _, _, _ => False
  | .rangeFunc .., _, _, _, _ => False
  | .refuse _, _, _, _, _ => False
end Go.Proofs.YtgaopcbjhepklaaGreat
