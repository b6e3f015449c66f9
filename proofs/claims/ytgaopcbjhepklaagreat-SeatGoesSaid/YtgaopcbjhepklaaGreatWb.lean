/- The conditions of one operation, and that they serve. -/
import Derived.Test.YtgaopcbjhepklaaGreatWo
namespace Go.Proofs.YtgaopcbjhepklaaGreat
open Go.RowKit
set_option linter.unusedSimpArgs false
set_option linter.unusedVariables false

/-! ### lists in the passing style -/
def forceL {α : Type} : List α → (List α → Prop) → Prop
  | [], K => K []
  | x :: l, K => forceL l fun l' => K (x :: l')
theorem forceL_eq {α : Type} (l : List α) (K : List α → Prop) : forceL l K = K l := by
  induction l generalizing K with
  | nil => rfl
  | cons x l ih => exact ih fun l' => K (x :: l')
def putAt : List Value → Nat → List Value → List Value
  | [], _, _ => []
  | x :: l, n + 1, vs => x :: putAt l n vs
  | x :: l, 0, [] => x :: l
  | x :: l, 0, v :: vs => v :: putAt l 0 vs
theorem putAt_nil (cs : List Value) (off : Nat) : putAt cs off [] = cs := by
  induction cs generalizing off with
  | nil => rfl
  | cons x l ih => cases off with
    | zero => rfl
    | succ n => simp [putAt, ih]
theorem putAt_cons (cs : List Value) (off : Nat) (v : Value) (vs : List Value) : putAt cs off (v :: vs) = putAt (cs.set off v) (off + 1) vs := by
  induction cs generalizing off with
  | nil => rfl
  | cons x l ih => cases off with
    | zero => simp [putAt]
    | succ n => simp [putAt, ih]
theorem putAt_eq (cs : List Value) (off : Nat) (vs : List Value) (h : off + vs.length ≤ cs.length) : putAt cs off vs = cs.take off ++ vs ++ cs.drop (off + vs.length) := by
  induction cs generalizing off vs with
  | nil =>
    simp at h
    obtain ⟨rfl, rfl⟩ := h
    rfl
  | cons x l ih => cases off with
    | succ n =>
      simp [putAt]
      rw [ih n vs (by simp at h; omega)]
      rw [show n + 1 + vs.length = (n + vs.length) + 1 by omega]
      simp
    | zero => cases vs with
      | nil => simp [putAt]
      | cons v vs =>
        simp [putAt]
        rw [ih 0 vs (by simp at h; omega)]
        simp
theorem fill_fold (vs : List Value) (cs : List Value) (off k : Nat) : (vs.zipIdx k).foldl (fun (cs : Array Value) (p : Value × Nat) => cs.setIfInBounds (off + p.2) p.1) cs.toArray = (putAt cs (off + k) vs).toArray := by
  induction vs generalizing cs k with
  | nil => simp [putAt_nil]
  | cons v vs ih =>
    rw [putAt_cons]
    simp only [List.zipIdx_cons, List.foldl_cons]
    rw [show (cs.toArray.setIfInBounds (off + k) v) = (cs.set (off + k) v).toArray by simp]
    rw [ih]
    rfl
def chk (b : Bool) (A : Prop) : Prop := match b with
  | true => A
  | false => False
theorem chk_iff {b : Bool} {A : Prop} (h : chk b A) : b = true ∧ A := by cases b with
  | true => exact ⟨rfl, h⟩
  | false => exact h.elim
def splitB (b : Bool) (A B : Prop) : Prop := match b with
  | true => A
  | false => B
theorem splitB.intro {b : Bool} {A B : Prop} (h1 : b = true → A) (h2 : b = false → B) : splitB b A B := by cases b with
  | true => exact h1 rfl
  | false => exact h2 rfl
def cellsK (x : Value) (K : List Value → Prop) : Prop := match x with
  | .agg cs => match cs with
    | ⟨l⟩ => forceL l K
  | .bool b => K [.bool b]
  | .int k n => K [.int k n]
  | .string s => K [.string s]
  | .pointer a => K [.pointer a]
  | .slice a n c => K [.slice a n c]
  | .nilFunc => K [.nilFunc]
  | .func f a b => K [.func f a b]
  | .iface t v => K [.iface t v]
  | .nilIface => K [.nilIface]
  | .map r => K [.map r]
  | _ => False
theorem cellsK_iff {x : Value} {K : List Value → Prop} (h : cellsK x K) : K x.cells.toList := by
  cases x with
  | agg cs => exact (forceL_eq cs.toList K) ▸ h
  | _ => first | exact h | exact False.elim h
def allOne : List Value → Bool
  | [] => true
  | .agg _ :: _ => false
  | .tuple _ :: _ => false
  | _ :: l => allOne l
theorem allOne_spec {l : List Value} (h : allOne l = true) : ∀ u ∈ l, u.oneCell' = true := by
  induction l with
  | nil => simp
  | cons x l ih =>
    intro u hu
    cases hu with
    | head => cases x <;> first | rfl | (simp [allOne] at h)
    | tail _ hu => exact ih (by cases x <;> first | exact h | (simp [allOne] at h)) u hu

/-! ### types -/
inductive TD where
  | st (fs : List (Nat × Option Nat))
  | ar (n : Nat) (e : Option Nat)
  | sl (e : Option Nat)
  | int (k : IntKind)
  | str
  | other
def TD.of (P : Program) : TypeDesc → TD
  | .struct fs => .st (fs.toList.map fun f => (f.offset, (P.info? f.type).map (·.size)))
  | .array n e => .ar n ((P.info? e).map (·.size))
  | .slice e => .sl ((P.info? e).map (·.size))
  | .int k => .int k
  | .string => .str
  | _ => .other
structure TyI where
  size : Nat
  zv : Value
  d : TD
  ck : List CK := []
def TD.full : TD → Bool
  | .st fs => fs.all fun f => f.2.isSome
  | .sl e => e.isSome
  | .ar _ e => e.isSome
  | _ => true
structure TyOk (P : Program) (t : TypeId) (i : TyI) : Prop where
  full : i.d.full = true
  size : (P.info? t).map (·.size) = some i.size
  zero : (P.info? t).bind (·.zero) = some i.zv
  desc : (P.underlying t).map (TD.of P) = some i.d
  eqs : i.ck = [] ∨ flatK P 5 t = some i.ck ∧ (match P.underlying t with | some (.struct _) => true | _ => false) = true ∧ P.eqGuardType P.depth t = false
def lookT : List (Nat × TyI) → Nat → Option TyI
  | [], _ => none
  | (k, i) :: l, t => bif Nat.beq k t then some i else lookT l t
def TabOk (P : Program) (T : List (Nat × TyI)) : Prop := ∀ t i, lookT T t = some i → TyOk P t i
theorem TabOk.nil (P : Program) : TabOk P [] := fun t i h => by cases h
theorem TabOk.cons {P : Program} {t : TypeId} {i : TyI} {l : List (Nat × TyI)} (h : TyOk P t i) (hl : TabOk P l) : TabOk P ((t, i) :: l) := fun t' i' h' => by
  unfold lookT at h'
  cases e : Nat.beq t t' with
  | true =>
    rw [e] at h'
    injection h' with h'
    have := Nat.eq_of_beq_eq_true e
    subst this h'
    exact h
  | false => rw [e] at h'; exact hl t' i' h'
section
variable {P : Program} {t : TypeId} {i : TyI} {w : World}
theorem TyOk.run_size (h : TyOk P t i) : (sizeOf t).run P w = .ok i.size w := by
  have h1 := h.size
  cases e : P.info? t with
  | none => rw [e] at h1; cases h1
  | some ti =>
    rw [e] at h1
    injection h1 with h1
    simp [sizeOf, typeInfo, e, h1]
theorem TyOk.run_zero (h : TyOk P t i) : (zeroValue t).run P w = .ok i.zv w := by
  have h1 := h.zero
  cases e : P.info? t with
  | none => rw [e] at h1; cases h1
  | some ti =>
    rw [e] at h1
    have h1 : ti.zero = some i.zv := h1
    simp [zeroValue, typeInfo, e, h1]
def TD.agg : TD → Bool
  | .st _ => true
  | .ar _ _ => true
  | _ => false
theorem TyOk.run_isAgg (h : TyOk P t i) : (isAgg t).run P w = .ok i.d.agg w := by
  have h1 := h.desc
  cases e : P.underlying t with
  | none => rw [e] at h1; cases h1
  | some d =>
    rw [e] at h1
    injection h1 with h1
    rw [← h1]
    cases d <;> simp [isAgg, run_underlying e, TD.of, TD.agg]
end

/-! ### conditions that the context has to meet -/
structure SemVC (P : Program) (C : Ctx) (m : Sem Value) (K : Value → Ctx → Prop) : Prop where
  out : ∀ w, C.R w → ∃ v w' C', m.run P w = .ok v w' ∧ Goes C w C' w' ∧ C'.R w' ∧ K v C'
structure StoVC (P : Program) (C : Ctx) (m : Sem Unit) (K : Ctx → Prop) : Prop where
  out : ∀ w, C.R w → ∃ w' C', m.run P w = .ok () w' ∧ Goes C w C' w' ∧ C'.R w' ∧ K C'
def Enters (P : Program) (f : FuncId) : Prop := ∀ args w, (callFunc f args).run P w = .ok (.enter f args) w
abbrev PanK := List PanicEntry → Ctx → Prop
structure CallVC (P : Program) (C : Ctx) (f : FuncId) (args : Array Value) (K : Value → Ctx → Prop) (Z : PanK) : Prop where
  out : Enters P f ∧ ∀ w, C.R w → Calls P f args w fun e w' => (∃ v C', e = .returned v ∧ Goes C w C' w' ∧ C'.R w' ∧ K v C') ∨ ∃ ch C', e = .panicked ch ∧ Goes C w C' w' ∧ C'.R w' ∧ Z ch C'
/-- any operation, by what it comes to -/
structure OpVC (P : Program) (C : Ctx) (m : Sem Next) (K : Value → Ctx → Prop) (Z : PanK) : Prop where
  out : ∀ w, C.R w → (∃ v w' C', m.run P w = .ok (.value v) w' ∧ Goes C w C' w' ∧ C'.R w' ∧ K v C') ∨ (∃ w' C', m.run P w = .ok .skip w' ∧ Goes C w C' w' ∧ C'.R w' ∧ K undef C') ∨ ∃ v w' C', m.run P w = .halt (.panic v) w' ∧ Goes C w C' w' ∧ C'.R w' ∧ Z [{ v, recovered := false }] C'
structure IdxVC (A : Option Addr) (n : Nat) (i : Int) (sz : Nat) (K : Value → Prop) : Prop where
  out : ∃ a, A = some a ∧ 0 ≤ i ∧ i < n ∧ K (.pointer (some (a.add (i.toNat * sz))))
structure CutVC (A : Option Addr) (n c sz : Nat) (lo hi : Option Int) (K : Value → Prop) : Prop where
  out : 0 ≤ lo.getD 0 ∧ lo.getD 0 ≤ hi.getD n ∧ hi.getD n ≤ (if hi.isSome then c else n) ∧ K (.slice (if c = (lo.getD 0).toNat then A else A.map (·.add ((lo.getD 0).toNat * sz))) ((hi.getD n).toNat - (lo.getD 0).toNat) (c - (lo.getD 0).toNat))

/-- a value is brought to its form -/
def forceV (x : SV) (K : SV → Prop) : Prop := match x with
  | .v x => K (.v x)
  | .p b o => K (.p b o)
theorem forceV_eq (x : SV) (K : SV → Prop) : forceV x K = K x := by cases x <;> rfl
abbrev OutK := Ctx → SV → Option (Nat × TypeId × List Value) → Prop
def valK (x : SV) (K : Value → Prop) : Prop := match x with
  | .v x => K x
  | .p _ _ => False
def valsK (ev : Operand → SV) : List Operand → (List Value → Prop) → Prop
  | [], K => K []
  | x :: l, K => valK (ev x) fun v => valsK ev l fun vs => K (v :: vs)
def partsK (ev : Operand → SV) : List (Nat × Operand) → (List (Nat × Value) → Prop) → Prop
  | [], K => K []
  | (i, x) :: l, K => valK (ev x) fun v => partsK ev l fun vs => K ((i, v) :: vs)
def fillK (offs : List (Nat × Option Nat)) : List Value → List (Nat × Value) → (List Value → Prop) → Prop
  | cs, [], K => K cs
  | cs, (i, v) :: l, K => match offs[i]? with
    | some (o, some sz) => cellsK v fun vs => chk (Nat.beq vs.length sz && Nat.ble (o + vs.length) cs.length) (forceL (putAt cs o vs) fun cs' => fillK offs cs' l K)
    | _ => False
def intK (op : BinOp) (k : IntKind) (a b : Int) (K : Value → Prop) : Prop :=
  match op with
  | .add => K (.int k (k.wrap (a + b)))
  | .sub => K (.int k (k.wrap (a - b)))
  | .mul => K (.int k (k.wrap (a * b)))
  | .quo => b ≠ 0 ∧ K (.int k (k.wrap (a.tdiv b)))
  | .rem => b ≠ 0 ∧ K (.int k (a.tmod b))
  | .eql => K (.bool (a == b))
  | .neq => K (.bool (a != b))
  | .lss => K (.bool (decide (a < b)))
  | .leq => K (.bool (decide (a ≤ b)))
  | .gtr => K (.bool (decide (a > b)))
  | .geq => K (.bool (decide (a ≥ b)))
  | _ => False
/-- are structs alike, where they are of numbers and bools? -/
def aggEq (T : List (Nat × TyI)) (op : BinOp) (t : TypeId) (a b : Value) : Option Bool := match a, b, lookT T t with
  | .agg xs, .agg ys, some i => match i.ck with
    | [] => none
    | k :: ks => match fit (k :: ks) xs.toList && fit (k :: ks) ys.toList with
      | true => match op with
        | .eql => some (eqCells xs.toList ys.toList)
        | .neq => some (!eqCells xs.toList ys.toList)
        | _ => none
      | false => none
  | _, _, _ => none
theorem aggEq_run {P : Program} {T : List (Nat × TyI)} (hT : TabOk P T) {op : BinOp} {t : TypeId} {a b : Value} {r : Bool} (h : aggEq T op t a b = some r) (x y : Operand) (w : World) : ((do eqGuard op t x y a b; binOp op t a b) : Sem Value).run P w = .ok (.bool r) w := by
  unfold aggEq at h
  split at h
  · rename_i xs ys i hl
    split at h
    · cases h
    · rename_i k ks hck
      split at h
      · rename_i hf
        simp only [Bool.and_eq_true] at hf
        rcases (hT _ _ hl).eqs with h1 | ⟨h1, h2, h3⟩
        · rw [h1] at hck; cases hck
        · rw [hck] at h1
          have := run_eqS h1 h2 h3 hf.1 hf.2 x y w
          split at h
          · injection h with h; subst h; exact this.1
          · injection h with h; subst h; exact this.2
          · cases h
      · cases h
  · cases h
def binK (P : Program) (T : List (Nat × TyI)) (op : BinOp) (t : TypeId) (x y : Operand) (C : Ctx) (a b : Value) (K : Value → Ctx → Prop) : Prop :=
  match a, b with
  | .int k a, .int k' b => match op with
    | .shl => SemVC P C (Op.shift .shl k a k' b) K
    | .shr => SemVC P C (Op.shift .shr k a k' b) K
    | .and => SemVC P C (binOp .and t (.int k a) (.int k' b)) K
    | .or => SemVC P C (binOp .or t (.int k a) (.int k' b)) K
    | .xor => SemVC P C (binOp .xor t (.int k a) (.int k' b)) K
    | .andNot => SemVC P C (binOp .andNot t (.int k a) (.int k' b)) K
    | op => chk (decide (k = k')) (intK op k a b fun v => K v C)
  | a, b => match aggEq T op t a b with
    | some r => K (.bool r) C
    | none => SemVC P C (do eqGuard op t x y a b; binOp op t a b) K
def callK (P : Program) (T : List (Nat × TyI)) (C : Ctx) (ty : TypeId) (c : Call) (ev : Operand → SV) (K : Value → Ctx → Prop) (Z : PanK) : Prop :=
  match c.callee with
  | .value (.func f) => valsK ev c.args.toList fun vs => CallVC P C f vs.toArray K Z
  | .value (.tmp t) => match ev (.tmp t) with
    | .v (.func (.func f) first cap) => valsK ev c.args.toList fun vs => forceL (first.toList ++ vs ++ cap.toList) fun l => CallVC P C f l.toArray K Z
    | _ => False
  | .builtin .len => valsK ev c.args.toList fun vs => match vs, c.argTypes.toList with
    | [.slice _ n _], [t] => match lookT T t with
      | some i => match i.d with
        | .sl _ => K (.int .i64 n) C
        | _ => False
      | none => False
    | vs, ts => SemVC P C (Builtin.len_ c.argTypes ty vs.toArray) K
  | .builtin .append => valsK ev c.args.toList fun vs => SemVC P C (Builtin.append_ c.argTypes ty vs.toArray) K
  | .builtin .copy => valsK ev c.args.toList fun vs => SemVC P C (Builtin.copy_ c.argTypes ty vs.toArray) K
  | .builtin .cap => valsK ev c.args.toList fun vs => SemVC P C (Builtin.cap_ c.argTypes ty vs.toArray) K
  | .builtin .max => valsK ev c.args.toList fun vs => SemVC P C (Builtin.max_ c.argTypes ty vs.toArray) K
  | .builtin .min => valsK ev c.args.toList fun vs => SemVC P C (Builtin.min_ c.argTypes ty vs.toArray) K
  | _ => False
def optK (ev : Operand → SV) (x : Option Operand) (K : Option Value → Prop) : Prop := match x with
  | none => K none
  | some x => valK (ev x) fun v => K (some v)
def sliceK (P : Program) (T : List (Nat × TyI)) (C : Ctx) (t : TypeId) (x : Value) (lo hi : Option Value) (K : Value → Ctx → Prop) : Prop :=
  match x, lookT T t with
  | .slice A n c, some i => match i.d with
    | .sl (some sz) => match lo, hi with
      | none, some (.int _ h) => CutVC A n c sz none (some h) fun v => K v C
      | some (.int _ l), none => CutVC A n c sz (some l) none fun v => K v C
      | some (.int _ l), some (.int _ h) => CutVC A n c sz (some l) (some h) fun v => K v C
      | lo, hi => SemVC P C (Instr.sliceAt t (.slice A n c) lo hi none) K
    | _ => False
  | x, _ => SemVC P C (Instr.sliceAt t x lo hi none) K
/-- operands as values -/
def valOf (ev : Operand → SV) (x : Operand) : Value := match ev x with
  | .v v => v
  | .p _ _ => undef
def allV (ev : Operand → SV) : List Operand → Bool
  | [] => true
  | x :: l => match ev x with
    | .v _ => allV ev l
    | .p _ _ => false
def anyK (P : Program) (C : Ctx) (ev : Operand → SV) (o : Oper) (K : OutK) (Z : PanK) : Prop := chk (allV ev o.op.operands.toList) (OpVC P C (execOp (valOf ev) o) (fun v C' => K C' (.v v) none) Z)
/-- the conditions of one operation; e: the address is handed on -/
def opK (P : Program) (T : List (Nat × TyI)) (e : Bool) (o : Oper) (C : Ctx) (ev : Operand → SV) (bx : Nat → Option (TypeId × List Value)) (K : OutK) (Z : PanK) : Prop :=
  match o.op with
  | .move x => forceV (ev x) fun x => K C x none
  | .assign x => forceV (ev x) fun x => K C x none
  | .pick c a b => match ev c with
    | .v (.bool t) => splitB t (forceV (ev a) fun x => K C x none) (forceV (ev b) fun x => K C x none)
    | _ => False
  | .alloc t => match e with
    | true => SemVC P C (Instr.alloc t true (.tuple #[])) fun v C' => K C' (.v v) none
    | false => match o.dst with
      | some d => match bx d, lookT T t with
        | none, some i => cellsK i.zv fun cs => K C (.p d 0) (some (d, t, cs))
        | _, _ => False
      | none => False
  | .box t x => match e with
    | true => valK (ev x) fun x => SemVC P C (Instr.box t x) fun v C' => K C' (.v v) none
    | false => match o.dst with
      | some d => match bx d with
        | none => valK (ev x) fun x => cellsK x fun cs => K C (.p d 0) (some (d, t, cs))
        | _ => False
      | none => False
  | .build t parts => match lookT T t with
    | some i => match i.d with
      | .st offs => partsK ev parts.toList fun ps => cellsK i.zv fun cs => fillK offs cs ps fun cs => K C (.v (.agg cs.toArray)) none
      | _ => partsK ev parts.toList fun ps => SemVC P C (Instr.build t ps.toArray) fun v C' => K C' (.v v) none
    | none => False
  | .fieldAddr t x f => match lookT T t with
    | some i => match i.d with
      | .st offs => match offs[f]? with
        | some (o, some (sz + 1)) => match ev x with
          | .p b off => K C (.p b (off + o)) none
          | .v (.pointer (some a)) => K C (.v (.pointer (some (a.add o)))) none
          | _ => False
        | _ => False
      | _ => False
    | none => False
  | .load t x => match ev x with
    | .p b off => match bx b, lookT T t with
      | some (_, cs), some i => match i.d.agg with
        | true => forceL ((cs.drop off).take i.size) fun l => chk (Nat.beq l.length i.size) (K C (.v (.agg l.toArray)) none)
        | false => match cs.drop off with
          | v :: _ => K C (.v v) none
          | [] => False
      | _, _ => False
    | .v x => SemVC P C (Instr.loadAt t x) fun v C' => K C' (.v v) none
  | .store t x y => match ev x with
    | .p b off => match bx b, lookT T t with
      | some (ty, cs), some i => valK (ev y) fun y => cellsK y fun vs => chk (Nat.beq vs.length i.size && Nat.ble (off + vs.length) cs.length && allOne vs) (forceL (putAt cs off vs) fun cs' => K C (.v undef) (some (b, ty, cs')))
      | _, _ => False
    | .v x => valK (ev y) fun y => StoVC P C (Instr.storeAt t x y) fun C' => K C' (.v undef) none
  | .binOp op t x y _ => valK (ev x) fun a => valK (ev y) fun b => binK P T op t x y C a b fun v C' => K C' (.v v) none
  | .unOp op _ x => valK (ev x) fun a => match op, a with
    | .not, .bool b => K C (.v (.bool !b)) none
    | op, a => SemVC P C (Op.unary op a) fun v C' => K C' (.v v) none
  | .convert s d x => valK (ev x) fun a => SemVC P C (convert s d a) fun v C' => K C' (.v v) none
  | .extract x i => match ev x with
    | .v (.tuple vs) => match vs.toList[i]? with
      | some v => K C (.v v) none
      | none => False
    | _ => False
  | .indexAddr t x i => match ev x with
    | .v (.slice A n c) => match lookT T t, ev i with
      | some ti, .v (.int _ k) => match ti.d with
        | .sl (some sz) => IdxVC A n k sz fun v => K C (.v v) none
        | _ => False
      | _, _ => False
    | .v (.pointer a) => valK (ev i) fun k => SemVC P C (Instr.indexAt t (.pointer a) k) fun v C' => K C' (.v v) none
    | _ => False
  | .slice t x lo hi none => valK (ev x) fun x => optK ev lo fun lo => optK ev hi fun hi => sliceK P T C t x lo hi fun v C' => K C' (.v v) none
  | .buildSlice t n parts => partsK ev parts.toList fun ps => SemVC P C (Instr.buildSlice t n ps.toArray) fun v C' => K C' (.v v) none
  | .makeSlice t l c => valK (ev l) fun l => valK (ev c) fun c => SemVC P C (Instr.makeSlice t l c) fun v C' => K C' (.v v) none
  | .call c => callK P T C o.type c ev (fun v C' => K C' (.v v) none) Z
  | .slice _ _ _ _ (some _) => anyK P C ev o K Z
  | .nilCheck x => match ev x with
    | .p b off => K C (.p b off) none
    | .v (.pointer (some ad)) => K C (.v (.pointer (some ad))) none
    | _ => anyK P C ev o K Z
  | .makeInterface _ _ => anyK P C ev o K Z
  | .makeFunc _ _ _ => anyK P C ev o K Z
  | .field _ _ _ => anyK P C ev o K Z
  | .index _ _ _ => anyK P C ev o K Z
  | .typeAssert _ _ _ _ => anyK P C ev o K Z
  | .panic _ => anyK P C ev o K Z
  | _ => False
end Go.Proofs.YtgaopcbjhepklaaGreat
