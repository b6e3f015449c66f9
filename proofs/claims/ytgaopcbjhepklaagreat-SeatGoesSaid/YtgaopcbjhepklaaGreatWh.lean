/- Regions that draw their order: what a plan has to be. -/
import Derived.Test.YtgaopcbjhepklaaGreatWg
import Derived.Orders
namespace Go.Proofs.YtgaopcbjhepklaaGreat
open Go.RowKit
set_option linter.unusedSimpArgs false
set_option linter.unusedVariables false
section
variable {P : Program} {T : List (Nat × TyI)} {N : Fk} {C : Ctx} {o : Oper}
/-! ### conditions grow -/
theorem SemVC.mono {m : Sem Value} {K K' : Value → Ctx → Prop} (hk : ∀ v C, K v C → K' v C) (h : SemVC P C m K) : SemVC P C m K' := by
  constructor; replace h := h.out
  intro w hw
  obtain ⟨v, w', C', h1, h2, h3, h4⟩ := h w hw
  exact ⟨v, w', C', h1, h2, h3, hk _ _ h4⟩
theorem StoVC.mono {m : Sem Unit} {K K' : Ctx → Prop} (hk : ∀ C, K C → K' C) (h : StoVC P C m K) : StoVC P C m K' := by
  constructor; replace h := h.out
  intro w hw
  obtain ⟨w', C', h1, h2, h3, h4⟩ := h w hw
  exact ⟨w', C', h1, h2, h3, hk _ h4⟩
theorem CallVC.mono {f : FuncId} {vs : Array Value} {K K' : Value → Ctx → Prop} {Z Z' : PanK} (hk : ∀ v C, K v C → K' v C) (h : CallVC P C f vs K Z) (hz : ∀ ch C, Z ch C → Z' ch C := by exact fun _ _ h => h) : CallVC P C f vs K' Z' :=
  ⟨h.out.1, fun w hw => (h.out.2 w hw).mono fun e w' hh => hh.imp (fun ⟨v, C', h1, h2, h3, h4⟩ => ⟨v, C', h1, h2, h3, hk v C' h4⟩) (fun ⟨ch, C', h1, h2, h3, h4⟩ => ⟨ch, C', h1, h2, h3, hz ch C' h4⟩)⟩
theorem OpVC.mono {m : Sem Next} {K K' : Value → Ctx → Prop} {Z Z' : PanK} (hk : ∀ v C, K v C → K' v C) (h : OpVC P C m K Z) (hz : ∀ ch C, Z ch C → Z' ch C := by exact fun _ _ h => h) : OpVC P C m K' Z' :=
  ⟨fun w hw => (h.out w hw).imp (fun ⟨v, w', C', h1, h2, h3, h4⟩ => ⟨v, w', C', h1, h2, h3, hk v C' h4⟩) (Or.imp (fun ⟨w', C', h1, h2, h3, h4⟩ => ⟨w', C', h1, h2, h3, hk _ C' h4⟩) (fun ⟨v, w', C', h1, h2, h3, h4⟩ => ⟨v, w', C', h1, h2, h3, hz _ C' h4⟩))⟩
theorem IdxVC.mono {A : Option Addr} {n : Nat} {i : Int} {sz : Nat} {K K' : Value → Prop} (hk : ∀ v, K v → K' v) (h : IdxVC A n i sz K) : IdxVC A n i sz K' := by
  constructor; replace h := h.out
  obtain ⟨a, h1, h2, h3, h4⟩ := h
  exact ⟨a, h1, h2, h3, hk _ h4⟩
theorem CutVC.mono {A : Option Addr} {n c sz : Nat} {lo hi : Option Int} {K K' : Value → Prop} (hk : ∀ v, K v → K' v) (h : CutVC A n c sz lo hi K) : CutVC A n c sz lo hi K' := by
  constructor; replace h := h.out
  exact ⟨h.1, h.2.1, h.2.2.1, hk _ h.2.2.2⟩
theorem forceL.mono {l : List Value} {K K' : List Value → Prop} (hk : ∀ l, K l → K' l) (h : forceL l K) : forceL l K' := by rw [forceL_eq] at *; exact hk _ h
theorem chk.mono {b : Bool} {A A' : Prop} (hk : A → A') (h : chk b A) : chk b A' := by cases b with
  | true => exact hk h
  | false => exact h
theorem splitB.mono {b : Bool} {A A' B B' : Prop} (h1 : A → A') (h2 : B → B') (h : splitB b A B) : splitB b A' B' := by cases b with
  | true => exact h1 h
  | false => exact h2 h
theorem cellsK.mono {x : Value} {K K' : List Value → Prop} (hk : ∀ l, K l → K' l) (h : cellsK x K) : cellsK x K' := by
  cases x with
  | agg cs => exact forceL.mono (l := cs.toList) hk h
  | _ => first | exact hk _ h | exact False.elim h
theorem valK.mono {x : SV} {K K' : Value → Prop} (hk : ∀ v, K v → K' v) (h : valK x K) : valK x K' := by cases x with
  | v x => exact hk _ h
  | p b off => exact h
theorem valsK.mono {ev : Operand → SV} : ∀ {l : List Operand} {K K' : List Value → Prop}, (∀ v, K v → K' v) → valsK ev l K → valsK ev l K'
  | [], K, K', hk, h => hk _ h
  | x :: l, K, K', hk, h => valK.mono (fun v => valsK.mono fun vs => hk _) h
theorem partsK.mono {ev : Operand → SV} : ∀ {l : List (Nat × Operand)} {K K' : List (Nat × Value) → Prop}, (∀ v, K v → K' v) → partsK ev l K → partsK ev l K'
  | [], K, K', hk, h => hk _ h
  | (i, x) :: l, K, K', hk, h => valK.mono (fun v => partsK.mono fun vs => hk _) h
theorem optK.mono {ev : Operand → SV} {x : Option Operand} {K K' : Option Value → Prop} (hk : ∀ v, K v → K' v) (h : optK ev x K) : optK ev x K' := by cases x with
  | none => exact hk _ h
  | some x => exact valK.mono (fun v => hk _) h
theorem fillK.mono {offs : List (Nat × Option Nat)} : ∀ {ps : List (Nat × Value)} {cs : List Value} {K K' : List Value → Prop}, (∀ l, K l → K' l) → fillK offs cs ps K → fillK offs cs ps K'
  | [], cs, K, K', hk, h => hk _ h
  | (i, v) :: ps, cs, K, K', hk, h => by
    unfold fillK at *
    split at h
    · exact cellsK.mono (fun l => chk.mono (forceL.mono fun l' => fillK.mono hk)) h
    · exact h
theorem intK.mono {op : BinOp} {k : IntKind} {a b : Int} {K K' : Value → Prop} (hk : ∀ v, K v → K' v) (h : intK op k a b K) : intK op k a b K' := by
  cases op <;> first | exact hk _ h | exact False.elim h | exact ⟨h.1, hk _ h.2⟩
theorem binK.mono {op : BinOp} {t : TypeId} {x y : Operand} {a b : Value} {K K' : Value → Ctx → Prop} (hk : ∀ v C, K v C → K' v C) (h : binK P T op t x y C a b K) : binK P T op t x y C a b K' := by
  unfold binK at *
  split at h
  · split at h <;> first | exact SemVC.mono hk h | exact chk.mono (intK.mono fun v => hk v C) h
  · split at h
    · exact hk _ _ h
    · exact SemVC.mono hk h
theorem callK.mono {ty : TypeId} {c : Call} {ev : Operand → SV} {K K' : Value → Ctx → Prop} {Z Z' : PanK} (hk : ∀ v C, K v C → K' v C) (h : callK P T C ty c ev K Z) (hz : ∀ ch C, Z ch C → Z' ch C := by exact fun _ _ h => h) : callK P T C ty c ev K' Z' := by
  unfold callK at *
  split at h
  · exact valsK.mono (fun vs h => CallVC.mono hk h hz) h
  · split at h
    · exact valsK.mono (fun vs => forceL.mono fun l h => CallVC.mono hk h hz) h
    · exact h
  · refine valsK.mono (fun vs h => ?_) h
    split at h
    · split at h
      · split at h
        · exact hk _ _ h
        · exact False.elim h
      · exact False.elim h
    · exact SemVC.mono hk h
  · exact valsK.mono (fun vs => SemVC.mono hk) h
  · exact valsK.mono (fun vs => SemVC.mono hk) h
  · exact valsK.mono (fun vs => SemVC.mono hk) h
  · exact valsK.mono (fun vs => SemVC.mono hk) h
  · exact valsK.mono (fun vs => SemVC.mono hk) h
  · exact h
theorem sliceK.mono {t : TypeId} {x : Value} {lo hi : Option Value} {K K' : Value → Ctx → Prop} (hk : ∀ v C, K v C → K' v C) (h : sliceK P T C t x lo hi K) : sliceK P T C t x lo hi K' := by
  unfold sliceK at *
  split at h
  · split at h
    · split at h <;> first | exact CutVC.mono (fun v => hk _ _) h | exact SemVC.mono hk h
    · exact h
  · exact SemVC.mono hk h
/-- what an operation does to the boxes -/
def Fits (o : Oper) (ev : Operand → SV) (bx : Nat → Option (TypeId × List Value)) (δ : Option (Nat × TypeId × List Value)) : Prop :=
  ∀ d t cs, δ = some (d, t, cs) → bx d = none ∨ ∃ ty x y off, o.op = .store ty x y ∧ ev x = .p d off
theorem anyK.mono {ev : Operand → SV} {K K' : OutK} {Z Z' : PanK} (hk : ∀ C x, K C x none → K' C x none) (h : anyK P C ev o K Z) (hz : ∀ ch C, Z ch C → Z' ch C := by exact fun _ _ h => h) : anyK P C ev o K' Z' := chk.mono (fun h => OpVC.mono (fun v C h => hk C (.v v) h) h hz) h
theorem opK_mono {e : Bool} {ev : Operand → SV} {bx : Nat → Option (TypeId × List Value)} {K K' : OutK} {Z Z' : PanK} (hk : ∀ C x δ, Fits o ev bx δ → K C x δ → K' C x δ) (h : opK P T e o C ev bx K Z) (hz : ∀ ch C, Z ch C → Z' ch C := by exact fun _ _ h => h) : opK P T e o C ev bx K' Z' := by
  have hn : ∀ C x, K C x none → K' C x none := fun C x h => hk C x none (fun d t cs e => by cases e) h
  cases ho : o.op <;> simp only [opK, ho, forceV_eq] at h ⊢ <;> try exact False.elim h
  case nilCheck x =>
    split at h
    · exact hn _ _ h
    · exact hn _ _ h
    · exact anyK.mono hn h hz
  case makeInterface t x => exact anyK.mono hn h hz
  case field t x f => exact anyK.mono hn h hz
  case index t x i => exact anyK.mono hn h hz
  case typeAssert x t t' ok => exact anyK.mono hn h hz
  case panic x => exact anyK.mono hn h hz
  case makeFunc fn first cap => exact anyK.mono hn h hz
  case move x => exact hn _ _ h
  case assign x => exact hn _ _ h
  case pick c x y =>
    split at h
    · exact splitB.mono (hn _ _) (hn _ _) h
    · exact h
  case alloc t =>
    cases e with
    | true => exact SemVC.mono (fun v C => hn _ _) h
    | false =>
    simp only at h ⊢
    split at h
    · rename_i d hd
      split at h
      · rename_i i hb hl
        exact cellsK.mono (fun cs h => hk _ _ _ (fun d' t' cs' e => by cases e; exact .inl hb) h) h
      · exact False.elim h
    · exact h
  case box t x =>
    cases e with
    | true => exact valK.mono (fun v => SemVC.mono fun v C => hn _ _) h
    | false =>
    simp only at h ⊢
    split at h
    · split at h
      · rename_i hb
        exact valK.mono (fun v => cellsK.mono (fun cs h => hk _ _ _ (fun d' t' cs' e => by cases e; exact .inl hb) h)) h
      · exact False.elim h
    · exact h
  case build t parts =>
    split at h
    · split at h
      · exact partsK.mono (fun ps => cellsK.mono fun cs => fillK.mono fun l => hn _ _) h
      · exact partsK.mono (fun ps => SemVC.mono fun v C => hn _ _) h
    · exact h
  case fieldAddr t x f =>
    split at h
    · split at h
      · split at h
        · split at h
          · exact hn _ _ h
          · exact hn _ _ h
          · exact h
        · exact h
      · exact h
    · exact h
  case load t x =>
    split at h
    · split at h
      · split at h
        · exact forceL.mono (fun l => chk.mono (hn _ _)) h
        · split at h
          · exact hn _ _ h
          · exact h
      · exact False.elim h
    · exact SemVC.mono (fun v C => hn _ _) h
  case store t x y =>
    split at h
    · rename_i b off hx
      split at h
      · exact valK.mono (fun v => cellsK.mono fun vs => chk.mono (forceL.mono fun l h => hk _ _ _ (fun d' t' cs' e => by cases e; exact .inr ⟨t, x, y, off, ho, hx⟩) h)) h
      · exact False.elim h
    · exact valK.mono (fun v => StoVC.mono fun C => hn _ _) h
  case binOp op t x y t' => exact valK.mono (fun a => valK.mono fun b => binK.mono fun v C => hn _ _) h
  case unOp op t x =>
    refine valK.mono (fun v h => ?_) h
    split at h
    · exact hn _ _ h
    · exact SemVC.mono (fun v C => hn _ _) h
  case convert s d x => exact valK.mono (fun v => SemVC.mono fun v C => hn _ _) h
  case extract x i =>
    split at h
    · split at h
      · exact hn _ _ h
      · exact h
    · exact h
  case indexAddr t x i =>
    split at h
    · split at h
      · split at h
        · exact IdxVC.mono (fun v => hn _ _) h
        · exact h
      · exact False.elim h
    · exact valK.mono (fun v => SemVC.mono fun v C => hn _ _) h
    · exact h
  case slice t x lo hi mx =>
    cases mx with
    | some m => exact anyK.mono hn h hz
    | none => exact valK.mono (fun v => optK.mono fun lo => optK.mono fun hi => sliceK.mono fun v C => hn _ _) h
  case buildSlice t n parts => exact partsK.mono (fun ps => SemVC.mono fun v C => hn _ _) h
  case makeSlice t l c => exact valK.mono (fun v => valK.mono fun v' => SemVC.mono fun v C => hn _ _) h
  case call c => exact callK.mono (fun v C => hn _ _) h hz
end
end Go.Proofs.YtgaopcbjhepklaaGreat
