/- Structs of numbers and bools are alike: by their cells. -/
import Derived.Test.YtgaopcbjhepklaaGreatWa
import Derived.Laws.StructEq
import Derived.DeepKeys
namespace Go.Proofs.YtgaopcbjhepklaaGreat
open Go.RowKit
set_option linter.unusedSimpArgs false
set_option linter.unusedVariables false

abbrev CK := Option IntKind
def flatFs (P : Program) (g : TypeId → Option (List CK)) : Nat → List Field → Option (List CK)
  | _, [] => some []
  | off, f :: fs => match decide (f.name ≠ "_" ∧ f.offset = off) with
    | true => match g f.type with
      | some a => match decide (P.cellsOf f.type = a.length) with
        | true => match flatFs P g (off + a.length) fs with
          | some b => some (a ++ b)
          | none => none
        | false => none
      | none => none
    | false => none
def flatK (P : Program) : Nat → TypeId → Option (List CK)
  | 0, _ => none
  | n + 1, t => match P.underlying t with
    | some (.int k) => some [some k]
    | some .bool => some [none]
    | some (.struct fs) => match P.stoodInHeld t with
      | true => none
      | false => flatFs P (flatK P n) 0 fs.toList
    | _ => none
def fit : List CK → List Value → Bool
  | [], [] => true
  | some k :: ks, .int k' _ :: l => decide (k = k') && fit ks l
  | none :: ks, .bool _ :: l => fit ks l
  | _, _ => false
def eqCells : List Value → List Value → Bool
  | .int _ a :: l, .int _ b :: m => (a == b) && eqCells l m
  | .bool a :: l, .bool b :: m => (a == b) && eqCells l m
  | _, _ => true
theorem fit_split : ∀ {a b : List CK} {l : List Value}, fit (a ++ b) l = true → ∃ x y, l = x ++ y ∧ fit a x = true ∧ fit b y = true ∧ x.length = a.length
  | [], b, l, h => ⟨[], l, rfl, rfl, h, rfl⟩
  | some k :: a, b, l, h => by
    match l, h with
    | .int k' n :: l, h =>
      simp only [List.cons_append, fit, Bool.and_eq_true, decide_eq_true_eq] at h
      obtain ⟨x, y, rfl, h1, h2, h3⟩ := fit_split h.2
      exact ⟨.int k' n :: x, y, rfl, by simp [fit, h.1, h1], h2, by simp [h3]⟩
  | none :: a, b, l, h => by
    match l, h with
    | .bool n :: l, h =>
      simp only [List.cons_append, fit] at h
      obtain ⟨x, y, rfl, h1, h2, h3⟩ := fit_split h
      exact ⟨.bool n :: x, y, rfl, by simp [fit, h1], h2, by simp [h3]⟩
theorem eqCells_append : ∀ {a : List CK} {x x' y y' : List Value}, fit a x = true → fit a x' = true → eqCells (x ++ y) (x' ++ y') = (eqCells x x' && eqCells y y')
  | [], x, x', y, y', h, h' => by
    match x, x', h, h' with
    | [], [], _, _ => simp [eqCells]
  | some k :: a, x, x', y, y', h, h' => by
    match x, x', h, h' with
    | .int k1 n1 :: x, .int k2 n2 :: x', h, h' =>
      simp only [fit, Bool.and_eq_true] at h h'
      simp only [List.cons_append, eqCells, eqCells_append h.2 h'.2, Bool.and_assoc]
  | none :: a, x, x', y, y', h, h' => by
    match x, x', h, h' with
    | .bool n1 :: x, .bool n2 :: x', h, h' =>
      simp only [fit] at h h'
      simp only [List.cons_append, eqCells, eqCells_append h h', Bool.and_assoc]
/-- a value of a type, by its cells -/
inductive OfT (P : Program) (t : TypeId) : List Value → Value → Prop where
  | st (fs : Array Field) (h : P.underlying t = some (.struct fs)) (xs : List Value) : OfT P t xs (.agg xs.toArray)
  | int (k : IntKind) (h : P.underlying t = some (.int k)) (n : Int) : OfT P t [.int k n] (.int k n)
  | bool (h : P.underlying t = some .bool) (b : Bool) : OfT P t [.bool b] (.bool b)
section
variable {P : Program}
theorem run_partT {n : Nat} {t : TypeId} {a : List CK} (h : flatK P n t = some a) (hc : P.cellsOf t = a.length) {l x y : List Value} {off : Nat} (hl : l.drop off = x ++ y) (hx : fit a x = true) (hxl : x.length = a.length) (w : World) : ∃ v, (part t l.toArray off).run P w = .ok v w ∧ OfT P t x v := by
  cases n with
  | zero => cases h
  | succ n =>
    unfold flatK at h
    cases hu : P.underlying t with
    | none => rw [hu] at h; cases h
    | some d =>
      rw [hu] at h
      obtain ⟨i, hi⟩ := info_of_underlying hu
      have one : ∀ v, x = [v] → l[off]? = some v := fun v hv => by
        have : (l.drop off)[0]? = some v := by rw [hl, hv]; rfl
        rw [List.getElem?_drop] at this
        simpa using this
      cases d <;> try (cases h; done)
      case bool =>
        simp only [Option.some.injEq] at h
        subst h
        match x, hx with
        | [.bool b], _ =>
          have := one _ rfl
          exact ⟨.bool b, by simp [part, isAgg, run_underlying hu, this], .bool hu b⟩
      case int k =>
        simp only [Option.some.injEq] at h
        subst h
        match x, hx with
        | .int k' m :: l', hx =>
          simp only [fit, Bool.and_eq_true, decide_eq_true_eq] at hx
          obtain ⟨rfl, hx⟩ := hx
          match l', hx with
          | [], _ =>
            have := one _ rfl
            exact ⟨.int k m, by simp [part, isAgg, run_underlying hu, this], .int k hu m⟩
      case struct fs =>
        have hsz : i.size = x.length := by
          have : P.cellsOf t = i.size := by simp [Program.cellsOf, hi]
          omega
        have htk : List.take x.length (List.drop off l) = x := by rw [hl]; simp
        exact ⟨.agg x.toArray, by simp [part, isAgg, run_underlying hu, sizeOf, typeInfo, hi, hsz, htk], .st fs hu x⟩
theorem run_fieldsT {n e : Nat} (ih : ∀ (t : TypeId) (ks : List CK), flatK P n t = some ks → ∀ (xs ys : List Value) (x y : Value), OfT P t xs x → OfT P t ys y → fit ks xs = true → fit ks ys = true → ∀ w, (Op.equalIn (n + e) t x y).run P w = .ok (eqCells xs ys) w) : ∀ (fs : List Field) (off : Nat) (ks : List CK), flatFs P (flatK P n) off fs = some ks → ∀ (l m : List Value), fit ks (l.drop off) = true → fit ks (m.drop off) = true → ∀ w, (Op.eqFields (n + e) l.toArray m.toArray fs).run P w = .ok (eqCells (l.drop off) (m.drop off)) w
  | [], off, ks, h, l, m, hl, hm, w => by
    simp only [flatFs, Option.some.injEq] at h
    subst h
    match l.drop off, m.drop off, hl, hm with
    | [], [], _, _ => simp [Op.eqFields, eqCells]
  | f :: fs, off, ks, h, l, m, hl, hm, w => by
    unfold flatFs at h
    split at h
    · rename_i hd
      have hd := of_decide_eq_true hd
      split at h
      · rename_i a ha
        split at h
        · rename_i hcc
          have hcc := of_decide_eq_true hcc
          split at h
          · rename_i b hb
            simp only [Option.some.injEq] at h
            subst h
            obtain ⟨x, x', h1, h2, h3, h4⟩ := fit_split hl
            obtain ⟨y, y', h5, h6, h7, h8⟩ := fit_split hm
            obtain ⟨v, hv, ov⟩ := run_partT ha hcc h1 h2 h4 w
            obtain ⟨u, hu, ou⟩ := run_partT ha hcc h5 h6 h8 w
            have he := ih f.type a ha x y v u ov ou h2 h6 w
            have hl' : l.drop (off + a.length) = x' := by rw [← List.drop_drop, h1, ← h4]; simp
            have hm' : m.drop (off + a.length) = y' := by rw [← List.drop_drop, h5, ← h8]; simp
            have hr := run_fieldsT ih fs (off + a.length) b hb l m (by rw [hl']; exact h3) (by rw [hm']; exact h7) w
            rw [hl', hm'] at hr
            rw [h1, h5, eqCells_append h2 h6]
            simp only [Op.eqFields, hd.1, ne_eq, not_false_eq_true, if_true, hd.2, Sem.run_bind, hv, Result.andThen_ok, hu, he]
            cases eqCells x y with
            | true => simpa using hr
            | false => simp
          · cases h
        · cases h
      · cases h
    · cases h
theorem run_equalT : ∀ (n e : Nat) (t : TypeId) (ks : List CK), flatK P n t = some ks → ∀ (xs ys : List Value) (x y : Value), OfT P t xs x → OfT P t ys y → fit ks xs = true → fit ks ys = true → ∀ w, (Op.equalIn (n + e) t x y).run P w = .ok (eqCells xs ys) w
  | 0, e, t, ks, h, _, _, _, _, _, _, _, _, _ => by cases h
  | n + 1, e, t, ks, h, xs, ys, x, y, ox, oy, fx, fy, w => by
    rw [show n + 1 + e = (n + e) + 1 by omega]
    unfold flatK at h
    cases ox with
    | st fs hu =>
      cases oy with
      | st fs' hu' =>
        rw [hu] at h
        simp only at h
        split at h
        · cases h
        · rename_i hs
          have hf : P.fieldsOf t = fs := by simp [Program.fieldsOf, hu]
          rw [run_equalIn_struct w (n + e) t _ _ (by rw [hf]; exact hu) (by simpa using hs), hf]
          have := run_fieldsT (fun t ks h => run_equalT n e t ks h) fs.toList 0 ks h xs ys (by simpa using fx) (by simpa using fy) w
          simpa using this
      | int k hu' m => rw [hu] at hu'; cases hu'
      | bool hu' b => rw [hu] at hu'; cases hu'
    | int k hu m =>
      cases oy with
      | st fs hu' => rw [hu] at hu'; cases hu'
      | int k' hu' m' =>
        rw [hu] at hu'
        injection hu' with hu'
        injection hu' with hu'
        subst hu'
        rw [run_equalIn_int w (n + e) t k k m m' hu]
        simp [eqCells]
      | bool hu' b => rw [hu] at hu'; cases hu'
    | bool hu b =>
      cases oy with
      | st fs hu' => rw [hu] at hu'; cases hu'
      | int k' hu' m' => rw [hu] at hu'; cases hu'
      | bool hu' b' =>
        rw [run_equalIn_bool w (n + e) t b b' hu]
        simp [eqCells]
/-- structs, alike or not -/
theorem run_eqS {t : TypeId} {ks : List CK} (hk : flatK P 5 t = some ks) (hs : (match P.underlying t with | some (.struct _) => true | _ => false) = true) (hg : P.eqGuardType P.depth t = false) {xs ys : List Value} (fx : fit ks xs = true) (fy : fit ks ys = true) (x y : Operand) (w : World) :
    ((do eqGuard .eql t x y (.agg xs.toArray) (.agg ys.toArray); binOp .eql t (.agg xs.toArray) (.agg ys.toArray)) : Sem Value).run P w = .ok (.bool (eqCells xs ys)) w ∧ ((do eqGuard .neq t x y (.agg xs.toArray) (.agg ys.toArray); binOp .neq t (.agg xs.toArray) (.agg ys.toArray)) : Sem Value).run P w = .ok (.bool (!eqCells xs ys)) w := by
  have hu : ∃ fs, P.underlying t = some (.struct fs) := by
    split at hs
    · rename_i fs h; exact ⟨fs, h⟩
    · cases hs
  obtain ⟨fs, hu⟩ := hu
  have := run_equalT 5 9995 t ks hk xs ys _ _ (.st fs hu xs) (.st fs hu ys) fx fy w
  rw [show 5 + 9995 = 10000 from rfl] at this
  constructor
  · rw [Sem.run_bind, run_eqGuard_agg w .eql t x y _ _ hg, Result.andThen_ok, run_eql_struct, this]; rfl
  · rw [Sem.run_bind, run_eqGuard_agg w .neq t x y _ _ hg, Result.andThen_ok, run_neq_struct, this]; rfl
end
end Go.Proofs.YtgaopcbjhepklaaGreat
