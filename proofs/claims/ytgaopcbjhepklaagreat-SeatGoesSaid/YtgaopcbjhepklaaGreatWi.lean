/- Regions that draw their order: a plan serves. -/
import Derived.Test.YtgaopcbjhepklaaGreatWh
namespace Go.Proofs.YtgaopcbjhepklaaGreat
open Go.RowKit
set_option linter.unusedSimpArgs false
set_option linter.unusedVariables false
section
variable {P : Program} {T : List (Nat × TyI)} {N : Fk} {C : Ctx} {o : Oper}
theorem valsK_congr {ev ev' : Operand → SV} : ∀ {l : List Operand} {K : List Value → Prop}, (∀ x ∈ l, ev' x = ev x) → valsK ev' l K = valsK ev l K
  | [], K, h => rfl
  | x :: l, K, h => by
    simp only [valsK, h x (by simp)]
    congr 1
    funext v
    exact valsK_congr fun y hy => h y (by simp [hy])
theorem partsK_congr {ev ev' : Operand → SV} : ∀ {l : List (Nat × Operand)} {K : List (Nat × Value) → Prop}, (∀ x ∈ l, ev' x.2 = ev x.2) → partsK ev' l K = partsK ev l K
  | [], K, h => rfl
  | (i, x) :: l, K, h => by
    simp only [partsK, h (i, x) (by simp)]
    congr 1
    funext v
    exact partsK_congr fun y hy => h y (by simp [hy])
theorem optK_congr {ev ev' : Operand → SV} {x : Option Operand} {K : Option Value → Prop} (h : ∀ y, x = some y → ev' y = ev y) : optK ev' x K = optK ev x K := by
  cases x with
  | none => rfl
  | some x => simp only [optK, h x rfl]
theorem callK_congr {ty : TypeId} {c : Call} {ev ev' : Operand → SV} {K : Value → Ctx → Prop} {Z : PanK} (h : ∀ x ∈ c.operands, ev' x = ev x) : callK P T C ty c ev' K Z = callK P T C ty c ev K Z := by
  have ha : ∀ x ∈ c.args.toList, ev' x = ev x := fun x hx => h x (by simp only [Call.operands, Array.mem_append]; exact .inr (by simpa using hx))
  unfold callK
  split
  · exact valsK_congr ha
  · rename_i t ht
    rw [h (.tmp t) (by simp [Call.operands, ht])]
    split
    · exact valsK_congr ha
    · rfl
  all_goals first | exact valsK_congr ha | rfl
theorem valOf_congr {ev ev' : Operand → SV} {x : Operand} (h : ev' x = ev x) : valOf ev' x = valOf ev x := by unfold valOf; rw [h]
theorem allV_congr {ev ev' : Operand → SV} : ∀ {l : List Operand}, (∀ x ∈ l, ev' x = ev x) → allV ev' l = allV ev l
  | [], h => rfl
  | x :: l, h => by
    unfold allV
    rw [h x (by simp), allV_congr fun y hy => h y (by simp [hy])]
theorem anyK_congr {ev ev' : Operand → SV} {K : OutK} {Z : PanK} (h : ∀ x ∈ o.op.operands, ev' x = ev x) (he : execOp (valOf ev') o = execOp (valOf ev) o) : anyK P C ev' o K Z = anyK P C ev o K Z := by
  unfold anyK
  rw [allV_congr fun x hx => h x (by simpa using hx), he]
theorem opK_congr {e : Bool} {ev ev' : Operand → SV} {bx : Nat → Option (TypeId × List Value)} {K : OutK} {Z : PanK} (h0 : ∀ x ∈ o.op.operands, ev' x = ev x) : opK P T e o C ev' bx K Z = opK P T e o C ev bx K Z := by
  have h := h0
  cases ho : o.op <;> simp only [ho, Op.operands] at h <;> simp only [opK, ho]
  case nilCheck x =>
    rw [h x (by simp)]
    split
    · rfl
    · rfl
    · exact anyK_congr h0 (by simp only [execOp, ho]; rw [valOf_congr (h x (by simp))])
  case makeInterface t x => exact anyK_congr h0 (by simp only [execOp, ho]; rw [valOf_congr (h x (by simp))])
  case field t x f => exact anyK_congr h0 (by simp only [execOp, ho]; rw [valOf_congr (h x (by simp))])
  case index t x i => exact anyK_congr h0 (by simp only [execOp, ho]; rw [valOf_congr (h x (by simp)), valOf_congr (h i (by simp))])
  case typeAssert x t t' ok => exact anyK_congr h0 (by simp only [execOp, ho]; rw [valOf_congr (h x (by simp))])
  case panic x => exact anyK_congr h0 (by simp only [execOp, ho]; rw [valOf_congr (h x (by simp))])
  case makeFunc fn first cap =>
    refine anyK_congr h0 ?_
    simp only [execOp, ho]
    have e1 : first.map (valOf ev') = first.map (valOf ev) := Array.map_congr_left fun x hx => valOf_congr (h x (by simp [hx]))
    have e2 : cap.map (valOf ev') = cap.map (valOf ev) := Array.map_congr_left fun x hx => valOf_congr (h x (by simp [hx]))
    rw [e1, e2]
  case move x => rw [h x (by simp)]
  case assign x => rw [h x (by simp)]
  case pick c x y => rw [h c (by simp), h x (by simp), h y (by simp)]
  case box t x => rw [h x (by simp)]
  case build t parts =>
    have : ∀ p ∈ parts.toList, ev' p.2 = ev p.2 := fun p hp => h p.2 (by simp; exact ⟨p.1, by simpa using hp⟩)
    simp only [partsK_congr this]
  case fieldAddr t x f => rw [h x (by simp)]
  case load t x => rw [h x (by simp)]
  case store t x y => rw [h x (by simp), h y (by simp)]
  case binOp op t x y t' => rw [h x (by simp), h y (by simp)]
  case unOp op t x => rw [h x (by simp)]
  case convert s d x => rw [h x (by simp)]
  case extract x i => rw [h x (by simp)]
  case indexAddr t x i => rw [h x (by simp), h i (by simp)]
  case slice t x lo hi mx =>
    cases mx with
    | some m =>
      refine anyK_congr h0 ?_
      simp only [execOp, ho, Option.map_some]
      rw [valOf_congr (h x (by simp)), opt_map (x := lo) (fun y hy => valOf_congr (h y (by simp [hy]))), opt_map (x := hi) (fun y hy => valOf_congr (h y (by simp [hy]))), valOf_congr (h m (by simp))]
    | none =>
      simp only
      rw [h x (by simp)]
      congr 1
      funext v
      rw [optK_congr (ev := ev) (ev' := ev') fun y hy => h y (by simp [hy])]
      congr 1
      funext lo'
      exact optK_congr fun y hy => h y (by simp [hy])
  case buildSlice t n parts =>
    have : ∀ p ∈ parts.toList, ev' p.2 = ev p.2 := fun p hp => h p.2 (by simp; exact ⟨p.1, by simpa using hp⟩)
    simp only [partsK_congr this]
  case makeSlice t l c => rw [h l (by simp), h c (by simp)]
  case call c => exact callK_congr h
/-- conditions that come to one outcome -/
def Aff {α : Type} (X : (α → Prop) → Prop) : Prop := ∀ K, X K → ∃ y, K y ∧ ∀ K', K' y → X K'
theorem Aff.force (l : List Value) : Aff (forceL l) := fun K h => ⟨l, by rw [forceL_eq] at h; exact h, fun K' h' => by rw [forceL_eq]; exact h'⟩
theorem Aff.cells (x : Value) : Aff (cellsK x) := fun K h => by
  cases x with
  | agg cs => exact Aff.force cs.toList K h
  | _ => first | exact ⟨_, h, fun K' h' => h'⟩ | exact False.elim h
theorem Aff.val (x : SV) : Aff (valK x) := fun K h => by
  cases x with
  | v x => exact ⟨x, h, fun K' h' => h'⟩
  | p b off => exact False.elim h
theorem Aff.seq {α β : Type} {X : (α → Prop) → Prop} {Y : α → (β → Prop) → Prop} (hX : Aff X) (hY : ∀ a, Aff (Y a)) (hm : ∀ a K K', (∀ b, K b → K' b) → Y a K → Y a K') : Aff (fun K => X fun a => Y a K) := fun K h => by
  obtain ⟨a, h1, h2⟩ := hX _ h
  obtain ⟨b, h3, h4⟩ := hY a _ h1
  exact ⟨b, h3, fun K' h' => h2 _ (h4 K' h')⟩
theorem Aff.ret {α : Type} (y : α) : Aff (fun K => K y) := fun K h => ⟨y, h, fun K' h' => h'⟩
theorem Aff.chk {α : Type} (b : Bool) {X : (α → Prop) → Prop} (hX : Aff X) : Aff (fun K => chk b (X K)) := fun K h => by
  obtain ⟨h1, h2⟩ := chk_iff h
  subst h1
  obtain ⟨y, h3, h4⟩ := hX _ h2
  exact ⟨y, h3, fun K' h' => h4 K' h'⟩
theorem Aff.vals (ev : Operand → SV) : ∀ l : List Operand, Aff (valsK ev l)
  | [] => Aff.ret []
  | x :: l => fun K h => by
    obtain ⟨v, h1, h2⟩ := Aff.val _ _ h
    obtain ⟨vs, h3, h4⟩ := Aff.vals ev l _ h1
    exact ⟨v :: vs, h3, fun K' h' => h2 _ (h4 _ h')⟩
theorem Aff.parts (ev : Operand → SV) : ∀ l : List (Nat × Operand), Aff (partsK ev l)
  | [] => Aff.ret []
  | (i, x) :: l => fun K h => by
    obtain ⟨v, h1, h2⟩ := Aff.val _ _ h
    obtain ⟨vs, h3, h4⟩ := Aff.parts ev l _ h1
    exact ⟨(i, v) :: vs, h3, fun K' h' => h2 _ (h4 _ h')⟩
theorem Aff.opt (ev : Operand → SV) (x : Option Operand) : Aff (optK ev x) := fun K h => by
  cases x with
  | none => exact ⟨_, h, fun K' h' => h'⟩
  | some x =>
    obtain ⟨v, h1, h2⟩ := Aff.val _ _ h
    exact ⟨some v, h1, fun K' h' => h2 _ h'⟩
theorem Aff.fill (offs : List (Nat × Option Nat)) : ∀ (ps : List (Nat × Value)) (cs : List Value), Aff (fillK offs cs ps)
  | [], cs => Aff.ret cs
  | (i, v) :: ps, cs => fun K h => by
    unfold fillK at h
    split at h
    · rename_i o sz ho
      obtain ⟨vs, h1, h2⟩ := Aff.cells _ _ h
      obtain ⟨h3, h4⟩ := chk_iff h1
      obtain ⟨cs', h5, h6⟩ := Aff.force _ _ h4
      obtain ⟨l, h7, h8⟩ := Aff.fill offs ps cs' _ h5
      refine ⟨l, h7, fun K' h' => ?_⟩
      unfold fillK
      rw [ho]
      refine h2 _ ?_
      rw [h3]
      exact h6 _ (h8 _ h')
    · exact False.elim h
theorem Aff.int (op : BinOp) (k : IntKind) (a b : Int) : Aff (intK op k a b) := fun K h => by
  cases op <;> first
    | exact ⟨_, h, fun K' h' => h'⟩
    | exact False.elim h
    | exact ⟨_, h.2, fun K' h' => ⟨h.1, h'⟩⟩
theorem Aff.idx (A : Option Addr) (n : Nat) (i : Int) (sz : Nat) : Aff (IdxVC A n i sz) := fun K h => by
  replace h := h.out
  obtain ⟨a, h1, h2, h3, h4⟩ := h
  exact ⟨_, h4, fun K' h' => ⟨⟨a, h1, h2, h3, h'⟩⟩⟩
theorem Aff.cut (A : Option Addr) (n c sz : Nat) (lo hi : Option Int) : Aff (CutVC A n c sz lo hi) := fun K h => by
  replace h := h.out
  exact ⟨_, h.2.2.2, fun K' h' => ⟨⟨h.1, h.2.1, h.2.2.1, h'⟩⟩⟩
theorem pureK_aff {ev : Operand → SV} {bx : Nat → Option (TypeId × List Value)} {K0 : SV → Option Nat → Prop} (h : pureK T o ev bx K0) : ∃ x rb, K0 x rb ∧ (∀ b, rb = some b → (bx b).isSome = true ∧ ∃ t y, o.op = .load t y) ∧ ∀ K' : SV → Option Nat → Prop, K' x rb → pureK T o ev bx K' := by
  have nn : ∀ b : Nat, (none : Option Nat) = some b → (bx b).isSome = true ∧ ∃ t y, o.op = .load t y := fun b e => nomatch e
  cases ho : o.op <;> simp only [pureK, ho, forceV_eq] at h ⊢ nn <;> try exact False.elim h
  case move x => exact ⟨_, _, h, nn, fun K' h' => h'⟩
  case assign x => exact ⟨_, _, h, nn, fun K' h' => h'⟩
  case pick c x y =>
    split at h
    · rename_i t ht
      cases t with
      | true => exact ⟨_, _, h, nn, fun K' h' => h'⟩
      | false => exact ⟨_, _, h, nn, fun K' h' => h'⟩
    · exact False.elim h
  case build t parts =>
    split at h
    · split at h
      · obtain ⟨ps, h1, h2⟩ := Aff.parts _ _ _ h
        obtain ⟨cs, h3, h4⟩ := Aff.cells _ _ h1
        obtain ⟨l, h5, h6⟩ := Aff.fill _ _ _ _ h3
        exact ⟨_, _, h5, nn, fun K' h' => h2 _ (h4 _ (h6 _ h'))⟩
      · exact False.elim h
    · exact False.elim h
  case fieldAddr t x f =>
    split at h
    · split at h
      · split at h
        · split at h
          · exact ⟨_, _, h, nn, fun K' h' => h'⟩
          · exact ⟨_, _, h, nn, fun K' h' => h'⟩
          · exact False.elim h
        · exact False.elim h
      · exact False.elim h
    · exact False.elim h
  case load t x =>
    split at h
    · split at h
      · rename_i b off hx _ _ ty cs i hb hl
        have ld : ∀ b' : Nat, some b = some b' → (bx b').isSome = true ∧ ∃ t' y, Op.load t x = Op.load t' y := fun b' e => by
          injection e with e
          subst e
          exact ⟨by rw [hb]; rfl, t, x, rfl⟩
        split at h
        · obtain ⟨l, h1, h2⟩ := Aff.force _ _ h
          obtain ⟨h3, h4⟩ := chk_iff h1
          exact ⟨_, _, h4, ld, fun K' h' => h2 _ (by rw [h3]; exact h')⟩
        · split at h
          · exact ⟨_, _, h, ld, fun K' h' => h'⟩
          · exact False.elim h
      · exact False.elim h
    · exact False.elim h
  case binOp op t x y t' =>
    obtain ⟨a, h1, h2⟩ := Aff.val _ _ h
    obtain ⟨b, h3, h4⟩ := Aff.val _ _ h1
    split at h3
    · rename_i k a k' b
      split at h3 <;> try exact False.elim h3
      rename_i op h5 h6 h7 h8 h9 h10
      obtain ⟨h11, h12⟩ := chk_iff h3
      obtain ⟨v, h13, h14⟩ := Aff.int _ _ _ _ _ h12
      refine ⟨_, _, h13, nn, fun K' h' => h2 _ (h4 _ ?_)⟩
      simp only
      rw [h11]
      exact h14 (fun v => K' (SV.v v) none) h'
    · rename_i hni
      split at h3
      · rename_i rb hr
        refine ⟨_, _, h3, nn, fun K' h' => h2 _ (h4 _ ?_)⟩
        split
        · exact absurd rfl (hni _ _ _ _ rfl)
        · rw [hr]; exact h'
      · exact False.elim h3
  case unOp op t x =>
    obtain ⟨a, h1, h2⟩ := Aff.val _ _ h
    split at h1
    · exact ⟨_, _, h1, nn, fun K' h' => h2 _ h'⟩
    · exact False.elim h1
  case nilCheck x =>
    split at h
    · exact ⟨_, _, h, nn, fun K' h' => h'⟩
    · exact ⟨_, _, h, nn, fun K' h' => h'⟩
    · exact False.elim h
  case extract x i =>
    split at h
    · split at h
      · exact ⟨_, _, h, nn, fun K' h' => h'⟩
      · exact False.elim h
    · exact False.elim h
  case indexAddr t x i =>
    split at h
    · split at h
      · split at h
        · obtain ⟨v, h1, h2⟩ := Aff.idx _ _ _ _ _ h
          exact ⟨_, _, h1, nn, fun K' h' => h2 _ h'⟩
        · exact False.elim h
      · exact False.elim h
    · exact False.elim h
  case slice t x lo hi mx =>
    cases mx with
    | some m => exact False.elim h
    | none =>
      simp only at h ⊢
      obtain ⟨a, h1, h2⟩ := Aff.val _ _ h
      obtain ⟨l, h3, h4⟩ := Aff.opt _ _ _ h1
      obtain ⟨u, h5, h6⟩ := Aff.opt _ _ _ h3
      split at h5
      · split at h5
        · split at h5
          · obtain ⟨v, h7, h8⟩ := Aff.cut _ _ _ _ _ _ _ h5
            exact ⟨_, _, h7, nn, fun K' h' => h2 _ (h4 _ (h6 _ (by first | (simp only [*]; done) | (simp only [*]; exact h8 (fun v => K' (.v v) none) h') | exact h8 (fun v => K' (.v v) none) h')))⟩
          · obtain ⟨v, h7, h8⟩ := Aff.cut _ _ _ _ _ _ _ h5
            exact ⟨_, _, h7, nn, fun K' h' => h2 _ (h4 _ (h6 _ (by first | (simp only [*]; done) | (simp only [*]; exact h8 (fun v => K' (.v v) none) h') | exact h8 (fun v => K' (.v v) none) h')))⟩
          · obtain ⟨v, h7, h8⟩ := Aff.cut _ _ _ _ _ _ _ h5
            exact ⟨_, _, h7, nn, fun K' h' => h2 _ (h4 _ (h6 _ (by first | (simp only [*]; done) | (simp only [*]; exact h8 (fun v => K' (.v v) none) h') | exact h8 (fun v => K' (.v v) none) h')))⟩
          · exact False.elim h5
        · exact False.elim h5
      · exact False.elim h5
  case call c =>
    split at h
    · obtain ⟨vs, h1, h2⟩ := Aff.vals _ _ _ h
      split at h1
      · rename_i t hats
        split at h1
        · rename_i i hl
          split at h1
          · rename_i e hd
            exact ⟨_, _, h1, nn, fun K' h' => h2 _ (by simp only [hats, hl, hd]; exact h')⟩
          · exact False.elim h1
        · exact False.elim h1
      · exact False.elim h1
    · exact False.elim h
end
end Go.Proofs.YtgaopcbjhepklaaGreat
