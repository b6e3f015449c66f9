/- Regions that draw their order: a plan serves (3). -/
import Derived.Test.YtgaopcbjhepklaaGreatWj
namespace Go.Proofs.YtgaopcbjhepklaaGreat
open Go.RowKit
set_option linter.unusedSimpArgs false
set_option linter.unusedVariables false
section
variable {P : Program} {T : List (Nat × TyI)} {N : Fk} {C : Ctx} {o : Oper} {ops : List Oper} {K : Ctx → SS → Prop}
abbrev rdy (ops : List Oper) (listed : Array Bool) : List Nat := Region.ready .any ops.toArray listed
/-- all orders -/
def FA (P : Program) (T : List (Nat × TyI)) (N : Fk) (ops : List Oper) (Z : ZK) (K : Ctx → SS → Prop) : Nat → Array Bool → Ctx → SS → Prop
  | 0, listed, C, ss => rdy ops listed = [] ∧ K C ss
  | fuel + 1, listed, C, ss => (rdy ops listed = [] → K C ss) ∧ ∀ i ∈ rdy ops listed, ∀ o, opAt ops i = some o → stepK P T N ops o C ss (fun C' ss' => FA P T N ops Z K fuel (listed.setIfInBounds i true) C' ss') Z
theorem FA_sound (hT : TabOk P T) {E : EK} {Z : ZK} (hZ : ∀ ch C ss, Z ch C ss → E (.panic ch) C ss) : ∀ (fuel : Nat) {listed : Array Bool} {C : Ctx} {ss : SS} {a : Act} {w : World}, FA P T N ops Z K fuel listed C ss → Rep N C ss a w → wpAny P .any ops.toArray (liftQ N K E) fuel listed a w
  | 0, listed, C, ss, a, w, h, r => ⟨h.1, C, ss, r, h.2⟩
  | fuel + 1, listed, C, ss, a, w, h, r => by
    refine ⟨fun e => ⟨C, ss, r, h.1 e⟩, fun i hi => ?_⟩
    obtain ⟨_, o, ho, _⟩ := mem_ready.1 hi
    have hoa : opAt ops i = some o := by rw [opAt_eq]; simpa using ho
    obtain ⟨ρ, r⟩ := r
    have h1 := stepK_sound (Z := Z) (ops := ops.toArray) (Q := liftQ N K E) (fun ch C' ss' a' w' r' hz => ⟨C', ss', r', hZ ch C' ss' hz⟩) hT r (by simpa using h.2 i hi o hoa)
    unfold wpOp
    rw [ho]
    simp only
    split
    · rename_i hw
      rw [if_pos hw] at h1
      exact .inl (Oper.wp_mono (fun a' w' ⟨C', ss', r', h'⟩ => FA_sound hT hZ fuel h' r') h1)
    · rename_i hw
      rw [if_neg hw] at h1
      obtain ⟨C', ss', r', h'⟩ := h1
      exact FA_sound hT hZ fuel h' r'
/-- an operation that may come first: the others that may come ahead of it do not touch what it looks at -/
def Free (ops : List Oper) (i : Nat) (oi : Oper) (rb : Option Nat) (listed : Array Bool) (ss : SS) : Prop :=
  ∀ j oj, ops.toArray[j]? = some oj → j ≠ i → listed.getD j true = false → (∀ e ∈ oj.after, Region.binds .any e = true → e.on ≠ i) →
    oi.apart ops.toArray oj = true ∧ ∀ b, rb = some b → ∀ ty x y, oj.op = .store ty x y → ∃ t b' off, x = .tmp t ∧ ss.s t = .p b' off ∧ b' ≠ b ∧ ∀ k ok, ops.toArray[k]? = some ok → listed.getD k true = false → ok.dst ≠ some t
def Yld (P : Program) (T : List (Nat × TyI)) (N : Fk) (ops : List Oper) (Z : ZK) (oi : Oper) (x : SV) (rb : Option Nat) (ss : SS) : Prop :=
  (∀ b, rb = some b → (ss.b b).isSome = true) ∧ ∀ ss', (∀ t ∈ oi.looksAt ops.toArray, ss'.s t = ss.s t) → (∀ b, rb = some b → ss'.b b = ss.b b) → ∀ (C : Ctx) (K : Ctx → SS → Prop), K C (putS oi.dst x ss') → stepK P T N ops oi C ss' K Z
theorem FA_first {Z : ZK} (hinv : PutInv ops Z) {i : Nat} {oi : Oper} (hi : ops.toArray[i]? = some oi) {x : SV} {rb : Option Nat} : ∀ (fuel : Nat) (listed : Array Bool) (C : Ctx) (ss : SS), Free ops i oi rb listed ss → i ∈ rdy ops listed → Yld P T N ops Z oi x rb ss →
    FA P T N ops Z K fuel (listed.setIfInBounds i true) C (putS oi.dst x ss) → FA P T N ops Z K (fuel + 1) listed C ss := by
  have hzp : ∀ (C : Ctx) (ss : SS), ∀ ch C, Z ch C (putS oi.dst x ss) → Z ch C ss := fun _ ss ch C h => by
    cases hd : oi.dst with
    | none => rw [hd] at h; exact h
    | some d =>
      rw [hd] at h
      exact hinv oi (by have := Array.mem_of_getElem? hi; simpa using this) d x ch C ss.s ss.b hd h
  intro fuel
  have own : ∀ (fuel : Nat) (listed : Array Bool) (C : Ctx) (ss : SS), Yld P T N ops Z oi x rb ss → FA P T N ops Z K fuel (listed.setIfInBounds i true) C (putS oi.dst x ss) → ∀ o, opAt ops i = some o → stepK P T N ops o C ss (fun C' ss' => FA P T N ops Z K fuel (listed.setIfInBounds i true) C' ss') Z := fun fuel listed C ss hy H o ho => by
    rw [opAt_eq] at ho
    have : oi = o := by simpa [ho] using hi.symm
    subst this
    exact hy.2 ss (fun _ _ => rfl) (fun _ _ => rfl) C _ H
  induction fuel with
  | zero =>
    intro listed C ss _ hr hy H
    refine ⟨fun h => (by rw [h] at hr; cases hr), fun j hj => ?_⟩
    by_cases hji : j = i
    · subst hji; exact own _ _ _ _ hy H
    · have : j ∈ rdy ops (listed.setIfInBounds i true) := ready_mono hj hji
      rw [H.1] at this
      cases this
  | succ fuel ih =>
    intro listed C ss hfree hr hy H
    refine ⟨fun h => (by rw [h] at hr; cases hr), fun j hj => ?_⟩
    by_cases hji : j = i
    · subst hji; exact own _ _ _ _ hy H
    · intro oj hoja
      have h1 := H.2 j (ready_mono hj hji) oj hoja
      obtain ⟨hjun, oj', hoj, hall⟩ := mem_ready.1 hj
      have : oj' = oj := by rw [opAt_eq] at hoja; simpa [hoja] using hoj.symm
      subst this
      have hnot : ∀ e ∈ oj'.after, Region.binds .any e = true → e.on ≠ i := fun e he hb heq => by
        have h1 := hall e he hb
        have h0 := (mem_ready.1 hr).1
        rw [heq] at h1
        rcases Nat.lt_or_ge i listed.size with h' | h'
        · simp [h'] at h0 h1; rw [h0] at h1; cases h1
        · simp [Array.getElem?_eq_none h'] at h1
      obtain ⟨hap, hst⟩ := hfree j oj' hoj hji hjun hnot
      have h2 := stepK_put (hzp C ss) hap h1
      refine stepK_mono (fun C' ss' hl h3 => ?_) h2
      have hdst : ∀ t ∈ oi.looksAt ops.toArray, oj'.dst ≠ some t := fun t ht e => (Oper.apart_spec hap).2.2 t e ht
      have hslots : ∀ t ∈ oi.looksAt ops.toArray, ss'.s t = ss.s t := fun t ht => hl.1 t (hdst t ht)
      have hbox : ∀ b, rb = some b → ss'.b b = ss.b b := fun b e => hl.2 b (hy.1 b e) fun ty x y off hs hx => by
        obtain ⟨t, b', off', rfl, h4, h5, _⟩ := hst b e ty x y hs
        have h6 : ss.s t = .p b off := hx
        rw [h4] at h6
        injection h6 with h6
        exact h5 h6
      refine ih _ _ _ ?_ (ready_mono hr (Ne.symm hji)) ?_ ?_
      · intro k ok hk hki hun hno
        have hun' : listed.getD k true = false := by
          by_cases hjk : j = k
          · subst hjk; exact hjun
          · rw [getD_set_ne true hjk] at hun; exact hun
        obtain ⟨h4, h5⟩ := hfree k ok hk hki hun' hno
        refine ⟨h4, fun b e ty x y hs => ?_⟩
        obtain ⟨t, b', off, h6, h7, h8, h9⟩ := h5 b e ty x y hs
        refine ⟨t, b', off, h6, (hl.1 t (h9 j oj' hoj hjun)).trans h7, h8, fun m om hm hum => ?_⟩
        refine h9 m om hm ?_
        by_cases hjm : j = m
        · subst hjm; exact hjun
        · rw [getD_set_ne true hjm] at hum; exact hum
      · exact ⟨fun b e => by rw [hbox b e]; exact hy.1 b e, fun ss'' h4 h5 => hy.2 ss'' (fun t ht => (h4 t ht).trans (hslots t ht)) (fun b e => (h5 b e).trans (hbox b e))⟩
      · rw [Array.setIfInBounds_comm _ _ hji]
        exact h3

def isLoad : Op → Bool
  | .load .. => true
  | _ => false
def noWrite (ops : List Oper) (listed : Array Bool) (t : Nat) : Bool := (List.range ops.length).all fun k => match ops.toArray[k]? with
  | none => true
  | some ok => listed.getD k true || ok.dst != some t
def freeB (ops : List Oper) (listed : Array Bool) (i : Nat) (oi : Oper) (late : List Nat) : Bool := (List.range ops.length).all fun j => match ops.toArray[j]? with
  | none => true
  | some oj => j == i || listed.getD j true || oj.after.any (fun e => Region.binds .any e && e.on == i) || (oi.apart ops.toArray oj && (match oj.op with
    | .store _ x _ => !isLoad oi.op || (match x with
      | .tmp t => late.contains t && noWrite ops listed t
      | _ => false)
    | _ => true))
def heads : Plan → List Nat
  | .alt i _ more => i :: heads more
  | _ => []
def deep : Plan → Nat
  | .done => 0
  | .stop => 0
  | .pure _ _ next => deep next + 1
  | .alt _ next more => max (deep next + 1) (deep more)
def planOk (ops : List Oper) : Bool → Array Bool → Plan → Bool
  | top, listed, .done => top && (rdy ops listed).isEmpty
  | top, listed, .pure i late next => top && match ops.toArray[i]? with
    | some o => (rdy ops listed).contains i && freeB ops listed i o late && planOk ops true (listed.setIfInBounds i true) next
    | none => false
  | top, listed, .alt i next more => (!top || heads (.alt i next more) == rdy ops listed) && planOk ops true (listed.setIfInBounds i true) next && planOk ops false listed more
  | top, _, .stop => !top
theorem Free.of {i : Nat} {oi : Oper} {late : List Nat} {listed : Array Bool} {ss : SS} {rb : Option Nat} (h : freeB ops listed i oi late = true) (hrb : ∀ b, rb = some b → isLoad oi.op = true) (hl : lateK ss rb late True) : Free ops i oi rb listed ss := by
  intro j oj hoj hji hun hno
  have hjl : j < ops.length := by
    rcases Nat.lt_or_ge j ops.length with h' | h'
    · exact h'
    · simp [List.getElem?_eq_none h'] at hoj
  have h1 := List.all_eq_true.1 h j (List.mem_range.2 hjl)
  rw [hoj] at h1
  simp only at h1
  have e1 : (j == i) = false := by simpa using hji
  have e2 : (oj.after.any (fun e => Region.binds .any e && e.on == i)) = false := by
    rw [Array.any_eq_false]
    intro k hk
    simp only [Bool.not_eq_true, Bool.and_eq_false_iff]
    cases hb : Region.binds .any oj.after[k] with
    | false => exact .inl rfl
    | true => exact .inr (by simpa using hno _ (Array.getElem_mem hk) hb)
  rw [e1, hun, e2] at h1
  simp only [Bool.false_or, Bool.and_eq_true] at h1
  refine ⟨h1.1, fun b e ty x y hs => ?_⟩
  have h2 := h1.2
  rw [hs] at h2
  simp only [hrb b e, Bool.not_true, Bool.false_or] at h2
  cases x with
  | tmp t =>
    simp only [Bool.and_eq_true] at h2
    have hmem : t ∈ late := by simpa using h2.1
    have hnw := List.all_eq_true.1 h2.2
    have key : ∀ l : List Nat, lateK ss rb l True → t ∈ l → ∃ b' off, ss.s t = .p b' off ∧ b' ≠ b := by
      intro l
      induction l with
      | nil => intro _ h; cases h
      | cons u l ih =>
        intro h hm
        unfold lateK at h
        rw [e] at h
        simp only at h
        split at h
        · rename_i b' off hu
          split at h
          · exact False.elim h
          · rename_i hne
            cases hm with
            | head => exact ⟨b', off, hu, fun e' => by rw [e', Nat.beq_refl] at hne; cases hne⟩
            | tail _ hm => exact ih (by rw [e]; exact h) hm
        · exact False.elim h
    obtain ⟨b', off, h3, h4⟩ := key late hl hmem
    refine ⟨t, b', off, rfl, h3, h4, fun k ok hk hku => ?_⟩
    have hkl : k < ops.length := by
      rcases Nat.lt_or_ge k ops.length with h' | h'
      · exact h'
      · simp [List.getElem?_eq_none h'] at hk
    have h5 := hnw k (List.mem_range.2 hkl)
    rw [hk] at h5
    simp only [hku, Bool.false_or] at h5
    simpa using h5
  | _ => simp at h2
theorem lateK_iff {ss : SS} {rb : Option Nat} : ∀ {l : List Nat} {A : Prop}, lateK ss rb l A → A ∧ lateK ss rb l True
  | [], A, h => ⟨h, trivial⟩
  | t :: l, A, h => by
    unfold lateK at *
    split at h
    · exact ⟨h, trivial⟩
    · split at h
      · split at h
        · exact False.elim h
        · obtain ⟨h1, h2⟩ := lateK_iff h
          refine ⟨h1, ?_⟩
          simp only [*]
      · exact False.elim h
end
end Go.Proofs.YtgaopcbjhepklaaGreat
