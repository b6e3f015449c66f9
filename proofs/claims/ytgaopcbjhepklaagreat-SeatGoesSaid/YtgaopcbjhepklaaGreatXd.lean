/- Functions that defer: their end. -/
import Derived.Test.YtgaopcbjhepklaaGreatXc
namespace Go.Proofs.YtgaopcbjhepklaaGreat
open Go.RowKit
set_option linter.unusedSimpArgs false
set_option linter.unusedVariables false
set_option maxRecDepth 100000

/-- a deferred call, as it is made at the end -/
structure DefVC (P : Program) (C : Ctx) (d : Deferred) (u : FrameMode) (K : FrameMode → Ctx → Prop) : Prop where
  out : ∀ w, C.R w → ∃ fv cap f args, d.target = .fn fv cap ∧ (invoke d.target d.args).run P w = .ok (.enter f args) w ∧ CallsD P f args u w fun e u' w' => ∃ v C', e = .returned v ∧ Goes C w C' w' ∧ C'.R w' ∧ K u' C'
def leavesK (P : Program) (T : List (Nat × TyI)) (fn : Func) (KV : Value → Ctx → Prop) (ZV : PanK) (ss : SS) : List Deferred → FrameMode → Ctx → Prop
  | [], .returning, C => RetG P T fn KV C ss
  | [], .panicking ch, C => ZV ch C
  | [], .run, _ => False
  | d :: ds, .returning, C => DefVC P C d .returning fun u' C' => leavesK P T fn KV ZV ss ds (settle u') C'
  | d :: ds, .panicking ch, C => DefVC P C d (.panicking ch) fun u' C' => leavesK P T fn KV ZV ss ds (settle u') C'
  | _ :: _, .run, _ => False
/-- a function's end, by value and context -/
def EndG (KV : Value → Ctx → Prop) (ZV : PanK) (e : Ending) (w' : World) : Prop := (∃ v C', e = .returned v ∧ C'.R w' ∧ KV v C') ∨ ∃ ch C', e = .panicked ch ∧ C'.R w' ∧ ZV ch C'
section
variable {P : Program} {T : List (Nat × TyI)} {N : Fk} {D : Nat → Plan} {C : Ctx} {ρ : Nat → Nat} {ss : SS} {a : Act} {w : World}
theorem leaves_sound (hT : TabOk P T) {fn : Func} {KV : Value → Ctx → Prop} {ZV : PanK} : ∀ (ds : List Deferred) (u : FrameMode) {C : Ctx} {w : World}, RepAt { N with ds := [] } C ρ ss { a with defers := [] } w → leavesK P T fn KV ZV ss ds u C → Go.Leaves P fn a.tmps (EndG KV ZV) ds u w := by
  intro ds
  induction ds with
  | nil =>
    intro u C w r h
    cases u with
    | returning =>
      obtain ⟨_, v, h1, h2⟩ := RetG_sound hT r rfl h
      exact ⟨v, h1, .inl ⟨v, C, rfl, r.rest, h2⟩⟩
    | panicking ch => exact .inr ⟨ch, C, rfl, r.rest, h⟩
    | run => exact False.elim h
  | cons d ds ih =>
    intro u C w r h
    have go : u ≠ .run → (DefVC P C d u fun u' C' => leavesK P T fn KV ZV ss ds (settle u') C') → Go.Leaves P fn a.tmps (EndG KV ZV) (d :: ds) u w := fun hu h => by
      obtain ⟨fv, cap, f, args, h1, h2, h3⟩ := h.out w r.rest
      have key : CallsD P f args u w fun
        | .returned _, u', w' => Go.Leaves P fn a.tmps (EndG KV ZV) ds (settle u') w'
        | .panicked chain, u', w' => Go.Leaves P fn a.tmps (EndG KV ZV) ds (raised u' chain) w'
        | .outgrown, _, w' => EndG KV ZV .outgrown w' := fun c cs hc => by
        obtain ⟨e, u', w', fr, ⟨v, C', he, hg, hR, hk⟩, h5⟩ := h3 c cs hc
        subst he
        exact ⟨_, u', w', fr, ih (settle u') (r.goes hg hR) hk, h5⟩
      cases u with
      | run => exact absurd rfl hu
      | returning => exact ⟨hu, fv, cap, f, args, h1, h2, key⟩
      | panicking ch => exact ⟨hu, fv, cap, f, args, h1, h2, key⟩
    cases u with
    | run => exact False.elim h
    | returning => exact go (by simp) h
    | panicking ch => exact go (by simp) h
theorem RepAt.undefer (r : RepAt N C ρ ss a w) : RepAt { N with ds := [] } C ρ ss { a with defers := [] } w := ⟨r.size, rfl, r.slot, r.box, r.inj, r.wf, r.rest⟩
/-- the ends of a body with deferred calls -/
def endK (P : Program) (T : List (Nat × TyI)) (fn : Func) (KV : Value → Ctx → Prop) (ZV : PanK) (N : Fk) (C : Ctx) (ss : SS) : Prop := leavesK P T fn KV ZV ss N.ds .returning C
def endE (P : Program) (T : List (Nat × TyI)) (fn : Func) (KV : Value → Ctx → Prop) (ZV : PanK) (N : Fk) : EK := fun e C ss => match e with
  | .ret => leavesK P T fn KV ZV ss N.ds .returning C
  | .panic ch => leavesK P T fn KV ZV ss N.ds (.panicking ch) C
  | _ => False
theorem calls_of_vcD (hT : TabOk P T) {f : FuncId} {fn : Func} {c : Code} {args : List Value} {KV : Value → Ctx → Prop} {ZV : PanK} (hf : P.funcs[f]? = some fn) (hb : fn.body = some c) (hN : fn.ntmps = N.n) (hds : N.ds = []) (hlen : Nat.ble args.length N.n = true) (hd : ∀ N, drawsOk P T N D c) {w : World} (C : Ctx) (hR : C.R w)
    (h : vcD P T N D c C ⟨startS args, noBox⟩ (endK P T fn KV ZV) (endE P T fn KV ZV)) : Calls P f args.toArray w (EndG KV ZV) := by
  refine calls_of_wp_defers hf hb ?_
  have hlen := Nat.le_of_ble_eq_true hlen
  have r : Rep N C ⟨startS args, noBox⟩ { tmps := args.toArray ++ Array.replicate (fn.ntmps - args.toArray.size) undef, defers := [] } w := by
    refine ⟨fun _ => 0, ?_, hds.symm, fun t => ?_, (fun b ty cs h => nomatch h), (fun b b' h _ _ => nomatch h), fun t b off h => ?_, hR⟩
    · simp [hN]; omega
    · show _ = SV.den _ (startS args t)
      rw [startS_eq]
      simp only [SV.den]
      rw [Array.getD_eq_getD_getElem?, List.getD_eq_getElem?_getD, Array.getElem?_append]
      split
      · simp
      · rename_i hlt
        simp at hlt
        rw [List.getElem?_eq_none hlt, Array.getElem?_replicate]
        split <;> rfl
    · have h : startS args t = .p b off := h
      rw [startS_eq] at h; cases h
  refine wp_mono (vcD_sound hT c hd r h) fun e a w ⟨N', hq⟩ => ?_
  cases e with
  | normal => obtain ⟨C, ss, ⟨ρ, r⟩, h⟩ := hq; have := leaves_sound hT N'.ds .returning r.undefer h; rw [← r.nod] at this; exact this
  | ret => obtain ⟨C, ss, ⟨ρ, r⟩, h⟩ := hq; have := leaves_sound hT N'.ds .returning r.undefer h; rw [← r.nod] at this; exact this
  | panic ch => obtain ⟨C, ss, ⟨ρ, r⟩, h⟩ := hq; have := leaves_sound hT N'.ds (.panicking ch) r.undefer h; rw [← r.nod] at this; exact this
  | _ => obtain ⟨C, ss, ⟨ρ, r⟩, h⟩ := hq; exact False.elim h
/-- a call of a function that defers, walked into -/
theorem inl_vcD {w0 : World} {X : Nat → Prop} {M : Mm} (hT : TabOk P T) (hmx : P.follows .mixedOrders = true) {f : FuncId} {fn : Func} (n : Nat) (Xe : Nat → Bool) (he : Enters P f) (hf : P.funcs[f]? = some fn) (hb : fn.body.isNone = false) (hN : fn.ntmps = n) (hd : drawsB D (fn.body.getD .skip) = true) {args : List Value} (hlen : Nat.ble args.length n = true) {K : Value → Ctx → Prop} {Z : PanK}
    (h : ∀ w1, vcD P T { n := n, esc := Xe } D (fn.body.getD .skip) (CtxM w1 (keys M) M) ⟨startS args, noBox⟩ (endK P T fn (RetM w0 X w1 (keys M) K) (PanM w0 X w1 (keys M) Z)) (endE P T fn (RetM w0 X w1 (keys M) K) (PanM w0 X w1 (keys M) Z))) : CallVC P (CtxM w0 X M) f args.toArray K Z := by
  constructor
  refine ⟨he, fun w hw => ?_⟩
  cases e : fn.body with
  | none => rw [e] at hb; cases hb
  | some c =>
    have h := h w
    rw [e] at h hd
    refine (calls_of_vcD hT hf e hN rfl hlen (fun N => drawsOk_of hT hmx c hd) (CtxM w (keys M) M) hw.self h).mono fun e w2 hh => ?_
    rcases hh with ⟨v, C', h1, h2, ⟨M2, rfl, h3⟩⟩ | ⟨ch, C', h1, h2, ⟨M2, rfl, h3⟩⟩
    · obtain ⟨h4, h5⟩ := comeM hw h2
      exact .inl ⟨v, _, h1, h4, h5, h3⟩
    · obtain ⟨h4, h5⟩ := comeM hw h2
      exact .inr ⟨ch, _, h1, h4, h5, h3⟩
end
end Go.Proofs.YtgaopcbjhepklaaGreat
