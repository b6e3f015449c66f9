/- Deferred closures that recover. -/
import Derived.Test.YtgaopcbjhepklaaGreatXd
import Derived.Recover
namespace Go.Proofs.YtgaopcbjhepklaaGreat
open Go.RowKit
set_option linter.unusedSimpArgs false
set_option linter.unusedVariables false
set_option maxRecDepth 100000

/-- what recover hands back, and what becomes of the frame that defers -/
def recV : FrameMode → Value × FrameMode
  | .panicking ({ v, recovered := false, goexit := false } :: older) => (v, .panicking ({ v, recovered := true } :: older))
  | u => (.nilIface, u)
theorem recoverD_eq (c : Frame) (cs : List Frame) : recoverD (c :: cs) = some ((recV c.mode).1, { c with mode := (recV c.mode).2 } :: cs) ∨ (recoverD (c :: cs) = none ∧ recV c.mode = (.nilIface, c.mode)) := by
  cases hm : c.mode with
  | panicking ch =>
    cases ch with
    | nil => exact .inr ⟨by simp [recoverD, hm], by simp [recV]⟩
    | cons e older =>
      obtain ⟨v, r, g⟩ := e
      cases r with
      | true => exact .inr ⟨by simp [recoverD, hm], by simp [recV]⟩
      | false => cases g with
        | true => exact .inr ⟨by simp [recoverD, hm], by simp [recV]⟩
        | false => exact .inl (by simp [recoverD, recV, hm])
  | _ => exact .inr ⟨by simp [recoverD, hm], by simp [recV]⟩
section
variable {P : Program} {T : List (Nat × TyI)} {D : Nat → Plan} {C : Ctx} {w : World}
theorem callsD_rec (hT : TabOk P T) (hmx : P.follows .mixedOrders = true) {f : FuncId} {fn : Func} (N : Fk) {id d1 d2 : Nat} {o1 o2 : Oper} {ats : Array TypeId} {rest : Code} (hf : P.funcs[f]? = some fn) (hb : fn.body = some (.seq (.region id #[o1, o2] false) rest)) (hN : fn.ntmps = N.n) (hds : N.ds = [])
    (h1 : o1.op = .call { callee := .builtin .recover, args := #[], argTypes := ats }) (g1 : o1.guard = none) (e1 : o1.dst = some d1) (h2 : o2.op = .assign (.tmp d1)) (g2 : o2.guard = none) (e2 : o2.dst = some d2) (hd1 : Nat.blt d1 N.n = true) (hd2 : Nat.blt d2 N.n = true)
    {args : List Value} (hlen : Nat.ble args.length N.n = true) (hd : drawsB D rest = true) (hR : C.R w) (u : FrameMode) {KV : Value → Ctx → Prop}
    (h : vc P T N D rest C ⟨upd (upd (startS args) d1 (.v (recV u).1)) d2 (.v (recV u).1), noBox⟩ (RetG P T fn KV) (bodyG P T fn KV fun _ _ => False)) : CallsD P f args.toArray u w fun e u' w' => u' = (recV u).2 ∧ ∃ v C', e = .returned v ∧ C'.R w' ∧ KV v C' := by
  refine callsD_of_wpS hf hb fun c₀ cs hu => ?_
  have hlen' := Nat.le_of_ble_eq_true hlen
  have r0 : RepAt N C (fun _ => 0) ⟨startS args, noBox⟩ { tmps := args.toArray ++ Array.replicate (fn.ntmps - args.toArray.size) undef, defers := [] } w := by
    refine ⟨?_, hds.symm, fun t => ?_, (fun b ty cs h => nomatch h), (fun b b' h _ _ => nomatch h), fun t b off h => ?_, hR⟩
    · simp [hN]; omega
    · show _ = SV.den _ (startS args t)
      rw [startS_eq]
      simp only [SV.den]
      rw [Array.getD_eq_getD_getElem?, List.getD_eq_getElem?_getD, Array.getElem?_append]
      split
      · simp
      · rename_i hlt
        simp at hlt
        rw [List.getElem?_eq_none hlt, Array.getElem?_replicate]
        split <;> rfl
    · have h : startS args t = .p b off := h
      rw [startS_eq] at h; cases h
  generalize ({ tmps := args.toArray ++ Array.replicate (fn.ntmps - args.toArray.size) undef, defers := [] } : Act) = a0 at r0 ⊢
  have r1 := r0.put (Nat.le_of_ble_eq_true hd1) (.v (recV u).1) (fun _ _ h => by cases h)
  have r2 := r1.put (Nat.le_of_ble_eq_true hd2) (.v (recV u).1) (fun _ _ h => by cases h)
  have hev : (a0.put (some d1) (recV u).1).eval (.tmp d1) = (recV u).1 := by
    have := r1.slot d1
    rw [show (SS.mk (upd (startS args) d1 (.v (recV u).1)) noBox).s d1 = .v (recV u).1 from upd_same _ _ _] at this
    exact this
  have main : ∀ cs', cs' = { c₀ with mode := (recV u).2 } :: cs → rest.wpS P (bodyPostS P fn c₀ cs fun e u' w' => u' = (recV u).2 ∧ ∃ v C', e = .returned v ∧ C'.R w' ∧ KV v C') ((a0.put (some d1) (recV u).1).put (some d2) (recV u).1) cs' w := fun cs' hcs => by
    refine wpS_of_wp (wp_mono (vc_sound hT rest (drawsOk_of hT hmx rest hd) ⟨_, r2⟩ h) fun e a' w' hq => ?_)
    cases e with
    | normal => obtain ⟨C', ss', ⟨ρ, r⟩, h⟩ := hq; obtain ⟨h3, v, h4, h5⟩ := RetG_sound hT r hds h; exact ⟨h3, _, hcs, v, h4, rfl, v, C', rfl, r.rest, h5⟩
    | ret => obtain ⟨C', ss', ⟨ρ, r⟩, h⟩ := hq; obtain ⟨h3, v, h4, h5⟩ := RetG_sound hT r hds h; exact ⟨h3, _, hcs, v, h4, rfl, v, C', rfl, r.rest, h5⟩
    | _ => obtain ⟨C', ss', ⟨ρ, r⟩, h⟩ := hq; exact False.elim h
  refine wpS_seq (wpS_region ?_)
  have hw1 : ∀ a : Act, Region.wanted o1 (yielded #[o1, o2] a.tmps) = true := fun a => by simp [Region.wanted, g1]
  have hw2 : ∀ a : Act, Region.wanted o2 (yielded #[o1, o2] a.tmps) = true := fun a => by simp [Region.wanted, g2]
  have hrun1 : (execOp a0.eval o1).run P w = .ok .recover w := by simp [execOp, h1, resolve, invoke, builtin]
  have hrun2 : (execOp (a0.put (some d1) (recV u).1).eval o2).run P w = .ok (.value (recV u).1) w := by simp [execOp, h2, hev]
  have second : ∀ cs', cs' = { c₀ with mode := (recV u).2 } :: cs → wpOpsS P #[o1, o2] (Exit.thenS (rest.wpS P (bodyPostS P fn c₀ cs fun e u' w' => u' = (recV u).2 ∧ ∃ v C', e = .returned v ∧ C'.R w' ∧ KV v C')) (bodyPostS P fn c₀ cs fun e u' w' => u' = (recV u).2 ∧ ∃ v C', e = .returned v ∧ C'.R w' ∧ KV v C')) [1] (a0.put (some d1) (recV u).1) cs' w := fun cs' hcs => by
    unfold wpOpsS
    simp only [List.getElem?_toArray, List.getElem?_cons_succ, List.getElem?_cons_zero, hw2, if_true, hrun2]
    rw [Oper.upon_value, e2]
    exact main cs' hcs
  show wpOpsS P #[o1, o2] _ [0, 1] a0 (c₀ :: cs) w
  unfold wpOpsS
  simp only [List.getElem?_toArray, List.getElem?_cons_zero, hw1, if_true, hrun1]
  rcases recoverD_eq c₀ cs with h3 | ⟨h3, h4⟩
  · rw [h3, e1, hu]
    exact second _ rfl
  · rw [h3, e1]
    rw [hu] at h4
    have e3 : (recV u).1 = .nilIface := by rw [h4]
    have e4 : (recV u).2 = u := by rw [h4]
    rw [← e3]
    refine second _ ?_
    rw [e4, ← hu]
/-- a closure's body behind its recover -/
structure RecB (fn : Func) (d1 d2 : Nat) (rest : Code) : Prop where
  out : ∃ id o1 o2 ats, fn.body = some (.seq (.region id #[o1, o2] false) rest) ∧ o1.op = .call { callee := .builtin .recover, args := #[], argTypes := ats } ∧ o1.guard = none ∧ o1.dst = some d1 ∧ o2.op = .assign (.tmp d1) ∧ o2.guard = none ∧ o2.dst = some d2
def restOf : Code → Code
  | .seq _ y => y
  | c => c
/-- a deferred closure, in a context of known blocks -/
theorem defM {w0 : World} {X : Nat → Prop} {M : Mm} (hT : TabOk P T) (hmx : P.follows .mixedOrders = true) {f : FuncId} {fn : Func} (n : Nat) (Xe : Nat → Bool) {d1 d2 : Nat} {rest : Code} (he : Enters P f) (hf : P.funcs[f]? = some fn) (hb : RecB fn d1 d2 rest) (hN : fn.ntmps = n) (hd1 : Nat.blt d1 n = true) (hd2 : Nat.blt d2 n = true) (hd : drawsB D rest = true) {d : Deferred} {args : List Value} (hlen : Nat.ble args.length n = true) {u : FrameMode} {K : FrameMode → Ctx → Prop} {cap : Array Value} (ht : d.target = .fn (.func f) cap) (ha : d.args ++ cap = args.toArray)
    (h : ∀ w1, vc P T { n := n, esc := Xe } D rest (CtxM w1 (keys M) M) ⟨upd (upd (startS args) d1 (.v (recV u).1)) d2 (.v (recV u).1), noBox⟩ (RetG P T fn (RetM w0 X w1 (keys M) fun _ C => K (recV u).2 C)) (bodyG P T fn (RetM w0 X w1 (keys M) fun _ C => K (recV u).2 C) fun _ _ => False)) : DefVC P (CtxM w0 X M) d u K := by
  obtain ⟨id, o1, o2, ats, b0, b1, b2, b3, b4, b5, b6⟩ := hb.out
  constructor
  intro w hw
  refine ⟨_, cap, f, args.toArray, ht, ?_, ?_⟩
  · rw [ht]
    show (callFunc f (d.args ++ cap)).run P w = _
    rw [ha]
    exact he _ _
  · have := callsD_rec hT hmx { n := n, esc := Xe } hf b0 hN rfl b1 b2 b3 b4 b5 b6 hd1 hd2 hlen hd (C := CtxM w (keys M) M) hw.self u (h w)
    intro c cs hc
    obtain ⟨e, u', w', fr, ⟨hu, v, C', h1, h2, ⟨M2, rfl, h3⟩⟩, h4⟩ := this c cs hc
    obtain ⟨h5, h6⟩ := comeM hw h2
    exact ⟨e, u', w', fr, ⟨v, _, h1, h5, h6, hu ▸ h3⟩, h4⟩
end
end Go.Proofs.YtgaopcbjhepklaaGreat
