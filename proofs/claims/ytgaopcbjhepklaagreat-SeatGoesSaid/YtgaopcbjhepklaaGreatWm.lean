/- Functions: the frame of a walk by conditions. -/
import Derived.Test.YtgaopcbjhepklaaGreatWl
namespace Go.Proofs.YtgaopcbjhepklaaGreat
open Go.RowKit
set_option linter.unusedSimpArgs false
set_option linter.unusedVariables false
def escL : List Nat → Nat → Bool
  | [], _ => false
  | d :: l, t => bif Nat.beq t d then true else escL l t
theorem enters_of {P : Program} {f : FuncId} {fn : Func} (hf : P.funcs[f]? = some fn) (hn : (fn.name == "runtime.NumGoroutine") = false) (hb : fn.body.isNone = false) : Enters P f := fun args w => by
  have hn' : fn.name ≠ "runtime.NumGoroutine" := by simpa using hn
  have hb' : fn.body ≠ none := fun e => by rw [e] at hb; cases hb
  simp [callFunc, hf, hn', hb']
theorem calls_vc {P : Program} {T : List (Nat × TyI)} {D : Nat → Plan} (hT : TabOk P T) (hm : P.follows .mixedOrders = true) {f : FuncId} {fn : Func} (n : Nat) (X : Nat → Bool) (hf : P.funcs[f]? = some fn) (hb : fn.body.isNone = false) (hN : fn.ntmps = n) (hd : drawsB D (fn.body.getD .skip) = true) {args : List Value} (hlen : Nat.ble args.length n = true) {w : World} {R : Ending → World → Prop} (C : Ctx) (hR : C.R w)
    (h : vc P T { n := n, esc := X } D (fn.body.getD .skip) C ⟨startS args, noBox⟩ (RetK P T fn R) (bodyE P T fn R)) : Calls P f args.toArray w R := by
  cases e : fn.body with
  | none => rw [e] at hb; cases hb
  | some c =>
    rw [e] at h hd
    exact calls_of_vc hT hf e hN rfl hlen (drawsOk_of hT hm c hd) C hR h
/-- states by a parameter: known slots, known boxes, the context -/
def Jn {X : Type} (L : X → List (Nat × SV)) (BL : X → List (Nat × TypeId × List Value)) (CC : X → Ctx) (I : X → Prop) : Ctx → SS → Prop := fun C ss => ∃ x r, I x ∧ C = CC x ∧ ss = ⟨mkS (L x) r, mkB (BL x)⟩
theorem Wk.on {X : Type} {L : X → List (Nat × SV)} {BL : X → List (Nat × TypeId × List Value)} {CC : X → Ctx} {I : X → Prop} {C : Ctx} {ss : SS} (x : X) (hI : I x) (h1 : fitS ss (L x)) (h2 : fitB ss (BL x)) (hC : C = CC x := by rfl) (hp : ptrOk (BL x) (L x) = true := by rfl) : Wk ss (Jn L BL CC I C) :=
  Wk.fit (L x) (BL x) h1 h2 hp fun r => ⟨x, r, hI, hC, rfl⟩
theorem JoinVC.on {X : Type} (L : X → List (Nat × SV)) (BL : X → List (Nat × TypeId × List Value)) (CC : X → Ctx) (I : X → Prop) {A : (Ctx → SS → Prop) → Prop} {K : Ctx → SS → Prop} (h : A (fun C ss => Wk ss (Jn L BL CC I C))) (hk : ∀ x r, I x → K (CC x) ⟨mkS (L x) r, mkB (BL x)⟩) : JoinVC A K :=
  JoinVC.cut (Jn L BL CC I) h fun C ss ⟨x, r, hI, hC, hs⟩ => by subst hC hs; exact hk x r hI
def Inx {X : Type} (L : X → List (Nat × SV)) (BL : X → List (Nat × TypeId × List Value)) (CC : X → Ctx) (I : X → Prop) (μ : X → Nat) : Nat → Ctx → SS → Prop := fun n C ss => ∃ x r, I x ∧ μ x = n ∧ C = CC x ∧ ss = ⟨mkS (L x) r, mkB (BL x)⟩
/-- what a round hands on -/
theorem rnd {X : Type} {L : X → List (Nat × SV)} {BL : X → List (Nat × TypeId × List Value)} {CC : X → Ctx} {I : X → Prop} {μ : X → Nat} {n : Nat} {C : Ctx} {ss : SS} (x : X) (hμ : μ x < n) (hI : I x) (h1 : fitS ss (L x)) (h2 : fitB ss (BL x)) (hC : C = CC x := by rfl) (hp : ptrOk (BL x) (L x) = true := by rfl) : ∃ n', n' < n ∧ Wk ss (Inx L BL CC I μ n' C) :=
  ⟨μ x, hμ, Wk.fit (L x) (BL x) h1 h2 hp fun r => ⟨x, r, hI, rfl, hC, rfl⟩⟩
theorem LoopVC.on {X : Type} (L : X → List (Nat × SV)) (BL : X → List (Nat × TypeId × List Value)) (CC : X → Ctx) (I : X → Prop) (μ : X → Nat) {B : Ctx → SS → (Ctx → SS → Prop) → Prop} {C : Ctx} {ss : SS} (x0 : X) (hI : I x0) (h1 : fitS ss (L x0)) (h2 : fitB ss (BL x0)) (h : ∀ x r, I x → B (CC x) ⟨mkS (L x) r, mkB (BL x)⟩ fun C' ss' => ∃ n', n' < μ x ∧ Wk ss' (Inx L BL CC I μ n' C')) (hC : C = CC x0 := by rfl) (hp : ptrOk (BL x0) (L x0) = true := by rfl) : LoopVC B C ss := by
  refine LoopVC.intro (Inx L BL CC I μ) (μ x0) (Wk.fit (L x0) (BL x0) h1 h2 hp fun r => ⟨x0, r, hI, rfl, hC, rfl⟩) fun n C ss ⟨x, r, hI, hn, hC, hs⟩ => ?_
  subst hn hC hs
  exact h x r hI
end Go.Proofs.YtgaopcbjhepklaaGreat
