/- A frame that goes on: what its instructions are. -/
import Derived.Test.YtgaopcbjhepklaaGreatZg
namespace Go.Proofs.YtgaopcbjhepklaaGreat
open Go.RowKit
set_option linter.unusedSimpArgs false
set_option linter.unusedVariables false
set_option maxRecDepth 100000
section
variable {wA w0 : World} {X : Nat → Prop} {M : EL} {K : Value → Ctx → Prop} {Z : PanK}
abbrev fnV (f : FuncId) : Value := .func (.func f) #[] #[]
abbrev cloV (b : Nat) : Value := .func (.func 139) #[] #[.pointer (some ⟨b, 0, none⟩)]
def stepsL (b1 b2 b3 b4 b5 b6 : Nat) : List Value := [.nilFunc, fnV 91, fnV 92, fnV 93, fnV 94, fnV 95, cloV b1, cloV b2, cloV b3, cloV b4, cloV b5, fnV 104, fnV 105, fnV 106, fnV 107, fnV 108, fnV 109, fnV 110, fnV 111, cloV b6]
def ofE (b f : Nat) : Value × DA := (.pointer (some ⟨b, 0, none⟩), .cs 158 [fnV f])
def ofs (b1 b2 b3 b4 b5 b6 : Nat) (M : EL) : EL := ofE b6 112 :: ofE b5 103 :: ofE b4 101 :: ofE b3 100 :: ofE b2 99 :: ofE b1 97 :: M
set_option maxHeartbeats 4000000 in
theorem reckon_of (f : FuncId) (hk : ∀ b, K (cloV b) (CtxA wA w0 X (ofE b f :: M))) : CallVC Tryz.prog (CtxA wA w0 X M) 96 #[fnV f] K Z := by
  refine it96 (by rfl) ?_
  intro w2 X2
  conv => whnf
  refine boxA _ rfl fun b => ?_
  conv => whnf
  refine opMkF (by rfl) ?_
  conv => whnf
  exact RetT.drop (K := K) _ (List.Sublist.refl _) (hk b)
set_option maxHeartbeats 4000000 in
theorem steps_vc (hk : ∀ b1 b2 b3 b4 b5 b6, K (.agg (stepsL b1 b2 b3 b4 b5 b6).toArray) (CtxA wA w0 X (ofs b1 b2 b3 b4 b5 b6 M))) : CallVC Tryz.prog (CtxA wA w0 X M) 55 #[] K Z := by
  refine it55 (args := []) (by rfl) ?_
  intro w2 X2
  conv => whnf
  refine reckon_of _ fun b1 => ?_
  conv => whnf
  refine reckon_of _ fun b2 => ?_
  conv => whnf
  refine reckon_of _ fun b3 => ?_
  conv => whnf
  refine reckon_of _ fun b4 => ?_
  conv => whnf
  refine reckon_of _ fun b5 => ?_
  conv => whnf
  refine reckon_of _ fun b6 => ?_
  conv => whnf
  refine buildA (n := 20) (e := 112) (by kernel_rfl) (tab_ok _ _ (by rfl)) (tab_ok _ _ (by rfl)) ?_
  conv => whnf
  exact RetT.drop (K := K) _ (List.Sublist.refl _) (hk b1 b2 b3 b4 b5 b6)
end
end Go.Proofs.YtgaopcbjhepklaaGreat
