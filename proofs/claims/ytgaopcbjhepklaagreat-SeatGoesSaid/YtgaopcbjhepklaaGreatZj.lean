/- A frame that goes on: the deferred closure. -/
import Derived.Test.YtgaopcbjhepklaaGreatZh
namespace Go.Proofs.YtgaopcbjhepklaaGreat
open Go.RowKit
set_option linter.unusedSimpArgs false
set_option linter.unusedVariables false
set_option maxRecDepth 100000
section
variable {wA w0 : World} {X : Nat → Prop} {M : EL} {K : FrameMode → Ctx → Prop}
abbrev ask0 : List Value := [.int .i64 0, .int .i64 0, .int .i64 0, .int .i64 0, .int .i64 0, .int .i64 0, .int .i64 0, .slice none 0 0]
abbrev nextD (p3 p4 p5 p6 : Nat) : Deferred := { target := .fn (.func 53) #[.pointer (some ⟨p3, 0, none⟩), .pointer (some ⟨p4, 0, none⟩), .pointer (some ⟨p5, 0, none⟩), .pointer (some ⟨p6, 0, none⟩)], args := #[] }
/-- the function's variables -/
def nextE (f g : FrP) (a : List Value) (e : Int) (p3 p4 p5 p6 : Nat) (M : EL) : EL := (.pointer (some ⟨p6, 0, none⟩), .cs 41 [.int .i64 e]) :: (.pointer (some ⟨p5, 0, none⟩), .cs 29 a) :: (.pointer (some ⟨p4, 0, none⟩), .cs 36 g.l) :: (.pointer (some ⟨p3, 0, none⟩), .cs 36 f.l) :: M
theorem runAssert {w : World} {e : Int} : (Instr.typeAssert (errV e) 20 41 true).run Tryz.prog w = .ok (.tuple #[.int .i64 e, .bool true]) w := by
  have hu : Tryz.prog.underlying 41 = some (.int .i64) := by kernel_rfl
  simp [Instr.typeAssert, run_underlying hu]
theorem opAss {ev : Operand → Value} {o : Oper} {x : Operand} {e : Int} (ho : o.op = .typeAssert x 20 41 true) (hx : ev x = errV e) {C : Ctx} {K : Value → Ctx → Prop} {Z : PanK} (h : K (.tuple #[.int .i64 e, .bool true]) C) : OpVC Tryz.prog C (execOp ev o) K Z :=
  opA (fun w => by simp [execOp, ho, hx, runAssert]) h
theorem semNeI {x y : Operand} {v : Value} {C : Ctx} {K : Value → Ctx → Prop} (b : Bool) (hv : (v = .nilIface ∧ b = false) ∨ ∃ t u, v = .iface t u ∧ b = true) (hy : (y matches .const _) = true) (h : K (.bool b) C) : SemVC Tryz.prog C (do eqGuard .neq 20 x y v .nilIface; binOp .neq 20 v .nilIface) K := by
  have hu : Tryz.prog.underlying 20 = some (.interface #[]) := by kernel_rfl
  have e : Op.maxDepth = (Op.maxDepth - 1) + 1 := rfl
  refine semA (fun w => ?_) h
  rcases hv with ⟨rfl, rfl⟩ | ⟨t, u, rfl, rfl⟩
  · cases y <;> simp at hy
    simp [eqGuard, binOp, Op.equal]; rw [e]; simp [Op.equalIn, run_underlying hu]
  · simp [eqGuard, binOp, Op.equal]; rw [e]; simp [Op.equalIn, run_underlying hu]
set_option maxHeartbeats 4000000 in
theorem rec_pan {f g : FrP} {a : List Value} (ha : a.length = 8) {p3 p4 p5 p6 : Nat} {e e0 : Int} (hk : K (.panicking [{ v := errV e, recovered := true }]) (CtxA wA w0 X (nextE f f ask0 e p3 p4 p5 p6 M))) :
    DefVC Tryz.prog (CtxA wA w0 X (nextE f g a e0 p3 p4 p5 p6 M)) (nextD p3 p4 p5 p6) (.panicking [{ v := errV e, recovered := false }]) K := by
  match a, ha with
  | [a0, a1, a2, a3, a4, a5, a6, a7], _ =>
  refine df53 (args := [.pointer (some ⟨p3, 0, none⟩), .pointer (some ⟨p4, 0, none⟩), .pointer (some ⟨p5, 0, none⟩), .pointer (some ⟨p6, 0, none⟩)]) (by rfl) rfl rfl ?_
  intro w2 X2
  conv => whnf
  refine semNeI true (.inr ⟨_, _, rfl, rfl⟩) rfl ?_
  conv => whnf
  repeat' (first
    | (refine ldsA (by repeat (first | exact List.Mem.head _ | refine List.Mem.tail _ ?_)) (tab_ok _ _ (by rfl)) (by rfl) ?_; conv => whnf)
    | (refine stA (tab_ok _ _ (by rfl)) (by repeat (first | exact AtE.here | apply AtE.there)) ?_; conv => whnf)
    | (refine opAss (e := e) (by rfl) (by rfl) ?_; conv => whnf)
    | (refine JoinVC.go ?_; conv => whnf))
  exact RetA.drop _ (List.Sublist.refl _) hk
set_option maxHeartbeats 4000000 in
theorem rec_ret {p3 p4 p5 p6 : Nat} (hk : K .returning (CtxA wA w0 X M)) : DefVC Tryz.prog (CtxA wA w0 X M) (nextD p3 p4 p5 p6) .returning K := by
  refine df53 (args := [.pointer (some ⟨p3, 0, none⟩), .pointer (some ⟨p4, 0, none⟩), .pointer (some ⟨p5, 0, none⟩), .pointer (some ⟨p6, 0, none⟩)]) (by rfl) rfl rfl ?_
  intro w2 X2
  conv => whnf
  refine semNeI false (.inl ⟨rfl, rfl⟩) rfl ?_
  conv => whnf
  exact RetA.drop _ (List.Sublist.refl _) hk
end
end Go.Proofs.YtgaopcbjhepklaaGreat
