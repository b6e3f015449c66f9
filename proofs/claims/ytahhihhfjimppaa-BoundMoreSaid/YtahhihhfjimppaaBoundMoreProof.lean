/- BoundMore: for every input the law returns true, and each argument reads afterwards as it read before. No condition. (The frame follows the kit's proof-skeleton; the walk is mine.) -/
import Derived.Test.YtahhihhfjimppaaRows
import Derived.Test.YtahhihhfjimppaaBdQ
import Derived.Test.YtahhihhfjimppaaBdR
import Derived.WalkKit
import Derived.ProofKit
import Derived.OpenShut
import Derived.ShutString
import Derived.ChangeOld
import Derived.Below
namespace Go.Proofs.Ytahhihhfjimppaa.boundMore
open Go.ChangeShapes Go.WideShapes Go.ChangeAt Go.RowKit
open Go.ChangeMaps (open_string shut_string)
set_option linter.unusedVariables false

theorem own : ownKnob Try.prog.godebug = none := by kernel_rfl
theorem laidOut : laidOutB Try.prog = true := by kernel_rfl

theorem walk (E0 : Bm) (x0 : List Value) (z0 : List Int) (l0 : List S.Five) (w : World) (w0 : IsBm w E0 x0 z0 l0) :
    Calls Try.prog 4 #[E0.val] w fun e w' => e = .returned (.bool true) ∧ Below w.heap.size w w' := by
  have h := bmore_any E0.E x0 z0 l0 E0.c0 E0.c1 E0.c2 E0.c3 E0.c4 E0.c5 E0.c6 E0.c7 E0.c8 E0.uz E0.u1 E0.u2 E0.u3 E0.u4 E0.u5 E0.u6 E0.u7 E0.ua E0.un E0.up E0.ub E0.pk w w0.el w0.pk w0.w0 w0.w1
  exact h

set_option maxRecDepth 100000 in
theorem lifted (os : Os) (started : os.Started) (H : Type) (enc : TypeId × Value → H) :
    ReturnsInHanded {} Try.checked os 4 .any (Rows.boundMoreSpec.pre6 enc Try.prog Try.f4 Rows.boundMoreRow.domain false) (Rows.boundMoreSpec.post enc Try.prog Try.f4 false true false false) := by
  refine returnsInHanded_of_change (C := Try.checked) own started (by kernel_rfl) Try.func4
    (ChangeSpec.witness6 (enc := enc) (C := Try.checked) false ⟨#[], #[.agg #[.int .i64 0, .int .i64 0, .int .i64 0, .int .i64 0, .int .i64 0, .int .i64 0, .int .i64 0, .int .i64 0, .int .i64 0, .int .i64 0, .int .i64 0, .slice none 0 0, .slice none 0 0, .slice none 0 0, .slice none 0 0, .slice none 0 0, .slice none 0 0, .int .i64 0, .int .i64 0, .slice none 0 0, .int .i64 0, .slice none 0 0, .int .i64 0, .int .i64 0, .int .i64 0, .int .i64 0, .int .i64 0, .int .i64 0, .int .i64 0, .bool false, .int .u16 0]], []⟩ 8 (by kernel_rfl) (by kernel_rfl) (by kernel_rfl) (by kernel_rfl)) ?_
  intro W base args ds gs before hval0 hW hcnd _
  have hval : ∀ (j : Nat) t v, Try.f4.params[j]? = some t → args[j]? = some v → Value.okWide Try.prog W .any base t v := hval0
  have hW' := hW
  obtain ⟨p, q, hA0, hV, rfl, hfz, hnd⟩ := hW
  have hA : DataW.TrodAll enc Try.prog W 0 (fun _ => true) true Try.f4.params.toList args.toList ds p := hA0
  rw [Try.params4] at hA hval
  obtain ⟨v0, vs0, d0, ds0, p0, q0, hargs, rfl, rfl, h0, r0⟩ := trodAll_cons hA
  obtain ⟨rfl, rfl, rfl⟩ := trodAll_nil r0
  obtain rfl : args = #[v0] := by cases args; simp_all
  obtain ⟨rfl, rfl⟩ := trodVars_none hV
  have k0 := h0
  have lt0 : ∀ x ∈ p0, x.block < W.heap.size := by obtain ⟨m, hm⟩ := k0; exact DataW.trod_lt m _ _ _ hm
  obtain ⟨cs0, rfl, _⟩ := okWide_struct Try.underlying49 (hval 0 49 v0 rfl rfl)
  obtain ⟨E0, hE0, x0, z0, l0, w0⟩ : ∃ E : Bm, cs0 = E.cs ∧ ∃ xs zs l, IsBm W E xs zs l := by
    obtain ⟨fuel, hf⟩ := h0
    obtain ⟨E, h1, h2⟩ := open_bm hf
    exact ⟨E, Array.ext' h1, h2⟩
  subst hE0
  clear hA0 hval0
  refine (walk E0 x0 z0 l0 W w0).mono fun e W' ⟨he, bel⟩ => ?_
  subst he
  exact ⟨_, rfl, _, _, _, [], _, [], hW', trodAll_mk1 (shut_bool Try.underlying4 _), (trodAll_cons_mk (Below.trod laidOut (by kernel_rfl) (of_decide_eq_true (by kernel_rfl)) k0 bel lt0) trodAll_mk0), rfl, bel.frame _, fun h => by cases h⟩

theorem over : Rows.boundMoreRow.holds Try.pinned (OpenSpec.ofChange Rows.boundMoreSpec) :=
  OpenClaim.holds_of_wide 4 Try.f4 rfl rfl rfl rfl rfl rfl rfl ⟨rfl, rfl, rfl, rfl, rfl⟩ rfl rfl rfl rfl rfl (by kernel_rfl) Try.func4 (by kernel_rfl)
    (of_decide_eq_true (by kernel_rfl)) (by unfold Func.isWrapper; first | (rw [if_pos (by decide +kernel)]; kernel_rfl) | (rw [if_neg (by decide +kernel)]; exact ⟨rfl, rfl⟩))
    (fun os started H enc _ => lifted os started H enc)

/-- THE STATEMENT -/
theorem proved : Rows.BoundMoreSaid := over
end Go.Proofs.Ytahhihhfjimppaa.boundMore
namespace Go.Proofs.Ytahhihhfjimppaa
theorem BoundMoreHolds : Rows.BoundMoreSaid := boundMore.proved
#print axioms BoundMoreHolds
end Go.Proofs.Ytahhihhfjimppaa
