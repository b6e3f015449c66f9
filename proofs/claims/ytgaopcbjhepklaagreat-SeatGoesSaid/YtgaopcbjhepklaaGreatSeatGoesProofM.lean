/- SeatGoes: for every input the law returns true, and each argument reads afterwards as it read before. No condition. (The frame follows the kit's proof-skeleton; the walk is mine.) -/
import Derived.Test.YtgaopcbjhepklaaGreatRows
import Derived.Test.YtgaopcbjhepklaaGreatQ8
import Derived.WalkKit
import Derived.ProofKit
import Derived.OpenShut
import Derived.ShutString
import Derived.ChangeOld
import Derived.Below
namespace Go.Proofs.YtgaopcbjhepklaaGreat.seatGoes
open Go.ChangeShapes Go.WideShapes Go.ChangeAt Go.RowKit
open Go.ChangeMaps (open_string shut_string)
set_option linter.unusedVariables false

theorem own : ownKnob Tryz.prog.godebug = none := by kernel_rfl
theorem laidOut : laidOutB Tryz.prog = true := by kernel_rfl

theorem walk (C0 : CodeP) (C1 : SeP) (C2 : FrP) (w : World) (w0 : IsCode w C0) (w1 : IsSeat w C1) (w2 : FrRd w C2) :
    Calls Tryz.prog 3 #[C0.val, C1.val, C2.val] w fun e w' => e = .returned (.bool true) ∧ Below w.heap.size w w' := by
  exact goes_any w0 w1 w2

set_option maxRecDepth 100000 in
theorem lifted (os : Os) (started : os.Started) (H : Type) (enc : TypeId × Value → H) :
    ReturnsInHanded {} Tryz.checked os 3 .any (Rows.seatGoesSpec.pre6 enc Tryz.prog Tryz.f3 Rows.seatGoesRow.domain false) (Rows.seatGoesSpec.post enc Tryz.prog Tryz.f3 false true false false) := by
  refine returnsInHanded_of_change (C := Tryz.checked) own started (by kernel_rfl) Tryz.func3
    (ChangeSpec.witness6 (enc := enc) (C := Tryz.checked) false ⟨#[], #[.agg #[.slice none 0 0, .slice none 0 0, .int .i64 0, .int .i64 0, .int .i64 0, .int .i64 0], .agg #[.int .i64 0, .int .i64 0, .int .i64 0, .int .i64 0, .int .i64 0, .int .i64 0, .int .i64 0, .int .i64 0, .int .i64 0, .int .i64 0, .slice none 0 0, .int .i64 0, .int .i64 0, .int .i64 0, .int .i64 0, .slice none 0 0, .slice none 0 0, .slice none 0 0, .int .i64 0], .agg #[.int .i64 0, .slice none 0 0, .int .i64 0, .int .i64 0, .slice none 0 0, .slice none 0 0, .slice none 0 0, .int .i64 0, .int .i64 0, .bool false]], []⟩ 8 (by kernel_rfl) (by kernel_rfl) (by kernel_rfl) (by kernel_rfl)) ?_
  intro W base args ds gs before hval0 hW hcnd _
  have hval : ∀ (j : Nat) t v, Tryz.f3.params[j]? = some t → args[j]? = some v → Value.okWide Tryz.prog W .any base t v := hval0
  have hW' := hW
  obtain ⟨p, q, hA0, hV, rfl, hfz, hnd⟩ := hW
  have hA : DataW.TrodAll enc Tryz.prog W 0 (fun _ => true) true Tryz.f3.params.toList args.toList ds p := hA0
  rw [Tryz.params3] at hA hval
  obtain ⟨v0, vs0, d0, ds0, p0, q0, hargs, rfl, rfl, h0, r0⟩ := trodAll_cons hA
  obtain ⟨v1, vs1, d1, ds1, p1, q1, rfl, rfl, rfl, h1, r1⟩ := trodAll_cons r0
  obtain ⟨v2, vs2, d2, ds2, p2, q2, rfl, rfl, rfl, h2, r2⟩ := trodAll_cons r1
  obtain ⟨rfl, rfl, rfl⟩ := trodAll_nil r2
  obtain rfl : args = #[v0, v1, v2] := by cases args; simp_all
  obtain ⟨rfl, rfl⟩ := trodVars_none hV
  have k0 := h0
  have lt0 : ∀ x ∈ p0, x.block < W.heap.size := by obtain ⟨m, hm⟩ := k0; exact DataW.trod_lt m _ _ _ hm
  have k1 := h1
  have lt1 : ∀ x ∈ p1, x.block < W.heap.size := by obtain ⟨m, hm⟩ := k1; exact DataW.trod_lt m _ _ _ hm
  have k2 := h2
  have lt2 : ∀ x ∈ p2, x.block < W.heap.size := by obtain ⟨m, hm⟩ := k2; exact DataW.trod_lt m _ _ _ hm
  obtain ⟨cs0, rfl, _⟩ := okWide_struct Tryz.underlying25 (hval 0 25 v0 rfl rfl)
  obtain ⟨C0, hC0, w0⟩ : ∃ C : CodeP, cs0 = C.l.toArray ∧ IsCode W C := by
    obtain ⟨fuel, hf⟩ := h0
    obtain ⟨c, _, h1, h2⟩ := open_codeR hf
    exact ⟨c, Array.ext' h1, _, h2⟩
  subst hC0
  obtain ⟨cs1, rfl, _⟩ := okWide_struct Tryz.underlying33 (hval 1 33 v1 rfl rfl)
  obtain ⟨C1, hC1, w1⟩ : ∃ C : SeP, cs1 = C.l.toArray ∧ IsSeat W C := by
    obtain ⟨fuel, hf⟩ := h1
    obtain ⟨c, _, _, _, _, h1, h2⟩ := open_seat hf
    exact ⟨c, Array.ext' h1, _, _, _, _, h2⟩
  subst hC1
  obtain ⟨cs2, rfl, _⟩ := okWide_struct Tryz.underlying36 (hval 2 36 v2 rfl rfl)
  obtain ⟨C2, hC2, w2⟩ : ∃ C : FrP, cs2 = C.l.toArray ∧ FrRd W C := by
    obtain ⟨fuel, hf⟩ := h2
    obtain ⟨c, h1, h2⟩ := open_frame hf
    exact ⟨c, Array.ext' h1, h2⟩
  subst hC2
  clear hA0 hval0
  refine (walk C0 C1 C2 W w0 w1 w2).mono fun e W' ⟨he, bel⟩ => ?_
  subst he
  exact ⟨_, rfl, _, _, _, [], _, [], hW', trodAll_mk1 (shut_bool Tryz.underlying4 _), (trodAll_cons_mk (Below.trod laidOut (by kernel_rfl) (of_decide_eq_true (by kernel_rfl)) k0 bel lt0) (trodAll_cons_mk (Below.trod laidOut (by kernel_rfl) (of_decide_eq_true (by kernel_rfl)) k1 bel lt1) (trodAll_cons_mk (Below.trod laidOut (by kernel_rfl) (of_decide_eq_true (by kernel_rfl)) k2 bel lt2) trodAll_mk0))), rfl, bel.frame _, fun h => by cases h⟩

theorem over : Rows.seatGoesRow.holds Tryz.pinned (OpenSpec.ofChange Rows.seatGoesSpec) :=
  OpenClaim.holds_of_wide 3 Tryz.f3 rfl rfl rfl rfl rfl rfl rfl ⟨rfl, rfl, rfl, rfl, rfl⟩ rfl rfl rfl rfl rfl (by kernel_rfl) Tryz.func3 (by kernel_rfl)
    (of_decide_eq_true (by kernel_rfl)) (by unfold Func.isWrapper; first | (rw [if_pos (by decide +kernel)]; kernel_rfl) | (rw [if_neg (by decide +kernel)]; exact ⟨rfl, rfl⟩))
    (fun os started H enc _ => lifted os started H enc)

/-- THE STATEMENT -/
theorem proved : Rows.SeatGoesSaid := over
end Go.Proofs.YtgaopcbjhepklaaGreat.seatGoes
namespace Go.Proofs.YtgaopcbjhepklaaGreat
theorem SeatGoesHolds : Rows.SeatGoesSaid := seatGoes.proved
#print axioms SeatGoesHolds
end Go.Proofs.YtgaopcbjhepklaaGreat
