/- walks: numbers, event -/
import Derived.Test.YteindickckcdhaaWalkI
import Derived.Test.YteindickckcdhaaAppFull
import Derived.Test.YteindickckcdhaaTrDef
import Derived.Test.YteindickckcdhaaFr
import Derived.Deep.Cut
import Derived.BigRegion
import Derived.Laws.StructEq
namespace Go.Proofs.Yteindickckcdhaa
open Go.RowKit
set_option linter.unusedSimpArgs false
set_option linter.unusedVariables false
set_option maxRecDepth 100000

/-- an event's cells -/
def ec (x : T.Ev) : List Value := [.int .i64 x.1, .int .i64 x.2.1, .int .i64 x.2.2.1, .int .i64 x.2.2.2.1, .int .i64 x.2.2.2.2.1, .int .i64 x.2.2.2.2.2.1, .int .i64 x.2.2.2.2.2.2.1, .bool x.2.2.2.2.2.2.2]
def rc (x : T.Ev) : List Value := [.int .i64 x.1, .int .i64 x.2.1, .int .i64 x.2.2.1, .int .i64 x.2.2.2.1, .int .i64 x.2.2.2.2.1, .int .i64 x.2.2.2.2.2.1, .int .i64 x.2.2.2.2.2.2.1, .int .i64 (T.oki x.2.2.2.2.2.2.2)]
def ecs (l : List T.Ev) : List Value := l.flatMap ec
theorem rc_is (x : T.Ev) : rc x = is (T.row x) := rfl

theorem numbers_any (a b c d e f g : Int) (h : Bool) (w : World) :
    Calls Try.prog 26 #[.agg #[.int .i64 a, .int .i64 b, .int .i64 c, .int .i64 d, .int .i64 e, .int .i64 f, .int .i64 g, .bool h]] w
      (fun en w' => en = .returned (.agg #[.int .i64 a, .int .i64 b, .int .i64 c, .int .i64 d, .int .i64 e, .int .i64 f, .int .i64 g, .int .i64 (T.oki h)]) ∧ Below w.heap.size w w') := by
  cases h
  · go_enter Try.func26, Try.ntmps26
    go_wp2
    refine bodyPost_ret (v := .agg #[.int .i64 a, .int .i64 b, .int .i64 c, .int .i64 d, .int .i64 e, .int .i64 f, .int .i64 g, .int .i64 0]) (by simp [results, Try.results26, go_sem]) rfl ⟨rfl, ?_⟩
    repeat (first | exact Below.refl _ _ | refine Below.alloc ?_ (by simp <;> omega) _ | refine Below.setCell ?_ (by simp <;> omega) _)
  · go_enter Try.func26, Try.ntmps26
    go_wp2
    refine bodyPost_ret (v := .agg #[.int .i64 a, .int .i64 b, .int .i64 c, .int .i64 d, .int .i64 e, .int .i64 f, .int .i64 g, .int .i64 1]) (by simp [results, Try.results26, go_sem]) rfl ⟨rfl, ?_⟩
    repeat (first | exact Below.refl _ _ | refine Below.alloc ?_ (by simp <;> omega) _ | refine Below.setCell ?_ (by simp <;> omega) _)
theorem event_any (a b c d e f g h : Int) (w : World) :
    Calls Try.prog 27 #[.agg #[.int .i64 a, .int .i64 b, .int .i64 c, .int .i64 d, .int .i64 e, .int .i64 f, .int .i64 g, .int .i64 h]] w
      (fun en w' => en = .returned (.agg #[.int .i64 a, .int .i64 b, .int .i64 c, .int .i64 d, .int .i64 e, .int .i64 f, .int .i64 g, .bool (decide (h = 1))]) ∧ Below w.heap.size w w') := by
  have hd : (h == 1) = decide (h = 1) := by rw [Bool.eq_iff_iff]; simp
  have HD := Lib.hid hd
  clear hd
  go_enter Try.func27, Try.ntmps27
  go_wp2
  refine bodyPost_ret (v := .agg #[.int .i64 a, .int .i64 b, .int .i64 c, .int .i64 d, .int .i64 e, .int .i64 f, .int .i64 g, .bool (h == 1)]) (by simp [results, Try.results27, go_sem]) rfl ⟨by rw [HD.out], ?_⟩
  repeat (first | exact Below.refl _ _ | refine Below.alloc ?_ (by simp <;> omega) _ | refine Below.setCell ?_ (by simp <;> omega) _)
end Go.Proofs.Yteindickckcdhaa
