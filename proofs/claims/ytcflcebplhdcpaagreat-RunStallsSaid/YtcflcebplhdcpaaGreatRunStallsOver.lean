/- RunStalls: what the claim's row says of the program, checked, fact by fact. -/
import Derived.Test.YtcflcebplhdcpaaGreatRows
import Derived.WalkKit
import Derived.ProofKit
import Derived.OpenShut
import Derived.ShutString
import Derived.ChangeOld
import Derived.Below
namespace Go.Proofs.YtcflcebplhdcpaaGreat.runStalls
open Go.ChangeShapes Go.WideShapes Go.ChangeAt Go.RowKit
theorem andT {a b : Bool} (h1 : a = true) (h2 : b = true) : (a && b) = true := by rw [h1, h2]; rfl
theorem i1 : (Rows.runStallsRow.inPlace == Tryz.pinned.checked.prog.inPlace 3) = true := by kernel_rfl
theorem i2 : (Rows.runStallsRow.unfollowed == Tryz.pinned.checked.prog.unfollowed 3) = true := by kernel_rfl
theorem i3 : (Rows.runStallsRow.recurses == Tryz.pinned.checked.prog.recurses 3) = true := by kernel_rfl
theorem i4 : (Rows.runStallsRow.named == Tryz.pinned.checked.prog.varsNamed 3) = true := by kernel_rfl
theorem i5 : laidOutB Tryz.pinned.checked.prog = true := by kernel_rfl
theorem i6 : mapsRowed Tryz.pinned.checked.prog = true := by kernel_rfl
theorem joined : joinedFacts Tryz.pinned.checked.prog 3 Tryz.f3 Rows.runStallsSpec Rows.runStallsRow = true := by
  unfold joinedFacts
  repeat' (first | with_reducible exact i1 | with_reducible exact i2 | with_reducible exact i3 | with_reducible exact i4 | with_reducible exact i5 | with_reducible exact i6 | with_reducible refine andT ?_ ?_)
  all_goals kernel_rfl
theorem named : Tryz.pinned.checked.prog.funcNamed Rows.runStallsRow.func = some 3 := by kernel_rfl
theorem inst : Tryz.f3.isInstance Tryz.pinned.checked.prog Rows.runStallsRow.origin Rows.runStallsRow.targs := of_decide_eq_true (by kernel_rfl)
theorem wrap : Tryz.f3.isWrapper Tryz.pinned.checked.prog Rows.runStallsRow.wrapper Rows.runStallsRow.mainSum := by unfold Func.isWrapper; first | (rw [if_pos (by decide +kernel)]; kernel_rfl) | (rw [if_neg (by decide +kernel)]; exact ⟨rfl, rfl⟩)
end Go.Proofs.YtcflcebplhdcpaaGreat.runStalls
