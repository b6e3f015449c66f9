/-
  No cell of these rows narrows 'for every input' (looked for: loops, veiled, ifaces, maps, wideKeys, modest, calm, conditions, laid).
  DERIVED. THE GIVEN ROWS OF THIS SEAT. 3 by the template 'for every input the law returns true; each argument reads behind the call as it read before'; 0 by the template 'total and deterministic' (their statements: YtgaopcbjhepklaaGreatTotals.lean).
  GIVEN WITH THE SEED: the statements are not yours to turn. If you find one false, say at which input.
  Laid BY PROGRAM, IN A SANDBOX (cutbox-rows.mjs): the forced cells as the released guide's own fill.sh prints them over the translation 3e4a1986eff108c6… (all of the seat's roots in one cut). By AI agents, Wed Nov 11 2026. No macro, syntax, notation, axiom, sorry.
-/
import Derived.Test.YtgaopcbjhepklaaGreatChecked
import GoSem.Claim
import GoSem.ClaimJoined
import GoSem.ClaimMapViews
import Derived.JoinedTies
import Derived.KernelRfl
namespace Go.Proofs.YtgaopcbjhepklaaGreat
/- THE CELL 'sum', in the pinned program and in every row, IS THE sha256 OF THE DUMP (.gsa) THAT YtgaopcbjhepklaaGreatProg.lean LOADS. Nothing in Lean hashes anything: it is a label: what it is worth is what the hold of that sum in a sandbox is worth. -/
noncomputable def Tryz.pinned : Pinned := { name := "ytgaopcbjhepklaagreat", sum := "3e4a1986eff108c685435152bac1bcf817ebd45674c051ed331cc98613006ab1", checked := Tryz.checked }
namespace Rows
def none {H : Type} : Left H := { results := [], args := [] }

/-- 'underwoodlaw30.SeatGoes': WHATEVER THE INPUT: true; the input reads as it did. -/
def seatGoesSpec : ChangeSpec := { name := "seatGoes", fn := fun _ => fun
  | [d1, d2, d3] => { results := [.lit (.bool true)], args := [d1, d2, d3] }
  | _ => none }
def seatGoesRow : OpenClaim := { program := "ytgaopcbjhepklaagreat", sum := "3e4a1986eff108c685435152bac1bcf817ebd45674c051ed331cc98613006ab1", func := "underwood/underwoodlaw30.SeatGoes", spec := "seatGoes", unfollowed := true, recurses := true, apart := false }
def SeatGoesSaid : Prop := seatGoesRow.holds Tryz.pinned (OpenSpec.ofChange seatGoesSpec)

/-- ITS FALSE NEIGHBOUR: 'it returns false'. Refute it at one input. -/
def seatGoesWrong : ChangeSpec := { name := "seatGoes", fn := fun _ => fun
  | [d1, d2, d3] => { results := [.lit (.bool false)], args := [d1, d2, d3] }
  | _ => none }
def SeatGoesWrongFalsely : Prop := seatGoesRow.holds Tryz.pinned (OpenSpec.ofChange seatGoesWrong)

/-- 'underwoodlaw30.SeatSeeks': WHATEVER THE INPUT: true; the input reads as it did. -/
def seatSeeksSpec : ChangeSpec := { name := "seatSeeks", fn := fun _ => fun
  | [d1, d2, d3] => { results := [.lit (.bool true)], args := [d1, d2, d3] }
  | _ => none }
def seatSeeksRow : OpenClaim := { program := "ytgaopcbjhepklaagreat", sum := "3e4a1986eff108c685435152bac1bcf817ebd45674c051ed331cc98613006ab1", func := "underwood/underwoodlaw30.SeatSeeks", spec := "seatSeeks", unfollowed := true, recurses := true, apart := false }
def SeatSeeksSaid : Prop := seatSeeksRow.holds Tryz.pinned (OpenSpec.ofChange seatSeeksSpec)

/-- ITS FALSE NEIGHBOUR: 'it returns false'. Refute it at one input. -/
def seatSeeksWrong : ChangeSpec := { name := "seatSeeks", fn := fun _ => fun
  | [d1, d2, d3] => { results := [.lit (.bool false)], args := [d1, d2, d3] }
  | _ => none }
def SeatSeeksWrongFalsely : Prop := seatSeeksRow.holds Tryz.pinned (OpenSpec.ofChange seatSeeksWrong)

/-- 'underwoodlaw30.SeatFetches': WHATEVER THE INPUT: true; the input reads as it did. -/
def seatFetchesSpec : ChangeSpec := { name := "seatFetches", fn := fun _ => fun
  | [d] => { results := [.lit (.bool true)], args := [d] }
  | _ => none }
def seatFetchesRow : OpenClaim := { program := "ytgaopcbjhepklaagreat", sum := "3e4a1986eff108c685435152bac1bcf817ebd45674c051ed331cc98613006ab1", func := "underwood/underwoodlaw30.SeatFetches", spec := "seatFetches", unfollowed := true, recurses := true, apart := false }
def SeatFetchesSaid : Prop := seatFetchesRow.holds Tryz.pinned (OpenSpec.ofChange seatFetchesSpec)

/-- ITS FALSE NEIGHBOUR: 'it returns false'. Refute it at one input. -/
def seatFetchesWrong : ChangeSpec := { name := "seatFetches", fn := fun _ => fun
  | [d] => { results := [.lit (.bool false)], args := [d] }
  | _ => none }
def SeatFetchesWrongFalsely : Prop := seatFetchesRow.holds Tryz.pinned (OpenSpec.ofChange seatFetchesWrong)

/- THE SECOND FORM. 'bulk': how many values and letters a reading holds, each counted each time it is reached (what is shared counts as often as it is met; a slice's spare places count too). A statement '..UptoSaid' is the law's where the arguments, and the package variables that the reading takes, are together of bulk at most 1048576: NARROWER than '..Said'. Prove '..Said' where nothing that the law and all that it calls make is longer than what came in: it says more and counts as full. Else prove '..UptoSaid'. A law counts once. -/
mutual
def uptoBulk {H : Type} : DataW H → Nat
  | .lit (.string bytes) => bytes.length + 1
  | .lit _ => 1
  | .nil => 1
  | .ptr d => uptoBulk d + 1
  | .slice elems spare => uptoBulkAll elems + uptoBulkAll spare + 1
  | .agg parts => uptoBulkAll parts + 1
  | .iface _ d => uptoBulk d + 1
  | .map entries => uptoBulkEntries entries + 1
  | .held _ => 1
def uptoBulkAll {H : Type} : List (DataW H) → Nat
  | [] => 0
  | d :: r => uptoBulk d + uptoBulkAll r
def uptoBulkEntries {H : Type} : List (Lit × DataW H) → Nat
  | [] => 0
  | x :: r => uptoBulkEntry x + uptoBulkEntries r
def uptoBulkEntry {H : Type} : Lit × DataW H → Nat
  | (.string bytes, d) => bytes.length + uptoBulk d + 1
  | (_, d) => uptoBulk d + 1
 end
def uptoSmall : (H : Type) → List (DataW H) → Bool := fun _ ds => decide (uptoBulkAll ds ≤ 1048576)
def OpenSpec.upto (s : _root_.Go.ChangeSpec) : _root_.Go.OpenSpec := { _root_.Go.OpenSpec.ofChange s with cond := some uptoSmall }

/-- 'underwoodlaw30.SeatGoes', WHERE WHAT IT READS IS OF BULK AT MOST 1048576: true; the input reads as it did. -/
def seatGoesUptoRow : OpenClaim := { program := "ytgaopcbjhepklaagreat", sum := "3e4a1986eff108c685435152bac1bcf817ebd45674c051ed331cc98613006ab1", func := "underwood/underwoodlaw30.SeatGoes", spec := "seatGoes", unfollowed := true, recurses := true, apart := false, narrowed := true }
def SeatGoesUptoSaid : Prop := seatGoesUptoRow.holds Tryz.pinned (OpenSpec.upto seatGoesSpec)

/-- 'underwoodlaw30.SeatSeeks', WHERE WHAT IT READS IS OF BULK AT MOST 1048576: true; the input reads as it did. -/
def seatSeeksUptoRow : OpenClaim := { program := "ytgaopcbjhepklaagreat", sum := "3e4a1986eff108c685435152bac1bcf817ebd45674c051ed331cc98613006ab1", func := "underwood/underwoodlaw30.SeatSeeks", spec := "seatSeeks", unfollowed := true, recurses := true, apart := false, narrowed := true }
def SeatSeeksUptoSaid : Prop := seatSeeksUptoRow.holds Tryz.pinned (OpenSpec.upto seatSeeksSpec)

/-- 'underwoodlaw30.SeatFetches', WHERE WHAT IT READS IS OF BULK AT MOST 1048576: true; the input reads as it did. -/
def seatFetchesUptoRow : OpenClaim := { program := "ytgaopcbjhepklaagreat", sum := "3e4a1986eff108c685435152bac1bcf817ebd45674c051ed331cc98613006ab1", func := "underwood/underwoodlaw30.SeatFetches", spec := "seatFetches", unfollowed := true, recurses := true, apart := false, narrowed := true }
def SeatFetchesUptoSaid : Prop := seatFetchesUptoRow.holds Tryz.pinned (OpenSpec.upto seatFetchesSpec)

end Rows
end Go.Proofs.YtgaopcbjhepklaaGreat
