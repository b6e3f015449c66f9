/-
  No cell of these rows narrows 'for every input' (looked for: loops, veiled, ifaces, maps, wideKeys, modest, calm, conditions, laid).
  DERIVED. THE GIVEN ROWS OF THIS SEAT. 3 by the template 'for every input the law returns true; each argument reads behind the call as it read before'; 0 by the template 'total and deterministic' (their statements: YtahhihhfjimppaaTotals.lean).
  GIVEN WITH THE SEED: the statements are not yours to turn. If you find one false, say at which input.
  Laid BY PROGRAM, IN A SANDBOX (cutbox-rows.mjs): the forced cells as the released guide's own fill.sh prints them over the translation f2f90e685f5c37e4… (all of the seat's roots in one cut). By AI agents, Wed Nov 11 2026. No macro, syntax, notation, axiom, sorry.
-/
import Derived.Test.YtahhihhfjimppaaChecked
import GoSem.Claim
import GoSem.ClaimJoined
import GoSem.ClaimMapViews
import Derived.JoinedTies
import Derived.KernelRfl
namespace Go.Proofs.Ytahhihhfjimppaa
/- THE CELL 'sum', in the pinned program and in every row, IS THE sha256 OF THE DUMP (.gsa) THAT YtahhihhfjimppaaProg.lean LOADS. Nothing in Lean hashes anything: it is a label: what it is worth is what the hold of that sum in a sandbox is worth. -/
noncomputable def Try.pinned : Pinned := { name := "ytahhihhfjimppaa", sum := "f2f90e685f5c37e4734b4157cece64f091e9196a14bdc3649710eb274c1dc3af", checked := Try.checked }
namespace Rows
def none {H : Type} : Left H := { results := [], args := [] }

/-- 'underwoodlaw35.BoundChain': WHATEVER THE INPUT: true; the input reads as it did. -/
def boundChainSpec : ChangeSpec := { name := "boundChain", fn := fun _ => fun
  | [d1, d2] => { results := [.lit (.bool true)], args := [d1, d2] }
  | _ => none }
def boundChainRow : OpenClaim := { program := "ytahhihhfjimppaa", sum := "f2f90e685f5c37e4734b4157cece64f091e9196a14bdc3649710eb274c1dc3af", func := "underwood/underwoodlaw35.BoundChain", spec := "boundChain", unfollowed := true, recurses := true, apart := false }
def BoundChainSaid : Prop := boundChainRow.holds Try.pinned (OpenSpec.ofChange boundChainSpec)

/-- ITS FALSE NEIGHBOUR: 'it returns false'. Refute it at one input. -/
def boundChainWrong : ChangeSpec := { name := "boundChain", fn := fun _ => fun
  | [d1, d2] => { results := [.lit (.bool false)], args := [d1, d2] }
  | _ => none }
def BoundChainWrongFalsely : Prop := boundChainRow.holds Try.pinned (OpenSpec.ofChange boundChainWrong)

/-- 'underwoodlaw35.BoundMore': WHATEVER THE INPUT: true; the input reads as it did. -/
def boundMoreSpec : ChangeSpec := { name := "boundMore", fn := fun _ => fun
  | [d] => { results := [.lit (.bool true)], args := [d] }
  | _ => none }
def boundMoreRow : OpenClaim := { program := "ytahhihhfjimppaa", sum := "f2f90e685f5c37e4734b4157cece64f091e9196a14bdc3649710eb274c1dc3af", func := "underwood/underwoodlaw35.BoundMore", spec := "boundMore", unfollowed := true, recurses := true, apart := false }
def BoundMoreSaid : Prop := boundMoreRow.holds Try.pinned (OpenSpec.ofChange boundMoreSpec)

/-- ITS FALSE NEIGHBOUR: 'it returns false'. Refute it at one input. -/
def boundMoreWrong : ChangeSpec := { name := "boundMore", fn := fun _ => fun
  | [d] => { results := [.lit (.bool false)], args := [d] }
  | _ => none }
def BoundMoreWrongFalsely : Prop := boundMoreRow.holds Try.pinned (OpenSpec.ofChange boundMoreWrong)

/-- 'underwoodlaw35.BoundSerial': WHATEVER THE INPUT: true; the input reads as it did. -/
def boundSerialSpec : ChangeSpec := { name := "boundSerial", fn := fun _ => fun
  | [d] => { results := [.lit (.bool true)], args := [d] }
  | _ => none }
def boundSerialRow : OpenClaim := { program := "ytahhihhfjimppaa", sum := "f2f90e685f5c37e4734b4157cece64f091e9196a14bdc3649710eb274c1dc3af", func := "underwood/underwoodlaw35.BoundSerial", spec := "boundSerial", unfollowed := true, recurses := true, apart := false }
def BoundSerialSaid : Prop := boundSerialRow.holds Try.pinned (OpenSpec.ofChange boundSerialSpec)

/-- ITS FALSE NEIGHBOUR: 'it returns false'. Refute it at one input. -/
def boundSerialWrong : ChangeSpec := { name := "boundSerial", fn := fun _ => fun
  | [d] => { results := [.lit (.bool false)], args := [d] }
  | _ => none }
def BoundSerialWrongFalsely : Prop := boundSerialRow.holds Try.pinned (OpenSpec.ofChange boundSerialWrong)

/- THE SECOND FORM. 'bulk': how many values and letters a reading holds, each counted each time it is reached (what is shared counts as often as it is met; a slice's spare places count too). A statement '..UptoSaid' is the law's where the arguments, and the package variables that the reading takes, are together of bulk at most 1048576: NARROWER than '..Said'. Prove '..Said' where nothing that the law and all that it calls make is longer than what came in: it says more and counts as full. Else prove '..UptoSaid'. A law counts once. -/
mutual
def uptoBulk {H : Type} : DataW H → Nat
  | .lit (.string bytes) => bytes.length + 1
  | .lit _ => 1
  | .nil => 1
  | .ptr d => uptoBulk d + 1
  | .slice elems spare => uptoBulkAll elems + uptoBulkAll spare + 1
  | .agg parts => uptoBulkAll parts + 1
  | .iface _ d => uptoBulk d + 1
  | .map entries => uptoBulkEntries entries + 1
  | .held _ => 1
def uptoBulkAll {H : Type} : List (DataW H) → Nat
  | [] => 0
  | d :: r => uptoBulk d + uptoBulkAll r
def uptoBulkEntries {H : Type} : List (Lit × DataW H) → Nat
  | [] => 0
  | x :: r => uptoBulkEntry x + uptoBulkEntries r
def uptoBulkEntry {H : Type} : Lit × DataW H → Nat
  | (.string bytes, d) => bytes.length + uptoBulk d + 1
  | (_, d) => uptoBulk d + 1
 end
def uptoSmall : (H : Type) → List (DataW H) → Bool := fun _ ds => decide (uptoBulkAll ds ≤ 1048576)
def OpenSpec.upto (s : _root_.Go.ChangeSpec) : _root_.Go.OpenSpec := { _root_.Go.OpenSpec.ofChange s with cond := some uptoSmall }

/-- 'underwoodlaw35.BoundChain', WHERE WHAT IT READS IS OF BULK AT MOST 1048576: true; the input reads as it did. -/
def boundChainUptoRow : OpenClaim := { program := "ytahhihhfjimppaa", sum := "f2f90e685f5c37e4734b4157cece64f091e9196a14bdc3649710eb274c1dc3af", func := "underwood/underwoodlaw35.BoundChain", spec := "boundChain", unfollowed := true, recurses := true, apart := false, narrowed := true }
def BoundChainUptoSaid : Prop := boundChainUptoRow.holds Try.pinned (OpenSpec.upto boundChainSpec)

/-- 'underwoodlaw35.BoundMore', WHERE WHAT IT READS IS OF BULK AT MOST 1048576: true; the input reads as it did. -/
def boundMoreUptoRow : OpenClaim := { program := "ytahhihhfjimppaa", sum := "f2f90e685f5c37e4734b4157cece64f091e9196a14bdc3649710eb274c1dc3af", func := "underwood/underwoodlaw35.BoundMore", spec := "boundMore", unfollowed := true, recurses := true, apart := false, narrowed := true }
def BoundMoreUptoSaid : Prop := boundMoreUptoRow.holds Try.pinned (OpenSpec.upto boundMoreSpec)

/-- 'underwoodlaw35.BoundSerial', WHERE WHAT IT READS IS OF BULK AT MOST 1048576: true; the input reads as it did. -/
def boundSerialUptoRow : OpenClaim := { program := "ytahhihhfjimppaa", sum := "f2f90e685f5c37e4734b4157cece64f091e9196a14bdc3649710eb274c1dc3af", func := "underwood/underwoodlaw35.BoundSerial", spec := "boundSerial", unfollowed := true, recurses := true, apart := false, narrowed := true }
def BoundSerialUptoSaid : Prop := boundSerialUptoRow.holds Try.pinned (OpenSpec.upto boundSerialSpec)

end Rows
end Go.Proofs.Ytahhihhfjimppaa
