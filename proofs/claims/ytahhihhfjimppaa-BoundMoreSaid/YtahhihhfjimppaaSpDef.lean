/- The plain side of layer 12: what the two chains, and the state, come to -/
import Derived.Below
namespace Go.Proofs.Ytahhihhfjimppaa.S
set_option linter.unusedSimpArgs false
set_option linter.unusedVariables false

/-- as many zeros behind as are wanted for a place b -/
def ext (L : List Nat) (b : Nat) : List Nat := L ++ List.replicate (b + 1 - L.length) 0
/-- b behind a -/
def put1 (L : List Nat) (a b : Nat) : List Nat := ((ext L b).set b ((ext L b).getD a 0)).set a b
def put : List Nat → Nat → List Nat → List Nat
  | L, _, [] => L
  | L, a, b :: r => put (put1 L a b) b r
theorem ext_length (L : List Nat) (b : Nat) : (ext L b).length = max L.length (b + 1) := by simp [ext]; omega
theorem put1_length (L : List Nat) (a b : Nat) : (put1 L a b).length = max L.length (b + 1) := by simp [put1, ext_length]
theorem ext_lt {L : List Nat} {N b : Nat} (h : ∀ x ∈ L, x < N) (hN : 0 < N) : ∀ x ∈ ext L b, x < N := by
  intro x hx
  rcases List.mem_append.1 hx with h1 | h1
  · exact h x h1
  · rw [(List.mem_replicate.1 h1).2]; exact hN
theorem put1_lt {L : List Nat} {N a b : Nat} (h : ∀ x ∈ L, x < N) (hb : b < N) : ∀ x ∈ put1 L a b, x < N := by
  intro x hx
  have he := ext_lt (b := b) h (by omega)
  unfold put1 at hx
  rcases List.mem_or_eq_of_mem_set hx with hx | rfl
  · rcases List.mem_or_eq_of_mem_set hx with hx | rfl
    · exact he x hx
    · rw [List.getD_eq_getElem?_getD]
      cases hg : (ext L b)[a]? with
      | none => simp; omega
      | some y => exact he y (List.mem_of_getElem? hg)
  · exact hb
/-- the places: the k-th of them from the front on has place k -/
def placesFrom (L : List Nat) : Nat → Nat → Nat → List Nat → List Nat
  | 0, _, _, P => P
  | n + 1, k, at_, P => placesFrom L n (k + 1) (L.getD at_ 0) (P.set at_ k)
def places (L : List Nat) : List Nat := placesFrom L L.length 0 0 (List.replicate L.length 0)
theorem placesFrom_length (L : List Nat) (n : Nat) : ∀ k at_ P, (placesFrom L n k at_ P).length = P.length := by
  induction n with
  | zero => intros; rfl
  | succ n ih => intro k at_ P; rw [placesFrom, ih, List.length_set]
theorem places_length (L : List Nat) : (places L).length = L.length := by unfold places; rw [placesFrom_length, List.length_replicate]

/-- a split, as numbers: its kind, A, B, C, D -/
abbrev Five := Int × Int × Int × Int × Int
/-- which split of a kind may come now; ts: the tasks, the last one on; n: the next strand's number -/
def may (ts : List (Nat × Nat)) (n : Nat) (kind : Int) : Five × Bool :=
  let t := ts.getD (ts.length - 1) (0, 0)
  if kind = 1 then ((1, (t.1 : Int), (n : Int), (n : Int) + 1, if t.2 = 0 then (n : Int) + 2 else (t.2 : Int)), true)
  else if kind = 2 then (if ts.length < 2 ∨ t.2 ≠ 0 then ((0, 0, 0, 0, 0), false) else ((2, (t.1 : Int), 0, 0, ((ts.getD (ts.length - 2) (0, 0)).2 : Int)), true))
  else if kind = 3 then ((3, (t.1 : Int), 0, 0, (t.2 : Int)), decide (t.2 ≠ 0))
  else ((0, 0, 0, 0, 0), false)
end Go.Proofs.Ytahhihhfjimppaa.S
