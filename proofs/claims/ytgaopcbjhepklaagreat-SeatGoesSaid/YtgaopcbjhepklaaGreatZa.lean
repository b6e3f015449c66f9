/- A frame that goes on: what its machine is, and steps of it. -/
import Derived.Test.YtgaopcbjhepklaaGreatYe
namespace Go.Proofs.YtgaopcbjhepklaaGreat
open Go.RowKit
set_option linter.unusedSimpArgs false
set_option linter.unusedVariables false
set_option maxRecDepth 100000
structure KidP where
  task : Int
  dst : Int
def kidL : List KidP → List Value
  | [] => []
  | k :: l => .int .i64 k.task :: .int .i64 k.dst :: kidL l
/-- of a machine: what stays -/
structure MK where
  Af : Option Addr
  nf : Nat
  cf : Nat
  Ac : Option Addr
  nc : Nat
  cc : Nat
  maps : Int
  stacks : Int
  chans : Int
  main : Int
  args : Int
  locals : Int
  Ai : Option Addr
  ni : Nat
  ci : Nat
  task : Int
  Ap : Option Addr
  np : Nat
  cp : Nat
  fn : Int
  Ak : Option Addr
  nk : Nat
  ck : Nat
  many : Int
  path : List Int
  kids : List KidP
/-- of a machine: what turns -/
structure MV where
  pc : Int
  spent : Int
  fail : Bool
  Al : Option Addr
  nl : Nat
  cl : Nat
  loc : List Int
  As : Option Addr
  ns : Nat
  cs : Nat
  stk : List Int
/-- what a machine asks for -/
structure QV where
  kind : Int
  a : Int
  b : Int
  o0 : Int
  o1 : Int
  o2 : Int
  o3 : Int
  Aa : Option Addr
  na : Nat
  ca : Nat
  got : List Int
def mcells (k : MK) (v : MV) (q : QV) : List Value := [.slice k.Af k.nf k.cf, .slice k.Ac k.nc k.cc, .int .i64 k.maps, .int .i64 k.stacks, .int .i64 k.chans, .int .i64 k.main, .int .i64 k.args, .int .i64 k.locals, .slice k.Ai k.ni k.ci,
  .int .i64 k.task, .slice k.Ap k.np k.cp, .int .i64 k.fn, .int .i64 v.pc, .slice v.Al v.nl v.cl, .slice v.As v.ns v.cs, .slice k.Ak k.nk k.ck, .int .i64 k.many, .int .i64 v.spent, .bool v.fail,
  .int .i64 q.kind, .int .i64 q.a, .int .i64 q.b, .int .i64 q.o0, .int .i64 q.o1, .int .i64 q.o2, .int .i64 q.o3, .slice q.Aa q.na q.ca]
/-- what its memory is -/
def ent (k : MK) (v : MV) (q : QV) (bm : Nat) (M : EL) : EL := (.pointer (some ⟨bm, 0, none⟩), .cs 109 (mcells k v q)) :: (.slice v.As v.ns v.cs, .row 3 1 (is v.stk)) :: (.slice v.Al v.nl v.cl, .row 3 1 (is v.loc)) :: (.slice q.Aa q.na q.ca, .row 3 1 (is q.got)) :: (.slice k.Ak k.nk k.ck, .row 67 2 (kidL k.kids)) :: (.slice k.Ap k.np k.cp, .row 3 1 (is k.path)) :: M
/-- numbers of the right size, and rows -/
structure MOk (k : MK) (v : MV) : Prop where
  pc : 0 ≤ v.pc ∧ v.pc ≤ 1000000
  spent : 0 ≤ v.spent ∧ v.spent ≤ 2000
  ns : v.ns = v.stk.length
  nl : v.nl = v.loc.length
  sm : v.ns ≤ 100
  As : 0 < v.cs → ∃ b, v.As = some ⟨b, 0, none⟩
  cs : v.ns ≤ v.cs
  Al : 0 < v.cl → ∃ b, v.Al = some ⟨b, 0, none⟩
  cl : v.nl ≤ v.cl
  nk : k.nk = k.kids.length
  Ak : 0 < k.ck → ∃ b, k.Ak = some ⟨b, 0, none⟩
  ck : k.nk ≤ k.ck
  kk : k.nk ≤ 1000000
theorem MOk.less {k : MK} {v : MV} (h : MOk k v) (m : Nat) : MOk k { v with ns := v.ns - m, stk := v.stk.take (v.ns - m) } :=
  ⟨h.pc, h.spent, by have := h.ns; simp; omega, h.nl, by have := h.sm; show v.ns - m ≤ 100; omega, h.As, by have := h.cs; show v.ns - m ≤ v.cs; omega, h.Al, h.cl, h.nk, h.Ak, h.ck, h.kk⟩
abbrev errV (e : Int) : Value := .iface 41 (.int .i64 e)
/-- nothing is asked for -/
def q0 : QV := ⟨0, 0, 0, 0, 0, 0, 0, none, 0, 0, []⟩
def awaits (l : List KidP) (a : Int) : Bool := l.any fun k => k.dst == a
theorem kidL_length : ∀ l : List KidP, (kidL l).length = l.length * 2
  | [] => rfl
  | k :: l => by simp only [kidL, List.length_cons, kidL_length l]; omega
theorem kidL_at : ∀ (l : List KidP) (i : Nat) (h : i < l.length), ((kidL l).drop (i * 2)).take 2 = [.int .i64 l[i].task, .int .i64 l[i].dst]
  | k :: l, 0, h => rfl
  | k :: l, i + 1, h => by
    have : (i + 1) * 2 = i * 2 + 2 := by omega
    rw [this]
    simp only [kidL, List.drop_succ_cons, List.getElem_cons_succ]
    exact kidL_at l i (by simpa using h)
end Go.Proofs.YtgaopcbjhepklaaGreat
