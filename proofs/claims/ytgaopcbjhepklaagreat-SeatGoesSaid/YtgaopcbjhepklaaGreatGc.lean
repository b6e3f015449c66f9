/- What a seat's turn is; its small steps. -/
import Derived.Test.YtgaopcbjhepklaaGreatGa
namespace Go.Proofs.YtgaopcbjhepklaaGreat
open Go.RowKit
set_option linter.unusedSimpArgs false
set_option linter.unusedVariables false
set_option maxRecDepth 100000
/-- a layout -/
structure LaP where
  seats : Int
  nodes : Int
  buckets : Int
  slots : Int
  tasks : Int
  cells : Int
  maps : Int
  stacks : Int
  chans : Int
  done : Int
  count : Int
  era : Int
  free : Int
  alive : Int
  owner : Int
  resv : Int
  deque : Int
  ring : Int
  task : Int
  cell : Int
  map : Int
  stack : Int
  chan : Int
  node : Int
  size : Int
def LaP.l (a : LaP) : List Value := [.int .i64 a.seats, .int .i64 a.nodes, .int .i64 a.buckets, .int .i64 a.slots, .int .i64 a.tasks, .int .i64 a.cells, .int .i64 a.maps, .int .i64 a.stacks, .int .i64 a.chans, .int .i64 a.done, .int .i64 a.count, .int .i64 a.era, .int .i64 a.free, .int .i64 a.alive, .int .i64 a.owner, .int .i64 a.resv, .int .i64 a.deque, .int .i64 a.ring, .int .i64 a.task, .int .i64 a.cell, .int .i64 a.map, .int .i64 a.stack, .int .i64 a.chan, .int .i64 a.node, .int .i64 a.size]
/-- an operation's answer -/
structure OuP where
  val : Int
  is_ : Bool
  err : Int
  point : Int
  Ag : Option Addr
  ng : Nat
  cg : Nat
def OuP.l (u : OuP) : List Value := [.int .i64 u.val, .bool u.is_, .int .i64 u.err, .int .i64 u.point, .slice u.Ag u.ng u.cg]
structure TuP where
  c : CodeP
  la : LaP
  s : SeP
  Af : Option Addr
  nf : Nat
  cf : Nat
  me : Int
  worker : Int
  u : OuP
  sits : Int
def TuP.l (t : TuP) : List Value := [.slice t.c.Af t.c.nf t.c.cf, .slice t.c.Ac t.c.nc t.c.cc, .int .i64 t.c.maps, .int .i64 t.c.stacks, .int .i64 t.c.chans, .int .i64 t.c.main, .int .i64 t.la.seats, .int .i64 t.la.nodes, .int .i64 t.la.buckets, .int .i64 t.la.slots, .int .i64 t.la.tasks, .int .i64 t.la.cells, .int .i64 t.la.maps, .int .i64 t.la.stacks, .int .i64 t.la.chans, .int .i64 t.la.done, .int .i64 t.la.count, .int .i64 t.la.era, .int .i64 t.la.free, .int .i64 t.la.alive, .int .i64 t.la.owner, .int .i64 t.la.resv, .int .i64 t.la.deque, .int .i64 t.la.ring, .int .i64 t.la.task, .int .i64 t.la.cell, .int .i64 t.la.map, .int .i64 t.la.stack, .int .i64 t.la.chan, .int .i64 t.la.node, .int .i64 t.la.size, .int .i64 t.s.phase, .int .i64 t.s.at_, .int .i64 t.s.task, .int .i64 t.s.qk, .int .i64 t.s.qa, .int .i64 t.s.qb, .int .i64 t.s.p0, .int .i64 t.s.p1, .int .i64 t.s.p2, .int .i64 t.s.p3, .slice t.s.Aq t.s.nq t.s.cq, .int .i64 t.s.o0, .int .i64 t.s.o1, .int .i64 t.s.o2, .int .i64 t.s.o3, .slice t.s.Al t.s.nl t.s.cl, .slice t.s.As t.s.ns t.s.cs, .slice t.s.Ag t.s.ng t.s.cg, .int .i64 t.s.hold, .slice t.Af t.nf t.cf, .int .i64 t.me, .int .i64 t.worker, .int .i64 t.u.val, .bool t.u.is_, .int .i64 t.u.err, .int .i64 t.u.point, .slice t.u.Ag t.u.ng t.u.cg, .int .i64 t.sits]
def tE (t : TuP) (bt : Nat) (M : EL) : EL := (.pointer (some ⟨bt, 0, none⟩), .cs 96 t.l) :: M
/-- what a seat looks into -/
structure OpP where
  o0 : Int
  o1 : Int
  o2 : Int
  o3 : Int
def OpP.l (p : OpP) : List Value := [.int .i64 p.o0, .int .i64 p.o1, .int .i64 p.o2, .int .i64 p.o3]
def w64 (x : Int) : Int := IntKind.i64.wrap x
def seekP (n me worker at_ : Int) : OpP :=
  if at_ = 0 then ⟨9, me, 0, 0⟩ else
  if 1 ≤ at_ ∧ at_ ≤ w64 (n - 1) then ⟨10, (w64 (me + at_)).tmod n, 0, 0⟩ else
  if 1 ≤ n ∧ n ≤ at_ ∧ at_ ≤ w64 (w64 (2 * n) - 2) then ⟨16, 0, (w64 (w64 (w64 (me + at_) - n) + 1)).tmod n, worker⟩ else ⟨0, 0, 0, 0⟩
section
variable {wA w0 : World} {X : Nat → Prop} {M : EL} {K : Value → Ctx → Prop} {Z : PanK}
set_option maxHeartbeats 4000000 in
theorem seek_vc {a : LaP} {me worker at_ : Int} (hn : 1 ≤ a.seats ∧ a.seats ≤ 8) (hk : ∀ o0 o1 o2 o3, seekP a.seats me worker at_ = ⟨o0, o1, o2, o3⟩ → K (.agg (OpP.l ⟨o0, o1, o2, o3⟩).toArray) (CtxA wA w0 X M)) : CallVC Tryz.prog (CtxA wA w0 X M) 16 #[.agg a.l.toArray, .int .i64 me, .int .i64 worker, .int .i64 at_] K Z := by
  refine it16 (by rfl) ?_
  intro w2 X2
  conv => whnf
  repeat' (first
    | (refine RetT.drop (K := K) M (by repeat (first | exact List.Sublist.refl _ | refine List.Sublist.cons_cons _ ?_ | refine List.Sublist.cons _ ?_)) (hk _ _ _ _ (by first | (exfalso; omega) | skip; simp only [seekP, w64]; repeat (first | rfl | refine (if_pos (by omega)).trans ?_ | refine (if_neg (by omega)).trans ?_))))
    | (exact fun h => absurd h (by omega))
    | (refine JoinVC.go ?_; conv => whnf)
    | (refine RetA.go ?_; conv => whnf)
    | (refine PanA.go ?_; conv => whnf)
    | (refine And.intro ?_ ?_ <;> conv => whnf)
    | (refine ldA (by repeat (first | exact List.Mem.head _ | refine List.Mem.tail _ ?_)) (tab_ok _ _ (by rfl)) (by rfl) (by rfl) ?_; conv => whnf)
    | (refine ldsA (by repeat (first | exact List.Mem.head _ | refine List.Mem.tail _ ?_)) (tab_ok _ _ (by rfl)) (by rfl) ?_; conv => whnf)
    | (refine stA (tab_ok _ _ (by rfl)) (by repeat (first | exact AtE.here | apply AtE.there)) ?_; conv => whnf)
    | (refine splitB.dec (fun hb => ?_) (fun hb => ?_) <;> conv => whnf)
    | (refine splitB.ndec (fun hb => ?_) (fun hb => ?_) <;> conv => whnf)
    | (refine splitB.eqI (fun hb => ?_) (fun hb => ?_) <;> conv => whnf)
    | (refine splitB.neI (fun hb => ?_) (fun hb => ?_) <;> conv => whnf)
    | (intro r bx; conv => whnf))
end
end Go.Proofs.YtgaopcbjhepklaaGreat
