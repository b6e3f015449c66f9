/- Texts for the law BoundSerial, part 9: no statement of its own, lemmas for the proof; their conditions stand in them. -/
import Derived.Test.YtahhihhfjimppaaBoundSerialM8
/- The document's elision, in a typed heap: turned, values, Less, put. -/
namespace Go.Proofs.Ytahhihhfjimppaa
open Go.RowKit
set_option linter.unusedSimpArgs false
set_option linter.unusedVariables false
set_option maxRecDepth 100000

theorem bs_ints {z : Zp} {G G0 : Gh} {w0 : World} {A : Option Addr} {n c : Nat} (hs : Sl G .int A n c) {t : TypeId} {ps : Array (Nat × Value)} {K : Value → Ctx → Prop} (h : ∀ G' A', G.le G' → Sl G' .ints A' 1 1 → K (.slice A' 1 1) (CtxT z G' G0 w0)) (ht : t = 27 := by rfl) (hps : ps = #[(0, .slice A n c)] := by rfl) : SemVC Try.prog (CtxT z G G0 w0) (Instr.buildSlice t 1 ps) K := by
  subst ht hps
  refine bs_T .ints 1 (ps := [(0, .slice A n c)]) [.slice A n c] (fun w => ?_) (Els.one rfl ⟨A, n, c, rfl, hs⟩) (by omega) h
  obtain ⟨i, hi, h0, h1, h2⟩ := info_parts (info_rt .ints)
  have h1 : i.size = 1 := h1
  have hi : (Try.prog).info? 23 = some i := hi
  have hz : i.zero = some (.slice none 0 0) := h0
  simp [Instr.buildSlice, run_underlying Try.underlying27, sizeOf, typeInfo, hi, zeroValue, hz, h1, newRow, newObj, Sem.run, RT.sl, RT.id, range_map, Instr.fill, Value.cells]
theorem turned_T (z : Zp) (G : Gh) (w : World) (tw : TW z G w) (A : Option Addr) (n c : Nat) (hs : Sl G .content A n c) (hn : n ≤ 1000000) (at_ : Int) (i : Nat) (hat : at_ = i) (hi : i < n) (d : Cn) (hd : d.Ok G) (hm : d.nv ≤ z.m) :
    Calls Try.prog 64 #[.slice A n c, .int .i64 at_, d.val] w (PostT z G w fun z' G' v => z' = z ∧ ∃ A' c', v = .slice A' n c' ∧ Sl G' .content A' n c') := by
  refine go64 (by rfl) (CtxT z G G w) (CtxT.start tw) ?_
  conv => whnf
  refine bs0 .content ?_
  intro G1 A1 l1 s1
  conv => whnf
  refine app_T .content s1 (hs.mono l1) n (by omega) (by omega) ?_
  intro G2 A2 c2 l2 s2
  conv => whnf
  refine idx_T .content s2 i hat hi ?_
  intro b off e
  conv => whnf
  refine sto_content e ((hd.mono l1).mono l2) hm ?_
  conv => whnf
  intro w' hw'
  exact ⟨z, _, _, rfl, hw'.1, hw'.2, rfl, A2, c2, rfl, s2⟩
theorem values_T (z : Zp) (G : Gh) (w : World) (tw : TW z G w) (A : Option Addr) (n c : Nat) (hs : Sl G .content A n c) (hn : n ≤ 1000000) :
    Calls Try.prog 65 #[.slice A n c] w (PostT z G w (SameT z G isI)) := by
  refine go65 (by rfl) (CtxT z G G w) (CtxT.start tw) ?_
  conv => whnf
  refine LoopVC.on (X := Int × Nat) (fun (s, i) => [(0, .v (.slice A n c)), (3, .v (.int .i64 s)), (4, .v (.int .i64 i))]) (fun _ => []) (fun _ => CtxT z G G w) (fun (_, i) => i ≤ n) (fun (_, i) => n - i) (0, 0) (Nat.zero_le _) ⟨rfl, rfl, rfl, trivial⟩ trivial ?_
  rintro ⟨s, i⟩ r (hi : i ≤ n)
  have stp : IntKind.i64.wrap ((i : Int) + 1) = ((i + 1 : Nat) : Int) := wnat i (by omega)
  conv => whnf
  refine splitB.dec (fun h => ?_) (fun h => ?_)
  · conv => whnf
    refine idx_T .content hs i rfl (by omega) ?_
    intro b off e
    conv => whnf
    refine ld_vals e ?_
    intro A1 n1 c1 s1
    conv => whnf
    exact rnd (_, i + 1) (by show n - (i + 1) < n - i; omega) (by show i + 1 ≤ n; omega) ⟨rfl, rfl, by show _ = _; rw [← stp]; rfl, trivial⟩ trivial
  · conv => whnf
    intro w' hw'
    exact ⟨z, G, _, rfl, hw'.1, hw'.2, rfl, rfl, _, rfl⟩
theorem less_T (z : Zp) (G : Gh) (w : World) (tw : TW z G w) (A : Option Addr) (n c : Nat) (hs : Sl G .int A n c) (hn : n ≤ 1000000) (A' : Option Addr) (n' c' : Nat) (hs' : Sl G .int A' n' c') :
    Calls Try.prog 55 #[.slice A n c, .slice A' n' c'] w (PostT z G w (SameT z G isB)) := by
  refine go55 (by rfl) (CtxT z G G w) (CtxT.start tw) ?_
  conv => whnf
  refine LoopVC.on (X := Nat) (fun i => [(0, .v (.slice A n c)), (1, .v (.slice A' n' c')), (5, .v (.int .i64 i))]) (fun _ => []) (fun _ => CtxT z G G w) (fun i => i ≤ n) (fun i => n - i) 0 (Nat.zero_le _) ⟨rfl, rfl, rfl, trivial⟩ trivial ?_
  rintro i r hi
  have stp : IntKind.i64.wrap ((i : Int) + 1) = ((i + 1 : Nat) : Int) := wnat i (by omega)
  conv => whnf
  repeat' (first
    | (refine JoinVC.go ?_; conv => whnf)
    | (refine splitB.dec (fun h => ?_) (fun h => ?_) <;> first | (exfalso; omega) | conv => whnf)
    | (refine splitB.ne (fun h => ?_) (fun h => ?_) <;> first | (exfalso; omega) | conv => whnf)
    | (refine idx_T .int hs i rfl (by omega) ?_; intro b1 off1 e1; conv => whnf)
    | (refine idx_T .int hs' i rfl (by omega) ?_; intro b2 off2 e2; conv => whnf)
    | (refine ld_int e1 ?_; intro x1; conv => whnf)
    | (refine ld_int e2 ?_; intro x2; conv => whnf)
    | (intro w' hw'; exact ⟨z, G, _, rfl, hw'.1, hw'.2, rfl, rfl, _, rfl⟩)
    | exact rnd (i + 1) (by show n - (i + 1) < n - i; omega) (by show i + 1 ≤ n; omega) ⟨rfl, rfl, by show _ = _; rw [← stp]; rfl, trivial⟩ trivial
    | (apply And.intro <;> conv => whnf))
theorem put_T (z : Zp) (G : Gh) (w : World) (tw : TW z G w) (A : Option Addr) (n c : Nat) (hl : Sl G .ints A n c) (hn : n ≤ 1000000) (Ap : Option Addr) (np cp : Nat) (hp : Sl G .int Ap np cp) (hnp : np ≤ 1000000) :
    Calls Try.prog 47 #[.slice A n c, .slice Ap np cp] w (PostT z G w fun z' G' v => z' = z ∧ ∃ A' m c', v = .slice A' m c' ∧ Sl G' .ints A' m c' ∧ m ≤ n + 1) := by
  refine go47 (by rfl) (CtxT z G G w) (CtxT.start tw) ?_
  conv => whnf
  refine LoopVC.on (X := Gh × (Option Addr × Nat × Nat) × Bool × Nat) (fun (_, (B, m, d), b, i) => [(0, .v (.slice A n c)), (1, .v (.slice Ap np cp)), (5, .v (.slice B m d)), (6, .v (.bool b)), (7, .v (.int .i64 i))]) (fun _ => []) (fun (G1, _, _, _) => CtxT z G1 G w) (fun (G1, (B, m, d), b, i) => Sl G1 .ints A n c ∧ Sl G1 .int Ap np cp ∧ Sl G1 .ints B m d ∧ m = i + b.toNat ∧ i ≤ n) (fun (_, _, _, i) => n - i) (G, (none, 0, 0), false, 0) ⟨hl, hp, Sl.nil _ _, rfl, Nat.zero_le _⟩ ⟨rfl, rfl, rfl, rfl, rfl, trivial⟩ trivial ?_
  clear hl hp
  rintro ⟨G1, ⟨B, m, d⟩, bb, i⟩ r ⟨hl, hp, hb, hm, hi⟩
  have hb1 : bb.toNat ≤ 1 := by cases bb <;> simp
  have stp : IntKind.i64.wrap ((i : Int) + 1) = ((i + 1 : Nat) : Int) := wnat i (by omega)
  cases bb with
  | true =>
    have hm : m = i + 1 := hm
    conv => whnf
    repeat' (first
      | (refine JoinVC.go ?_; conv => whnf)
      | (refine splitB.dec (fun h => ?_) (fun h => ?_) <;> first | (exfalso; omega) | conv => whnf)
      | (refine idx_T .ints hl i rfl (by omega) ?_; intro b1 off1 e1; conv => whnf)
      | (refine ld_ints e1 ?_; intro A1 n1 c1 s1; conv => whnf)
      | (refine bs_ints s1 ?_; intro G2 A2 l2 s2; replace hl := hl.mono l2; replace hp := hp.mono l2; replace hb := hb.mono l2; conv => whnf)
      | (refine app_T .ints hb s2 (m + 1) (by omega) (by omega) ?_; intro G3 A3 c3 l3 s3; replace hl := hl.mono l3; replace hp := hp.mono l3; conv => whnf)
      | (intro w' hw'; exact ⟨z, _, _, rfl, hw'.1, hw'.2, rfl, B, m, d, rfl, hb, by omega⟩)
      | exact rnd (_, (A3, m + 1, c3), true, i + 1) (by show n - (i + 1) < n - i; omega) ⟨hl, hp, s3, by show m + 1 = i + 1 + 1; omega, by show i + 1 ≤ n; omega⟩ ⟨rfl, rfl, rfl, rfl, by show _ = _; rw [← stp]; rfl, trivial⟩ trivial)
  | false =>
    have hm : m = i := hm
    conv => whnf
    repeat' (first
      | (refine JoinVC.go ?_; conv => whnf)
      | (refine splitB.dec (fun h => ?_) (fun h => ?_) <;> first | (exfalso; omega) | conv => whnf)
      | (refine idx_T .ints hl i rfl (by omega) ?_; intro b1 off1 e1; conv => whnf)
      | (refine ld_ints e1 ?_; intro A1 n1 c1 s1; conv => whnf)
      | (refine CallVC.same [.slice Ap np cp, .slice A1 n1 c1] en55 isB (fun w' tw' => less_T z _ w' tw' _ _ _ hp hnp _ _ _ s1) ?_; rintro v ⟨b, rfl⟩; conv => whnf)
      | (refine splitB.intro (fun h => ?_) (fun h => ?_) <;> conv => whnf)
      | (refine bs_ints s1 ?_; intro G2 A2 l2 s2; replace hl := hl.mono l2; replace hp := hp.mono l2; (try replace hb := hb.mono l2); (try replace s3 := s3.mono l2); conv => whnf)
      | (refine bs_ints hp ?_; intro G2 A2 l2 s2; replace hl := hl.mono l2; replace hp := hp.mono l2; (try replace hb := hb.mono l2); conv => whnf)
      | (refine app_T .ints hb s2 (m + 1) (by omega) (by omega) ?_; intro G3 A3 c3 l3 s3; replace hl := hl.mono l3; replace hp := hp.mono l3; clear hb; conv => whnf)
      | (refine app_T .ints s3 s2 (m + 1 + 1) (by omega) (by omega) ?_; intro G4 A4 c4 l4 s4; replace hl := hl.mono l4; replace hp := hp.mono l4; conv => whnf)
      | (intro w' hw'; exact ⟨z, _, _, rfl, hw'.1, hw'.2, rfl, A3, m + 1, c3, rfl, s3, by omega⟩)
      | exact rnd (_, (A4, m + 1 + 1, c4), true, i + 1) (by show n - (i + 1) < n - i; omega) ⟨hl, hp, s4, by show m + 1 + 1 = i + 1 + 1; omega, by show i + 1 ≤ n; omega⟩ ⟨rfl, rfl, rfl, rfl, by show _ = _; rw [← stp]; rfl, trivial⟩ trivial
      | exact rnd (_, (A3, m + 1, c3), false, i + 1) (by show n - (i + 1) < n - i; omega) ⟨hl, hp, s3, by show m + 1 = i + 1 + 0; omega, by show i + 1 ≤ n; omega⟩ ⟨rfl, rfl, rfl, rfl, by show _ = _; rw [← stp]; rfl, trivial⟩ trivial)
end Go.Proofs.Ytahhihhfjimppaa
/- The document's elision, in a typed heap: called. -/
namespace Go.Proofs.Ytahhihhfjimppaa
open Go.RowKit
set_option linter.unusedSimpArgs false
set_option linter.unusedVariables false
set_option maxRecDepth 100000

/-- what there is: the elision so far, and how many strands were named -/
structure Wd where
  err : Int
  value : Int
  Ac : Option Addr
  nc : Nat
  cc : Nat
  Am : Option Addr
  nm : Nat
  cm : Nat
  As : Option Addr
  ns : Nat
  cs : Nat
  Ah : Option Addr
  nh : Nat
  ch : Nat
  Au : Option Addr
  nu : Nat
  cu : Nat
  Ap : Option Addr
  np : Nat
  cp : Nat
  steps : Int
  tasks : Int
  Af : Option Addr
  nf : Nat
  cf : Nat
  many : Int
def Wd.val (d : Wd) : Value := .agg #[.int .i64 d.err, .int .i64 d.value, .slice d.Ac d.nc d.cc, .slice d.Am d.nm d.cm, .slice d.As d.ns d.cs, .slice d.Ah d.nh d.ch, .slice d.Au d.nu d.cu, .slice d.Ap d.np d.cp, .int .i64 d.steps, .int .i64 d.tasks, .slice d.Af d.nf d.cf, .int .i64 d.many]
structure Wd.Ok (d : Wd) (G : Gh) : Prop where
  c : Sl G .int d.Ac d.nc d.cc
  m : Sl G .content d.Am d.nm d.cm
  s : Sl G .content d.As d.ns d.cs
  h : Sl G .content d.Ah d.nh d.ch
  u : Sl G .use d.Au d.nu d.cu
  p : Sl G .split d.Ap d.np d.cp
  f : Sl G .ints d.Af d.nf d.cf
theorem Wd.Ok.mono {d : Wd} {G G' : Gh} (h : d.Ok G) (hl : G.le G') : d.Ok G' := ⟨h.c.mono hl, h.m.mono hl, h.s.mono hl, h.h.mono hl, h.u.mono hl, h.p.mono hl, h.f.mono hl⟩
/-- a use -/
structure Us where
  strand : Int
  A : Option Addr
  n : Nat
  c : Nat
  thing : Int
  obj : Int
  o0 : Int
  o1 : Int
  o2 : Int
  o3 : Int
  v : Int
  is : Bool
def Us.val (u : Us) : Value := .agg #[.int .i64 u.strand, .slice u.A u.n u.c, .int .i64 u.thing, .int .i64 u.obj, .int .i64 u.o0, .int .i64 u.o1, .int .i64 u.o2, .int .i64 u.o3, .int .i64 u.v, .bool u.is]
theorem of_B (k : Int) (w : World) : Calls Try.prog 62 #[.int .i64 k] w (PostB w fun v => ∃ n, v = .int .i64 n ∧ ((k = 1 ∨ k = 2 ∨ k = 3) → n = 1) ∧ ((k = 4 ∨ k = 5) → n = 2) ∧ ((k = 6 ∨ k = 7) → n = 3)) := by
  refine go62 (by rfl) (CtxB w) (CtxB.start w) ?_
  conv => whnf
  repeat' (first
    | (refine JoinVC.go ?_; conv => whnf)
    | (refine splitB.eq (fun h => ?_) (fun h => ?_) <;> first | (exfalso; omega) | conv => whnf)
    | (intro w' hw'; exact ⟨_, rfl, hw', _, rfl, by omega, by omega, by omega⟩))
/-- what a call turns -/
structure CalledF (d d' : Wd) (u u' : Us) : Prop where
  err : d'.err = d.err ∨ d'.err = 8
  nc : d'.nc = d.nc
  nm : d'.nm = d.nm
  ns : d'.ns = d.ns
  nh : d'.nh = d.nh
  nu : d'.nu = d.nu
  np : d'.np = d.np
  nf : d'.nf = d.nf
  tasks : d'.tasks = d.tasks
  many : d'.many = d.many
  strand : u'.strand = u.strand
  A : u'.A = u.A
  n : u'.n = u.n
  c : u'.c = u.c
/-- an operation's object is there -/
def Obj (d : Wd) (o0 o1 : Int) : Prop := (o0 = 1 ∨ o0 = 2 ∨ o0 = 3) ∧ 0 ≤ o1 ∧ o1 < d.nm ∨ (o0 = 4 ∨ o0 = 5) ∧ 0 ≤ o1 ∧ o1 < d.ns ∨ (o0 = 6 ∨ o0 = 7) ∧ 0 ≤ o1 ∧ o1 < d.nh
def up1 (z : Zp) : Zp := ⟨z.s, z.m + 1⟩
theorem up1_le (z : Zp) : z.le (up1 z) := ⟨id, Nat.le_succ _⟩
set_option maxHeartbeats 2000000 in
theorem called_T (z : Zp) (G : Gh) (w : World) (tw : TW z G w) (hz : z.m ≤ 900000) (d : Wd) (hd : d.Ok G) (u : Us) (hb : d.nm ≤ 1000 ∧ d.ns ≤ 1000 ∧ d.nh ≤ 1000) (ho : Obj d u.o0 u.o1) :
    Calls Try.prog 52 #[d.val, u.val] w (PostT z G w fun z' G' v => z' = up1 z ∧ ∃ (d' : Wd) (u' : Us), v = .tuple #[d'.val, u'.val] ∧ d'.Ok G' ∧ CalledF d d' u u') := by
  have h0 : 0 ≤ u.o1 := by rcases ho with h | h | h <;> exact h.2.1
  refine go52 (by rfl) (CtxT z G G w) (CtxT.start tw) ?_
  conv => whnf
  refine CallVC.readT [.int .i64 u.o0] en62 (fun v => ∃ n, v = .int .i64 n ∧ ((u.o0 = 1 ∨ u.o0 = 2 ∨ u.o0 = 3) → n = 1) ∧ ((u.o0 = 4 ∨ u.o0 = 5) → n = 2) ∧ ((u.o0 = 6 ∨ u.o0 = 7) → n = 3)) (fun w' _ _ => of_B u.o0 w') ?_
  rintro v ⟨th, rfl, t1, t2, t3⟩
  rcases ho with ⟨hk, _, hx⟩ | ⟨hk, _, hx⟩ | ⟨hk, _, hx⟩
  · obtain rfl := t1 hk
    clear t1 t2 t3
    have hidx : u.o1.toNat < d.nm := toNat_lt (by omega) (by omega)
    have hide : u.o1 = (u.o1.toNat : Int) := toNat_eq (by omega)
    conv => whnf
    repeat' (first
      | (refine JoinVC.go ?_; conv => whnf)
      | (refine idx_T .content hd.m u.o1.toNat hide hidx ?_; intro b1 off1 e1; conv => whnf)
      | (refine ld_content e1 ?_; intro k Ak nk ck Av nv cv hct hnv; conv => whnf)
      | (refine CallVC.ofT [Cn.val ⟨k, Ak, nk, ck, Av, nv, cv⟩, .agg #[.int .i64 u.o0, .int .i64 u.o1, .int .i64 u.o2, .int .i64 u.o3]] en63 (DoΦ z ⟨k, Ak, nk, ck, Av, nv, cv⟩) (fun w' tw' _ => do_T z _ w' tw' ⟨k, Ak, nk, ck, Av, nv, cv⟩ hct (by show nv ≤ 1000000; omega) u.o0 u.o1 u.o2 u.o3) ?_
         rintro z' G2 v l2 ⟨rfl, c', x, bb, rfl, hc', hn'⟩
         replace hd := hd.mono l2
         conv => whnf)
      | (refine CallVC.ofT [.slice d.Am d.nm d.cm, .int .i64 u.o1, c'.val] en64 (fun z' G' v => z' = up1 _ ∧ ∃ A' c', v = .slice A' d.nm c' ∧ Sl G' .content A' d.nm c') (fun w' tw' _ => turned_T (up1 _) _ w' (tw'.weak (up1_le _)) _ _ _ hd.m (by omega) u.o1 u.o1.toNat hide hidx c' hc' (by show c'.nv ≤ _ + 1; have : c'.nv ≤ nv + 1 := hn'; omega)) ?_
         rintro z3 G3 v l3 ⟨rfl, A3, c3, rfl, s3⟩
         replace hd := hd.mono l3
         conv => whnf)
      | (refine splitB.dec (fun h => ?_) (fun h => ?_) <;> conv => whnf)
      | (refine splitB.eq (fun h => ?_) (fun h => ?_) <;> first | (exfalso; omega) | conv => whnf)
      | (refine CallVC.same [.slice A3 d.nm c3] en65 isI (fun w' tw' => values_T _ _ w' tw' _ _ _ s3 (by omega)) ?_; rintro v ⟨y, rfl⟩; conv => whnf)
      | (refine CallVC.same [.slice d.As d.ns d.cs] en65 isI (fun w' tw' => values_T _ _ w' tw' _ _ _ hd.s (by omega)) ?_; rintro v ⟨y, rfl⟩; conv => whnf)
      | (refine CallVC.same [.slice d.Ah d.nh d.ch] en65 isI (fun w' tw' => values_T _ _ w' tw' _ _ _ hd.h (by omega)) ?_; rintro v ⟨y, rfl⟩; conv => whnf)
      | (intro w' hw'; exact ⟨_, _, _, rfl, hw'.1, hw'.2, rfl, { d with Am := A3, cm := c3, err := 8 }, { u with thing := 1, obj := u.o1, v := x, is := bb }, rfl, ⟨hd.c, s3, hd.s, hd.h, hd.u, hd.p, hd.f⟩, ⟨.inr rfl, rfl, rfl, rfl, rfl, rfl, rfl, rfl, rfl, rfl, rfl, rfl, rfl, rfl⟩⟩)
      | (intro w' hw'; exact ⟨_, _, _, rfl, hw'.1, hw'.2, rfl, { d with Am := A3, cm := c3, err := d.err }, { u with thing := 1, obj := u.o1, v := x, is := bb }, rfl, ⟨hd.c, s3, hd.s, hd.h, hd.u, hd.p, hd.f⟩, ⟨.inl rfl, rfl, rfl, rfl, rfl, rfl, rfl, rfl, rfl, rfl, rfl, rfl, rfl, rfl⟩⟩)
      | (apply And.intro <;> conv => whnf))
  · obtain rfl := t2 hk
    clear t1 t2 t3
    have hidx : u.o1.toNat < d.ns := toNat_lt (by omega) (by omega)
    have hide : u.o1 = (u.o1.toNat : Int) := toNat_eq (by omega)
    conv => whnf
    repeat' (first
      | (refine JoinVC.go ?_; conv => whnf)
      | (refine idx_T .content hd.s u.o1.toNat hide hidx ?_; intro b1 off1 e1; conv => whnf)
      | (refine ld_content e1 ?_; intro k Ak nk ck Av nv cv hct hnv; conv => whnf)
      | (refine CallVC.ofT [Cn.val ⟨k, Ak, nk, ck, Av, nv, cv⟩, .agg #[.int .i64 u.o0, .int .i64 u.o1, .int .i64 u.o2, .int .i64 u.o3]] en63 (DoΦ z ⟨k, Ak, nk, ck, Av, nv, cv⟩) (fun w' tw' _ => do_T z _ w' tw' ⟨k, Ak, nk, ck, Av, nv, cv⟩ hct (by show nv ≤ 1000000; omega) u.o0 u.o1 u.o2 u.o3) ?_
         rintro z' G2 v l2 ⟨rfl, c', x, bb, rfl, hc', hn'⟩
         replace hd := hd.mono l2
         conv => whnf)
      | (refine CallVC.ofT [.slice d.As d.ns d.cs, .int .i64 u.o1, c'.val] en64 (fun z' G' v => z' = up1 _ ∧ ∃ A' c', v = .slice A' d.ns c' ∧ Sl G' .content A' d.ns c') (fun w' tw' _ => turned_T (up1 _) _ w' (tw'.weak (up1_le _)) _ _ _ hd.s (by omega) u.o1 u.o1.toNat hide hidx c' hc' (by show c'.nv ≤ _ + 1; have : c'.nv ≤ nv + 1 := hn'; omega)) ?_
         rintro z3 G3 v l3 ⟨rfl, A3, c3, rfl, s3⟩
         replace hd := hd.mono l3
         conv => whnf)
      | (refine splitB.dec (fun h => ?_) (fun h => ?_) <;> conv => whnf)
      | (refine splitB.eq (fun h => ?_) (fun h => ?_) <;> first | (exfalso; omega) | conv => whnf)
      | (refine CallVC.same [.slice A3 d.ns c3] en65 isI (fun w' tw' => values_T _ _ w' tw' _ _ _ s3 (by omega)) ?_; rintro v ⟨y, rfl⟩; conv => whnf)
      | (refine CallVC.same [.slice d.Am d.nm d.cm] en65 isI (fun w' tw' => values_T _ _ w' tw' _ _ _ hd.m (by omega)) ?_; rintro v ⟨y, rfl⟩; conv => whnf)
      | (refine CallVC.same [.slice d.Ah d.nh d.ch] en65 isI (fun w' tw' => values_T _ _ w' tw' _ _ _ hd.h (by omega)) ?_; rintro v ⟨y, rfl⟩; conv => whnf)
      | (intro w' hw'; exact ⟨_, _, _, rfl, hw'.1, hw'.2, rfl, { d with As := A3, cs := c3, err := 8 }, { u with thing := 2, obj := u.o1, v := x, is := bb }, rfl, ⟨hd.c, hd.m, s3, hd.h, hd.u, hd.p, hd.f⟩, ⟨.inr rfl, rfl, rfl, rfl, rfl, rfl, rfl, rfl, rfl, rfl, rfl, rfl, rfl, rfl⟩⟩)
      | (intro w' hw'; exact ⟨_, _, _, rfl, hw'.1, hw'.2, rfl, { d with As := A3, cs := c3, err := d.err }, { u with thing := 2, obj := u.o1, v := x, is := bb }, rfl, ⟨hd.c, hd.m, s3, hd.h, hd.u, hd.p, hd.f⟩, ⟨.inl rfl, rfl, rfl, rfl, rfl, rfl, rfl, rfl, rfl, rfl, rfl, rfl, rfl, rfl⟩⟩)
      | (apply And.intro <;> conv => whnf))
  · obtain rfl := t3 hk
    clear t1 t2 t3
    have hidx : u.o1.toNat < d.nh := toNat_lt (by omega) (by omega)
    have hide : u.o1 = (u.o1.toNat : Int) := toNat_eq (by omega)
    conv => whnf
    repeat' (first
      | (refine JoinVC.go ?_; conv => whnf)
      | (refine idx_T .content hd.h u.o1.toNat hide hidx ?_; intro b1 off1 e1; conv => whnf)
      | (refine ld_content e1 ?_; intro k Ak nk ck Av nv cv hct hnv; conv => whnf)
      | (refine CallVC.ofT [Cn.val ⟨k, Ak, nk, ck, Av, nv, cv⟩, .agg #[.int .i64 u.o0, .int .i64 u.o1, .int .i64 u.o2, .int .i64 u.o3]] en63 (DoΦ z ⟨k, Ak, nk, ck, Av, nv, cv⟩) (fun w' tw' _ => do_T z _ w' tw' ⟨k, Ak, nk, ck, Av, nv, cv⟩ hct (by show nv ≤ 1000000; omega) u.o0 u.o1 u.o2 u.o3) ?_
         rintro z' G2 v l2 ⟨rfl, c', x, bb, rfl, hc', hn'⟩
         replace hd := hd.mono l2
         conv => whnf)
      | (refine CallVC.ofT [.slice d.Ah d.nh d.ch, .int .i64 u.o1, c'.val] en64 (fun z' G' v => z' = up1 _ ∧ ∃ A' c', v = .slice A' d.nh c' ∧ Sl G' .content A' d.nh c') (fun w' tw' _ => turned_T (up1 _) _ w' (tw'.weak (up1_le _)) _ _ _ hd.h (by omega) u.o1 u.o1.toNat hide hidx c' hc' (by show c'.nv ≤ _ + 1; have : c'.nv ≤ nv + 1 := hn'; omega)) ?_
         rintro z3 G3 v l3 ⟨rfl, A3, c3, rfl, s3⟩
         replace hd := hd.mono l3
         conv => whnf)
      | (refine splitB.dec (fun h => ?_) (fun h => ?_) <;> conv => whnf)
      | (refine splitB.eq (fun h => ?_) (fun h => ?_) <;> first | (exfalso; omega) | conv => whnf)
      | (refine CallVC.same [.slice A3 d.nh c3] en65 isI (fun w' tw' => values_T _ _ w' tw' _ _ _ s3 (by omega)) ?_; rintro v ⟨y, rfl⟩; conv => whnf)
      | (refine CallVC.same [.slice d.Am d.nm d.cm] en65 isI (fun w' tw' => values_T _ _ w' tw' _ _ _ hd.m (by omega)) ?_; rintro v ⟨y, rfl⟩; conv => whnf)
      | (refine CallVC.same [.slice d.As d.ns d.cs] en65 isI (fun w' tw' => values_T _ _ w' tw' _ _ _ hd.s (by omega)) ?_; rintro v ⟨y, rfl⟩; conv => whnf)
      | (intro w' hw'; exact ⟨_, _, _, rfl, hw'.1, hw'.2, rfl, { d with Ah := A3, ch := c3, err := 8 }, { u with thing := 3, obj := u.o1, v := x, is := bb }, rfl, ⟨hd.c, hd.m, hd.s, s3, hd.u, hd.p, hd.f⟩, ⟨.inr rfl, rfl, rfl, rfl, rfl, rfl, rfl, rfl, rfl, rfl, rfl, rfl, rfl, rfl⟩⟩)
      | (intro w' hw'; exact ⟨_, _, _, rfl, hw'.1, hw'.2, rfl, { d with Ah := A3, ch := c3, err := d.err }, { u with thing := 3, obj := u.o1, v := x, is := bb }, rfl, ⟨hd.c, hd.m, hd.s, s3, hd.u, hd.p, hd.f⟩, ⟨.inl rfl, rfl, rfl, rfl, rfl, rfl, rfl, rfl, rfl, rfl, rfl, rfl, rfl, rfl⟩⟩)
      | (apply And.intro <;> conv => whnf))
end Go.Proofs.Ytahhihhfjimppaa
/- The document's elision, in a typed heap: used. -/
namespace Go.Proofs.Ytahhihhfjimppaa
open Go.RowKit
set_option linter.unusedSimpArgs false
set_option linter.unusedVariables false
set_option maxRecDepth 100000

structure UsedF (z z' : Zp) (d d' : Wd) : Prop where
  zs : z'.s = z.s
  zm : z'.m ≤ z.m + 1
  err : d'.err = d.err ∨ d'.err = 8
  nc : d'.nc = d.nc
  nm : d'.nm = d.nm
  ns : d'.ns = d.ns
  nh : d'.nh = d.nh
  nu : d'.nu = d.nu + 1
  np : d'.np = d.np
  nf : d'.nf = d.nf
  tasks : d'.tasks = d.tasks
  many : d'.many = d.many
theorem els_use {z : Zp} {G : Gh} (u : Us) (hz : z.s = true → u.strand = 0) (hu : Sl G .int u.A u.n u.c) : Els z G .use 1 [.int .i64 u.strand, .slice u.A u.n u.c, .int .i64 u.thing, .int .i64 u.obj, .int .i64 u.o0, .int .i64 u.o1, .int .i64 u.o2, .int .i64 u.o3, .int .i64 u.v, .bool u.is] :=
  Els.one rfl ⟨u.strand, u.A, u.n, u.c, rfl, hz, rfl, hu, ⟨_, rfl⟩, ⟨_, rfl⟩, ⟨_, rfl⟩, ⟨_, rfl⟩, ⟨_, rfl⟩, ⟨_, rfl⟩, ⟨_, rfl⟩, ⟨_, rfl⟩⟩
set_option maxHeartbeats 2000000 in
theorem used_T (z : Zp) (G : Gh) (w : World) (tw : TW z G w) (hz : z.m ≤ 900000) (d : Wd) (hd : d.Ok G) (hb : d.nm ≤ 1000 ∧ d.ns ≤ 1000 ∧ d.nh ≤ 1000) (hc : d.nc ≤ 1000) (hnu : d.nu ≤ 10000000) (k : Ak) (hk : 1 ≤ k.kind ∧ k.kind ≤ 3) (hk1 : k.kind = 1 ∨ k.kind = 2 → 0 ≤ k.a ∧ k.a < d.nc) (hk3 : k.kind = 3 → Obj d k.o0 k.o1) (u : Us) (hzs : z.s = true → u.strand = 0) (hu : Sl G .int u.A u.n u.c) :
    Calls Try.prog 45 #[d.val, k.val, u.val] w (PostT z G w fun z' G' v => ∃ (d' : Wd) (A : Option Addr) (n c : Nat), v = .tuple #[d'.val, .slice A n c] ∧ d'.Ok G' ∧ UsedF z z' d d' ∧ Sl G' .int A n c ∧ n ≤ 1) := by
  refine go45 (by rfl) (CtxT z G G w) (CtxT.start tw) ?_
  conv => whnf
  refine splitB.eq (fun h1 => ?_) (fun h1 => ?_)
  · have hr := hk1 (.inl h1)
    have hidx : k.a.toNat < d.nc := toNat_lt (by omega) (by omega)
    have hide : k.a = (k.a.toNat : Int) := toNat_eq (by omega)
    clear hk1 hk3
    conv => whnf
    refine idx_T .int hd.c k.a.toNat hide hidx ?_
    intro b1 off1 e1
    conv => whnf
    refine ld_int e1 ?_
    intro x1
    conv => whnf
    refine bsn [x1] (by simp) ?_
    intro G2 A2 l2 s2
    replace hd := hd.mono l2
    replace hu := hu.mono l2
    conv => whnf
    refine bs_agg .use #[.int .i64 u.strand, .slice u.A u.n u.c, .int .i64 u.thing, .int .i64 k.a, .int .i64 u.o0, .int .i64 u.o1, .int .i64 u.o2, .int .i64 u.o3, .int .i64 x1, .bool u.is] rfl (els_use { u with obj := k.a, v := x1 } hzs hu) ?_
    intro G3 A3 l3 s3
    replace hd := hd.mono l3
    conv => whnf
    refine app_T .use hd.u s3 (d.nu + 1) (by omega) (by omega) ?_
    intro G4 A4 c4 l4 s4
    replace hd := hd.mono l4
    conv => whnf
    intro w' hw'
    exact ⟨z, _, _, rfl, hw'.1, hw'.2, { d with Au := A4, nu := d.nu + 1, cu := c4 }, A2, 1, 1, rfl, ⟨hd.c, hd.m, hd.s, hd.h, s4, hd.p, hd.f⟩, ⟨rfl, Nat.le_succ _, .inl rfl, rfl, rfl, rfl, rfl, rfl, rfl, rfl, rfl, rfl⟩, (s2.mono l3).mono l4, Nat.le_refl _⟩
  · conv => whnf
    refine splitB.eq (fun h2 => ?_) (fun h2 => ?_)
    · have hr := hk1 (.inr h2)
      have hidx : k.a.toNat < d.nc := toNat_lt (by omega) (by omega)
      have hide : k.a = (k.a.toNat : Int) := toNat_eq (by omega)
      clear hk1 hk3
      conv => whnf
      refine bs0 .int ?_
      intro G1 A1 l1 s1
      replace hd := hd.mono l1
      replace hu := hu.mono l1
      conv => whnf
      refine app_T .int s1 hd.c d.nc (by omega) (by omega) ?_
      intro G2 A2 c2 l2 s2
      replace hd := hd.mono l2
      replace hu := hu.mono l2
      conv => whnf
      refine idx_T .int s2 k.a.toNat hide hidx ?_
      intro b1 off1 e1
      conv => whnf
      refine sto_int e1 ?_
      conv => whnf
      refine bs_agg .use #[.int .i64 u.strand, .slice u.A u.n u.c, .int .i64 u.thing, .int .i64 k.a, .int .i64 1, .int .i64 0, .int .i64 k.b, .int .i64 0, .int .i64 u.v, .bool u.is] rfl (els_use { u with obj := k.a, o0 := 1, o1 := 0, o2 := k.b, o3 := 0 } hzs hu) ?_
      intro G3 A3 l3 s3
      replace hd := hd.mono l3
      conv => whnf
      refine app_T .use hd.u s3 (d.nu + 1) (by omega) (by omega) ?_
      intro G4 A4 c4 l4 s4
      replace hd := hd.mono l4
      conv => whnf
      intro w' hw'
      exact ⟨z, _, _, rfl, hw'.1, hw'.2, { d with Ac := A2, cc := c2, Au := A4, nu := d.nu + 1, cu := c4 }, none, 0, 0, rfl, ⟨(s2.mono l3).mono l4, hd.m, hd.s, hd.h, s4, hd.p, hd.f⟩, ⟨rfl, Nat.le_succ _, .inl rfl, rfl, rfl, rfl, rfl, rfl, rfl, rfl, rfl, rfl⟩, Sl.nil _ _, Nat.zero_le _⟩
    · have ho := hk3 (by omega)
      clear hk1 hk3
      conv => whnf
      refine CallVC.ofT [d.val, Us.val { u with obj := k.a, o0 := k.o0, o1 := k.o1, o2 := k.o2, o3 := k.o3 }] en52 _ (fun w' tw' _ => called_T z G w' tw' hz d hd { u with obj := k.a, o0 := k.o0, o1 := k.o1, o2 := k.o2, o3 := k.o3 } hb ho) ?_
      rintro z' G1 v l1 ⟨rfl, d', u', rfl, hd', F⟩
      have hu' : Sl G1 .int u'.A u'.n u'.c := by rw [F.A, F.n, F.c]; exact hu.mono l1
      have hnu' : d'.nu = d.nu := F.nu
      conv => whnf
      refine CallVC.readT [.agg #[.int .i64 u'.o0, .int .i64 u'.o1, .int .i64 u'.o2, .int .i64 u'.o3], .int .i64 u'.v, .bool u'.is] en53 isI (fun w' _ _ => value_B _ _ _ _ _ _ w') ?_
      rintro v ⟨y, rfl⟩
      conv => whnf
      refine bsn [y] (by simp) ?_
      intro G2 A2 l2 s2
      replace hd' := hd'.mono l2
      replace hu' := hu'.mono l2
      conv => whnf
      refine bs_agg .use #[.int .i64 u'.strand, .slice u'.A u'.n u'.c, .int .i64 u'.thing, .int .i64 u'.obj, .int .i64 u'.o0, .int .i64 u'.o1, .int .i64 u'.o2, .int .i64 u'.o3, .int .i64 u'.v, .bool u'.is] rfl (els_use u' (fun e => by rw [F.strand]; exact hzs e) hu') ?_
      intro G3 A3 l3 s3
      replace hd' := hd'.mono l3
      conv => whnf
      refine app_T .use hd'.u s3 (d'.nu + 1) (by omega) (by omega) ?_
      intro G4 A4 c4 l4 s4
      replace hd' := hd'.mono l4
      conv => whnf
      intro w' hw'
      exact ⟨up1 z, _, _, rfl, hw'.1, hw'.2, { d' with Au := A4, nu := d'.nu + 1, cu := c4 }, A2, 1, 1, rfl, ⟨hd'.c, hd'.m, hd'.s, hd'.h, s4, hd'.p, hd'.f⟩, ⟨rfl, Nat.le_refl _, F.err, F.nc, F.nm, F.ns, F.nh, by show d'.nu + 1 = _; rw [hnu'], F.np, F.nf, F.tasks, F.many⟩, (s2.mono l3).mono l4, Nat.le_refl _⟩
end Go.Proofs.Ytahhihhfjimppaa
/- The document's elision, in a typed heap: forked. -/
namespace Go.Proofs.Ytahhihhfjimppaa
open Go.RowKit
set_option linter.unusedSimpArgs false
set_option linter.unusedVariables false
set_option maxRecDepth 100000

/-- bounds, by how many tasks have begun -/
structure Bnd (z : Zp) (d : Wd) (t : Nat) : Prop where
  tk : d.tasks = t
  t64 : t ≤ 65
  zm : z.m ≤ 5000 * t
  nu : d.nu ≤ 5000 * t
  np : d.np ≤ 15000 * t
  nf : d.nf ≤ t
/-- what does not turn -/
structure SameN (d d' : Wd) : Prop where
  nc : d'.nc = d.nc
  nm : d'.nm = d.nm
  ns : d'.ns = d.ns
  nh : d'.nh = d.nh
/-- sizes -/
structure Szs (c : Cd) (d : Wd) : Prop where
  nc : d.nc = c.nc
  nm : (d.nm : Int) = c.maps
  ns : (d.ns : Int) = c.stacks
  nh : (d.nh : Int) = c.chans
  b0 : c.nc ≤ 16
  b1 : c.maps ≤ 8
  b2 : c.stacks ≤ 8
  b3 : c.chans ≤ 8
theorem Szs.same {c : Cd} {d d' : Wd} (h : Szs c d) (e : SameN d d') : Szs c d' := ⟨by rw [e.nc, h.nc], by rw [e.nm, h.nm], by rw [e.ns, h.ns], by rw [e.nh, h.nh], h.b0, h.b1, h.b2, h.b3⟩
structure Bods (c : Cd) (B : Nat → Bd) : Prop where
  ins : ∀ k, k < c.nf → (B k).n ≤ 400
  loc : ∀ k, k < c.nf → (B k).locals ≤ 16
/-- how all has grown -/
structure Grw (k : Nat) (z z' : Zp) (d d' : Wd) (t t' : Nat) : Prop where
  tk : d'.tasks = t'
  t64 : t' ≤ 65
  zm : z'.m + 5000 * t ≤ z.m + 5000 * t'
  nu : d'.nu + 5000 * t ≤ d.nu + 5000 * t'
  np : d'.np + 15000 * t ≤ d.np + k + 15000 * t'
  nf : d'.nf + t ≤ d.nf + t'
/-- a task's end -/
structure TaskF (z z' : Zp) (d d' : Wd) (t t' : Nat) : Prop where
  b : Grw 0 z z' d d' t t'
  n : SameN d d'
  lt : t < t'
  zs : z'.s = true → z.s = true
  one : t' = t + 1 → (z.s = true → z'.s = true) ∧ d'.np = d.np
def TaskΦ (z : Zp) (d : Wd) (t : Nat) (z' : Zp) (G' : Gh) (v : Value) : Prop := ∃ (d' : Wd) (t' : Nat) (x at' : Int), v = .tuple #[d'.val, .int .i64 x, .int .i64 at'] ∧ d'.Ok G' ∧ TaskF z z' d d' t t'
def TaskC (t : Nat) : Prop := ∀ (z : Zp) (G : Gh) (w : World), TW z G w → ∀ (c : Cd) (B : Nat → Bd), c.Is B G w → Bods c B → ∀ (d : Wd), d.Ok G → Bnd z d t → Szs c d → ∀ (fn at_ : Int) (Aa : Option Addr) (na ca : Nat), Sl G .int Aa na ca → na ≤ 100 → ∀ (Ap : Option Addr) (np cp : Nat), Sl G .int Ap np cp → np ≤ t → (z.s = true → at_ = 0) →
  Calls Try.prog 37 #[d.val, c.val, .int .i64 fn, .slice Aa na ca, .slice Ap np cp, .int .i64 at_] w (PostT z G w (TaskΦ z d t))
/-- behind a fork -/
structure ForkF (z z' : Zp) (d d' : Wd) (t t' : Nat) (on : Int) : Prop where
  b : Grw 2 z z' d d' t t'
  n : SameN d d'
  ok : d'.err = 10 ∧ t' = t ∧ z' = z ∧ d'.np = d.np ∧ on = 0 ∨ t < t' ∧ z'.s = false
def ForkΦ (z : Zp) (d : Wd) (t : Nat) (z' : Zp) (G' : Gh) (v : Value) : Prop := ∃ (d' : Wd) (t' : Nat) (x on block : Int), v = .tuple #[d'.val, .int .i64 x, .int .i64 on, .int .i64 block] ∧ d'.Ok G' ∧ ForkF z z' d d' t t' on
theorem els_split {z : Zp} {G : Gh} (a b c d e : Int) : Els z G .split 1 [.int .i64 a, .int .i64 b, .int .i64 c, .int .i64 d, .int .i64 e] := Els.one rfl ⟨a, b, c, d, e, rfl, rfl, rfl, rfl, rfl⟩
theorem bs_split {z : Zp} {G G0 : Gh} {w0 : World} {a b c d e : Int} {t : TypeId} {ps : Array (Nat × Value)} {K : Value → Ctx → Prop} (h : ∀ G' A, G.le G' → Sl G' .split A 1 1 → K (.slice A 1 1) (CtxT z G' G0 w0)) (ht : t = 26 := by rfl) (hps : ps = #[(0, .agg #[.int .i64 a, .int .i64 b, .int .i64 c, .int .i64 d, .int .i64 e])] := by rfl) : SemVC Try.prog (CtxT z G G0 w0) (Instr.buildSlice t 1 ps) K :=
  bs_agg .split #[.int .i64 a, .int .i64 b, .int .i64 c, .int .i64 d, .int .i64 e] rfl (els_split a b c d e) h ht hps
theorem forked_T (t : Nat) (ih : t < 64 → TaskC t) (z : Zp) (G : Gh) (w : World) (tw : TW z G w) (c : Cd) (B : Nat → Bd) (hc : c.Is B G w) (hB : Bods c B) (d : Wd) (hd : d.Ok G) (b : Bnd z d t) (hnp : d.np + 1 ≤ 15000 * t) (sz : Szs c d) (f : Fm) (hf : f.Ok G) (hfp : f.np + 1 ≤ t) (k : Ak) (hk : Sl G .int k.A k.n k.c) (hkn : k.n ≤ 100) (at_ block : Int) :
    Calls Try.prog 46 #[d.val, c.val, f.val, k.val, .int .i64 at_, .int .i64 block] w (PostT z G w (ForkΦ z d t)) := by
  refine go46 (by rfl) (CtxT z G G w) (CtxT.start tw) ?_
  conv => whnf
  refine splitB.dec (fun h => ?_) (fun h => ?_)
  · conv => whnf
    intro w' hw'
    exact ⟨z, _, _, rfl, hw'.1, hw'.2, { d with err := 10 }, t, 0, 0, 0, rfl, ⟨hd.c, hd.m, hd.s, hd.h, hd.u, hd.p, hd.f⟩, ⟨⟨b.tk, b.t64, Nat.le_refl _, Nat.le_refl _, by show d.np + _ ≤ d.np + 2 + _; omega, Nat.le_refl _⟩, ⟨rfl, rfl, rfl, rfl⟩, .inl ⟨rfl, rfl, rfl, rfl, rfl⟩⟩⟩
  have ht : t < 64 := by have := b.tk; omega
  conv => whnf
  refine splitB.eq (fun h0 => ?_) (fun h0 => ?_)
  all_goals
    conv => whnf
    refine bs_split ?_
    intro G1 A1 l1 s1
    replace hd := hd.mono l1
    replace hf := hf.mono l1
    replace hk := hk.mono l1
    conv => whnf
    refine app_T .split hd.p s1 (d.np + 1) (by omega) (by have := b.t64; omega) ?_
    intro G2 A2 c2 l2 s2
    replace hd := hd.mono l2
    replace hf := hf.mono l2
    replace hk := hk.mono l2
    conv => whnf
    repeat' (first
      | (refine And.intro ?_ ?_ <;> conv => whnf)
      | (refine CallVC.ofT [f.val] en54 (fun z' G' v => z' = z ∧ ∃ A' c', v = .slice A' (f.np + 1) c' ∧ Sl G' .int A' (f.np + 1) c') (fun w' tw' _ => child_T z _ w' tw' f hf.p (by have := b.t64; omega)) ?_
         rintro z5 G5 v l5 ⟨rfl, A5, c5, rfl, s5⟩
         replace hd := hd.mono l5
         replace hk := hk.mono l5
         conv => whnf)
      | (refine CallVC.ofT [Wd.val { d with Ap := A2, np := d.np + 1, cp := c2, many := IntKind.i64.wrap (d.many + 2) }, c.val, .int .i64 k.a, .slice k.A k.n k.c, .slice A5 (f.np + 1) c5, .int .i64 d.many] en37 (TaskΦ ⟨false, z5.m⟩ { d with Ap := A2, np := d.np + 1, cp := c2, many := IntKind.i64.wrap (d.many + 2) } t) (fun w' tw' ex' => ih ht ⟨false, z5.m⟩ _ w' (tw'.weak ⟨(fun e => by cases e), Nat.le_refl _⟩) c B (hc.ex ex') hB { d with Ap := A2, np := d.np + 1, cp := c2, many := IntKind.i64.wrap (d.many + 2) } ⟨hd.c, hd.m, hd.s, hd.h, hd.u, s2.mono l5, hd.f⟩ ⟨b.tk, b.t64, b.zm, b.nu, by show d.np + 1 ≤ _; omega, b.nf⟩ (sz.same ⟨rfl, rfl, rfl, rfl⟩) k.a d.many k.A k.n k.c hk hkn A5 (f.np + 1) c5 s5 hfp (fun e => by cases e)) ?_
         rintro z6 G6 v l6 ⟨d6, t6, x6, at6, rfl, hd6, F6⟩
         conv => whnf)
      | (refine CallVC.ofT [Wd.val { d with Ap := A2, np := d.np + 1, cp := c2, many := IntKind.i64.wrap (IntKind.i64.wrap (d.many + 2) + 1) }, c.val, .int .i64 k.a, .slice k.A k.n k.c, .slice A5 (f.np + 1) c5, .int .i64 d.many] en37 (TaskΦ ⟨false, z5.m⟩ { d with Ap := A2, np := d.np + 1, cp := c2, many := IntKind.i64.wrap (IntKind.i64.wrap (d.many + 2) + 1) } t) (fun w' tw' ex' => ih ht ⟨false, z5.m⟩ _ w' (tw'.weak ⟨(fun e => by cases e), Nat.le_refl _⟩) c B (hc.ex ex') hB { d with Ap := A2, np := d.np + 1, cp := c2, many := IntKind.i64.wrap (IntKind.i64.wrap (d.many + 2) + 1) } ⟨hd.c, hd.m, hd.s, hd.h, hd.u, s2.mono l5, hd.f⟩ ⟨b.tk, b.t64, b.zm, b.nu, by show d.np + 1 ≤ _; omega, b.nf⟩ (sz.same ⟨rfl, rfl, rfl, rfl⟩) k.a d.many k.A k.n k.c hk hkn A5 (f.np + 1) c5 s5 hfp (fun e => by cases e)) ?_
         rintro z6 G6 v l6 ⟨d6, t6, x6, at6, rfl, hd6, F6⟩
         conv => whnf)
      | (refine bs_split ?_
         intro G7 A7 l7 s7
         replace hd6 := hd6.mono l7
         conv => whnf)
      | (refine app_T .split hd6.p s7 (d6.np + 1) (by omega) (by have h1 : d6.np + 15000 * t ≤ d.np + 1 + 0 + 15000 * t6 := F6.b.np; have h2 := F6.b.t64; omega) ?_
         intro G8 A8 c8 l8 s8
         replace hd6 := hd6.mono l8
         conv => whnf)
      | (intro w' hw'
         refine ⟨z6, _, _, rfl, hw'.1, hw'.2, { d6 with Ap := A8, np := d6.np + 1, cp := c8 }, t6, x6, _, _, rfl, ⟨hd6.c, hd6.m, hd6.s, hd6.h, hd6.u, s8, hd6.f⟩, ⟨⟨F6.b.tk, F6.b.t64, F6.b.zm, F6.b.nu, ?_, F6.b.nf⟩, ⟨F6.n.nc, F6.n.nm, F6.n.ns, F6.n.nh⟩, .inr ⟨F6.lt, ?_⟩⟩⟩
         · have h1 := F6.b.np
           show d6.np + 1 + _ ≤ d.np + 2 + _
           have h2 : d6.np + 15000 * t ≤ d.np + 1 + 0 + 15000 * t6 := h1
           omega
         · cases e : z6.s with
           | false => rfl
           | true => exact absurd (F6.zs e) (by simp)))
end Go.Proofs.Ytahhihhfjimppaa
/- The document's elision, in a typed heap: task. -/
namespace Go.Proofs.Ytahhihhfjimppaa
open Go.RowKit
set_option linter.unusedSimpArgs false
set_option linter.unusedVariables false
set_option maxRecDepth 100000

def Wd.l (d : Wd) : List Value := [.int .i64 d.err, .int .i64 d.value, .slice d.Ac d.nc d.cc, .slice d.Am d.nm d.cm, .slice d.As d.ns d.cs, .slice d.Ah d.nh d.ch, .slice d.Au d.nu d.cu, .slice d.Ap d.np d.cp, .int .i64 d.steps, .int .i64 d.tasks, .slice d.Af d.nf d.cf, .int .i64 d.many]
def Wd.zero : Wd := ⟨0, 0, none, 0, 0, none, 0, 0, none, 0, 0, none, 0, 0, none, 0, 0, none, 0, 0, 0, 0, none, 0, 0, 0⟩
/-- where a task's loop is -/
structure TkX where
  G : Gh
  z : Zp
  d : Wd
  f : Fm
  t1 : Nat
  i : Nat
  at_ : Int
  block : Int
  A : Option Addr
  n : Nat
  c : Nat
def TkX.μ (x : TkX) : Nat := if x.d.err = 0 then 1 + 2 * (2000 - x.f.spent).toNat + (if x.f.nk = 0 then 0 else 1) else 0
structure TkFr (x : TkX) (np : Nat) : Prop where
  np : x.f.np = np
  nl : x.f.nl ≤ 100
  ns : x.f.ns ≤ 101
  nk : x.f.nk ≤ x.i
structure TkI (z : Zp) (G : Gh) (d : Wd) (t np : Nat) (x : TkX) : Prop where
  le : G.le x.G
  hd : x.d.Ok x.G
  hf : x.f.Ok x.G
  hk : Sl x.G .int x.A x.n x.c
  n : x.n ≤ x.i
  lt : t + 1 ≤ x.t1
  t64 : x.t1 ≤ 65
  tk : x.d.tasks = x.t1
  i : x.i + x.μ ≤ 4010
  sn : SameN d x.d
  zm : x.z.m + 5000 * (t + 1) ≤ z.m + 5000 * x.t1 + x.i
  nu : x.d.nu + 5000 * (t + 1) ≤ d.nu + 5000 * x.t1 + x.i
  npb : x.d.np + 15000 * (t + 1) ≤ d.np + 15000 * x.t1 + 3 * x.i
  nf : x.d.nf + (t + 1) ≤ d.nf + x.t1
  zt : x.z.s = true → x.t1 = t + 1 ∧ z.s = true
  za : x.z.s = true → x.at_ = 0
  one : x.t1 = t + 1 → (z.s = true → x.z.s = true) ∧ x.d.np = d.np ∧ (x.d.err = 0 → x.f.nk = 0)
  fr : x.d.err = 0 → TkFr x np
theorem tkI_mk {z : Zp} {G : Gh} {d : Wd} {t np : Nat} {G' : Gh} {z' : Zp} {d' : Wd} {e : Int} {f' : Fm} {t1 i : Nat} {at_ block : Int} {A : Option Addr} {n c : Nat} (le : G.le G') (hd : d'.Ok G') (hf : f'.Ok G') (hk : Sl G' .int A n c) (hn : n ≤ i) (lt : t + 1 ≤ t1) (t64 : t1 ≤ 65) (tk : d'.tasks = t1)
    (hi : i + TkX.μ ⟨G', z', { d' with err := e }, f', t1, i, at_, block, A, n, c⟩ ≤ 4010) (sn : SameN d d') (zm : z'.m + 5000 * (t + 1) ≤ z.m + 5000 * t1 + i) (nu : d'.nu + 5000 * (t + 1) ≤ d.nu + 5000 * t1 + i) (npb : d'.np + 15000 * (t + 1) ≤ d.np + 15000 * t1 + 3 * i) (nf : d'.nf + (t + 1) ≤ d.nf + t1) (zt : z'.s = true → t1 = t + 1 ∧ z.s = true) (za : z'.s = true → at_ = 0)
    (one : t1 = t + 1 → (z.s = true → z'.s = true) ∧ d'.np = d.np ∧ (e = 0 → f'.nk = 0)) (fr : e = 0 → f'.np = np ∧ f'.nl ≤ 100 ∧ f'.ns ≤ 101 ∧ f'.nk ≤ i) : TkI z G d t np ⟨G', z', { d' with err := e }, f', t1, i, at_, block, A, n, c⟩ :=
  ⟨le, ⟨hd.c, hd.m, hd.s, hd.h, hd.u, hd.p, hd.f⟩, hf, hk, hn, lt, t64, tk, hi, ⟨sn.nc, sn.nm, sn.ns, sn.nh⟩, zm, nu, npb, nf, zt, za, one, fun h => ⟨(fr h).1, (fr h).2.1, (fr h).2.2.1, (fr h).2.2.2⟩⟩
theorem tk_mu {x y : TkX} (hx : x.d.err = 0) (h : y.d.err = 0 → (x.f.spent < y.f.spent ∧ y.f.spent ≤ 2000) ∨ (x.f.spent ≤ y.f.spent ∧ x.f.nk ≠ 0 ∧ y.f.nk = 0)) : y.μ < x.μ := by
  unfold TkX.μ
  rw [if_pos hx]
  by_cases hy : y.d.err = 0
  · rw [if_pos hy]
    rcases h hy with ⟨h1, h2⟩ | ⟨h1, h2, h3⟩
    · split <;> split <;> omega
    · rw [if_neg h2, if_pos h3]; omega
  · rw [if_neg hy]; omega
theorem tk_i {i a b m : Nat} (h : a < b) (hm : i + b ≤ m) : i + 1 + a ≤ m := by omega
theorem obj_of {c : Cd} {d : Wd} (sz : Szs c d) {o0 o1 : Int} (h : 1 ≤ o0 ∧ o0 ≤ 7 ∧ 0 ≤ o1 ∧ o1 < c.many o0) : Obj d o0 o1 := by
  obtain ⟨h1, h2, h3, h4⟩ := h
  unfold Cd.many at h4
  have e1 := sz.nm
  have e2 := sz.ns
  have e3 := sz.nh
  by_cases a : o0 = 1 ∨ o0 = 2 ∨ o0 = 3
  · rw [if_pos a] at h4; exact .inl ⟨a, h3, by omega⟩
  · rw [if_neg a] at h4
    by_cases b : o0 = 4 ∨ o0 = 5
    · rw [if_pos b] at h4; exact .inr (.inl ⟨b, h3, by omega⟩)
    · rw [if_neg b] at h4
      have cc : o0 = 6 ∨ o0 = 7 := by omega
      rw [if_pos cc] at h4
      exact .inr (.inr ⟨cc, h3, by omega⟩)
set_option maxHeartbeats 8000000 in
theorem task_step (t : Nat) (ht : t ≤ 64) (ih : ∀ t1, t < t1 → t1 < 64 → TaskC t1) : TaskC t := by
  intro z G w tw c B hc hB d hd b sz fn at_ Aa na ca ha hna Ap np cp hp hnp hzs
  have htk : IntKind.i64.wrap (d.tasks + 1) = ((t + 1 : Nat) : Int) := by rw [b.tk]; exact wnat t (by omega)
  refine go37 (by rfl) (CtxT z G G w) (CtxT.start tw) ?_
  conv => whnf
  refine CallVC.ofT [c.val, .int .i64 fn, .slice Aa na ca, .int .i64 (IntKind.i64.wrap (d.tasks + 1)), .slice Ap np cp] en43 (fun z' G' v => z' = z ∧ ∃ (f : Fm) (e : Int), v = .tuple #[f.val, .int .i64 e] ∧ f.Ok G' ∧ (e = 0 → StartF c B f fn (IntKind.i64.wrap (d.tasks + 1)) np)) (fun w' tw' ex' => start_T z G w' tw' c B (hc.ex ex') hB.loc fn _ Aa na ca ha (by omega) Ap np cp hp (by omega)) ?_
  rintro z1 G1 v l1 ⟨hz1, f, e, rfl, hf, hst⟩
  subst hz1
  replace hd := hd.mono l1
  conv => whnf
  refine LoopVC.on (X := TkX) (fun x => [(4, .v (.slice Ap np cp)), (5, .v (.int .i64 x.at_)), (6, .p 6 0), (7, .p 7 0), (12, .p 12 0), (13, .v (.int .i64 0)), (14, .v (.int .i64 0)), (15, .p 15 0), (17, .v (.slice x.A x.n x.c)), (18, .v (.int .i64 x.block))]) (fun x => [(6, 92, x.d.l), (7, 54, c.l), (12, 92, Wd.zero.l), (15, 107, x.f.l)]) (fun x => CtxT x.z x.G G w) (fun x => TkI z1 G d t np x) TkX.μ ⟨G1, z1, { d with tasks := IntKind.i64.wrap (d.tasks + 1), err := e }, f, t + 1, 0, at_, -1, none, 0, 0⟩ ?_ ⟨rfl, rfl, rfl, rfl, rfl, rfl, rfl, rfl, rfl, rfl, trivial⟩ ⟨rfl, rfl, rfl, rfl, trivial⟩ ?_
  · refine ⟨l1, ⟨hd.c, hd.m, hd.s, hd.h, hd.u, hd.p, hd.f⟩, hf, Sl.nil _ _, Nat.le_refl _, Nat.le_refl _, by show t + 1 ≤ 65; omega, htk, ?_, ⟨rfl, rfl, rfl, rfl⟩, Nat.le_refl _, Nat.le_refl _, Nat.le_refl _, Nat.le_refl _, fun e => ⟨rfl, e⟩, hzs, fun _ => ⟨id, rfl, fun he => (hst he).nk⟩, fun he => ⟨(hst he).np, (hst he).nl, ?_, ?_⟩⟩
    · show 0 + TkX.μ _ ≤ 4010
      unfold TkX.μ
      split
      · rename_i he
        have h1 := (hst he).sp
        have h2 : f.spent = 0 := h1
        show 0 + (1 + 2 * (2000 - f.spent).toNat + _) ≤ 4010
        rw [h2]
        split <;> omega
      · omega
    · have : f.ns = 0 := (hst he).ns
      show f.ns ≤ 101; omega
    · have : f.nk = 0 := (hst he).nk
      show f.nk ≤ 0; omega
  clear hst hf hd htk
  rintro ⟨G2, z2, d2, f2, t2, i, at2, bl2, A2, n2, c2⟩ r I
  have le2 : G.le G2 := I.le
  have hd2 : d2.Ok G2 := I.hd
  have hf2 : f2.Ok G2 := I.hf
  have hk2 : Sl G2 .int A2 n2 c2 := I.hk
  have hn2 : n2 ≤ i := I.n
  have lt2 : t + 1 ≤ t2 := I.lt
  have t642 : t2 ≤ 65 := I.t64
  have tk2 : d2.tasks = t2 := I.tk
  have sn2 : SameN d d2 := I.sn
  have zm2 : z2.m + 5000 * (t + 1) ≤ z1.m + 5000 * t2 + i := I.zm
  have nu2 : d2.nu + 5000 * (t + 1) ≤ d.nu + 5000 * t2 + i := I.nu
  have np2 : d2.np + 15000 * (t + 1) ≤ d.np + 15000 * t2 + 3 * i := I.npb
  have nf2 : d2.nf + (t + 1) ≤ d.nf + t2 := I.nf
  have zt2 : z2.s = true → t2 = t + 1 ∧ z1.s = true := I.zt
  have za2 : z2.s = true → at2 = 0 := I.za
  have one2 : t2 = t + 1 → (z1.s = true → z2.s = true) ∧ d2.np = d.np ∧ (d2.err = 0 → f2.nk = 0) := I.one
  have fr2 := I.fr
  have im := I.i
  conv => whnf
  refine splitB.eq (fun he => ?_) (fun he => ?_)
  · have he : d2.err = 0 := he
    have F2 : TkFr ⟨G2, z2, d2, f2, t2, i, at2, bl2, A2, n2, c2⟩ np := fr2 he
    have g1 : f2.np = np := F2.np
    have g2 : f2.nl ≤ 100 := F2.nl
    have g3 : f2.ns ≤ 101 := F2.ns
    have g4 : f2.nk ≤ i := F2.nk
    have im' : i + (1 + 2 * (2000 - f2.spent).toNat + if f2.nk = 0 then 0 else 1) ≤ 4010 := by
      have h1 : TkX.μ ⟨G2, z2, d2, f2, t2, i, at2, bl2, A2, n2, c2⟩ = 1 + 2 * (2000 - f2.spent).toNat + (if f2.nk = 0 then 0 else 1) := by
        unfold TkX.μ
        exact if_pos he
      rw [← h1]; exact im
    have hi : i ≤ 4009 := by omega
    clear fr2 F2 I
    conv => whnf
    refine CallVC.ofT [c.val, f2.val] en44 (NextΦ c z2 f2) (fun w' tw' ex' => next_T z2 G2 w' tw' c B (hc.ex ex') hB.ins f2 hf2 (by omega) (by omega) (by omega)) ?_
    rintro z3 G3 v l3 ⟨hz3, f3, k, g, rfl, hf3, hka, hnx⟩
    subst hz3
    replace hd2 := hd2.mono l3
    replace hf2 := hf2.mono l3
    replace hk2 := hk2.mono l3
    conv => whnf
    refine splitB.ne (fun hg => ?_) (fun hg => ?_)
    · conv => whnf
      intro w' hw'
      exact ⟨z3, _, _, rfl, hw'.1, hw'.2, { d2 with err := g }, t2, 0, 0, rfl, ⟨hd2.c, hd2.m, hd2.s, hd2.h, hd2.u, hd2.p, hd2.f⟩, ⟨⟨tk2, t642, by omega, by show d2.nu + _ ≤ _; omega, by show d2.np + _ ≤ _; omega, by show d2.nf + _ ≤ _; omega⟩, ⟨sn2.nc, sn2.nm, sn2.ns, sn2.nh⟩, by omega, fun h => (zt2 h).2, fun h => ⟨(one2 h).1, (one2 h).2.1⟩⟩⟩
    have X := hnx hg
    clear hnx
    have x1 : f3.np = np := X.np.trans g1
    have x2 : f3.nl ≤ 100 := by rw [X.nl]; exact g2
    have x3 : f3.nk = f2.nk := X.nk
    have x4 := X.ns
    have x5 := X.s0
    have x6 := X.s1
    have x7 := X.k0
    have szd := sz.same sn2
    conv => whnf
    refine splitB.dec (fun k3 => ?_) (fun k3 => ?_)
    · have hsp : f2.spent < f3.spent := by rcases X.sp with ⟨h1, _⟩ | ⟨_, h2⟩ <;> omega
      conv => whnf
      refine CallVC.ofT [d2.val, k.val, Us.val ⟨at2, Ap, np, cp, 0, 0, 0, 0, 0, 0, 0, false⟩] en45 _ (fun w' tw' ex' => used_T z3 G3 w' tw' (by have := b.zm; omega) d2 hd2 (by have := szd.nm; have := szd.ns; have := szd.nh; have := szd.b1; have := szd.b2; have := szd.b3; omega) (by have := szd.nc; have := szd.b0; omega) (by have := b.nu; omega) k ⟨by omega, k3⟩ (fun h => by rw [szd.nc]; exact X.k1 h) (fun h => obj_of szd (X.k3 h)) ⟨at2, Ap, np, cp, 0, 0, 0, 0, 0, 0, 0, false⟩ za2 ((hp.mono le2).mono l3)) ?_
      rintro z4 G4 v l4 ⟨d4, A4, n4, c4, rfl, hd4, U, hv4, hn4⟩
      replace hk2 := hk2.mono l4
      replace hf3 := hf3.mono l4
      conv => whnf
      refine splitB.eq (fun h => absurd h (by omega)) (fun _ => ?_)
      conv => whnf
      refine splitB.eq (fun h => absurd h (by omega)) (fun _ => ?_)
      conv => whnf
      refine splitB.eq (fun h => absurd h (by omega)) (fun _ => ?_)
      conv => whnf
      refine splitB.eq (fun he4 => ?_) (fun he4 => ?_)
      · conv => whnf
        refine CallVC.ofT [f3.val, k.val, .slice A4 n4 c4] en48 _ (fun w' tw' _ => told_T z4 G4 w' tw' f3 hf3 (by omega) (by omega) (by omega) k A4 n4 c4 hv4 (by omega)) ?_
        rintro z5 G5 v l5 ⟨hz5, f5, e5, rfl, hf5, T⟩
        subst hz5
        replace hd4 := hd4.mono l5
        replace hk2 := hk2.mono l5
        have y1 := T.nk4 (by omega)
        have y2 := T.ns
        have y3 : f5.spent = f3.spent := T.sp
        conv => whnf
        have hμ : TkX.μ ⟨G5, z5, { d4 with err := e5 }, f5, t2, i + 1, at2, bl2, A2, n2, c2⟩ < TkX.μ ⟨G2, z3, d2, f2, t2, i, at2, bl2, A2, n2, c2⟩ := tk_mu he (fun _ => .inl ⟨by show f2.spent < f5.spent; omega, by show f5.spent ≤ 2000; omega⟩)
        refine rnd ⟨G5, z5, { d4 with err := e5 }, f5, t2, i + 1, at2, bl2, A2, n2, c2⟩ hμ ?_ ⟨rfl, rfl, rfl, rfl, rfl, rfl, rfl, rfl, rfl, rfl, trivial⟩ ⟨rfl, rfl, rfl, rfl, trivial⟩
        exact tkI_mk (d' := d4) (e := e5) (((le2.trans l3).trans l4).trans l5) hd4 hf5 hk2 (by omega) lt2 t642 (U.tasks.trans tk2) (tk_i hμ im) ⟨U.nc.trans sn2.nc, U.nm.trans sn2.nm, U.ns.trans sn2.ns, U.nh.trans sn2.nh⟩ (by have := U.zm; omega) (by have := U.nu; omega) (by have := U.np; omega) (by have := U.nf; omega) (fun h => zt2 (U.zs.symm.trans h)) (fun h => za2 (U.zs.symm.trans h)) (fun h => ⟨fun h1 => U.zs.trans ((one2 h).1 h1), U.np.trans (one2 h).2.1, fun _ => by (have := (one2 h).2.2 he; omega)⟩) (fun _ => ⟨T.np.trans x1, by (rw [T.nl]; exact x2), by omega, by omega⟩)
      · conv => whnf
        have hμ : TkX.μ ⟨G4, z4, d4, f3, t2, i + 1, at2, bl2, A2, n2, c2⟩ < TkX.μ ⟨G2, z3, d2, f2, t2, i, at2, bl2, A2, n2, c2⟩ := tk_mu he (fun h => absurd h he4)
        refine rnd ⟨G4, z4, d4, f3, t2, i + 1, at2, bl2, A2, n2, c2⟩ hμ ?_ ⟨rfl, rfl, rfl, rfl, rfl, rfl, rfl, rfl, rfl, rfl, trivial⟩ ⟨rfl, rfl, rfl, rfl, trivial⟩
        exact tkI_mk (d' := d4) (e := d4.err) ((le2.trans l3).trans l4) hd4 hf3 hk2 (by omega) lt2 t642 (U.tasks.trans tk2) (tk_i hμ im) ⟨U.nc.trans sn2.nc, U.nm.trans sn2.nm, U.ns.trans sn2.ns, U.nh.trans sn2.nh⟩ (by have := U.zm; omega) (by have := U.nu; omega) (by have := U.np; omega) (by have := U.nf; omega) (fun h => zt2 (U.zs.symm.trans h)) (fun h => za2 (U.zs.symm.trans h)) (fun h => ⟨fun h1 => U.zs.trans ((one2 h).1 h1), U.np.trans (one2 h).2.1, fun h4 => absurd h4 he4⟩) (fun h4 => absurd h4 he4)
    · conv => whnf
      refine splitB.eq (fun k4 => ?_) (fun k4 => ?_)
      · have hsp : f2.spent < f3.spent := by rcases X.sp with ⟨h1, _⟩ | ⟨_, h2⟩ <;> omega
        have hkn := X.k4 k4
        conv => whnf
        refine bsn [IntKind.i64.wrap (d2.tasks + 1)] (by simp) ?_
        intro G4 A4 l4 s4
        replace hd2 := hd2.mono l4
        replace hk2 := hk2.mono l4
        replace hf3 := hf3.mono l4
        replace hka := hka.mono l4
        conv => whnf
        refine CallVC.ofT [d2.val, c.val, f3.val, k.val, .int .i64 at2, .int .i64 bl2] en46 (ForkΦ z3 d2 t2) (fun w' tw' ex' => forked_T t2 (fun h => ih t2 (by omega) h) z3 G4 w' tw' c B (hc.ex ex') hB d2 hd2 ⟨tk2, t642, by have := b.zm; omega, by have := b.nu; omega, by have := b.np; omega, by have := b.nf; omega⟩ (by have := b.np; omega) szd f3 hf3 (by omega) k hka hkn at2 bl2) ?_
        rintro z5 G5 v l5 ⟨d5, t5, val, on, bl5, rfl, hd5, K5⟩
        replace hk2 := hk2.mono l5
        replace hf3 := hf3.mono l5
        replace s4 := s4.mono l5
        conv => whnf
        refine bsn [val] (by simp) ?_
        intro G6 A6 l6 s6
        replace hd5 := hd5.mono l6
        replace hk2 := hk2.mono l6
        replace hf3 := hf3.mono l6
        replace s4 := s4.mono l6
        conv => whnf
        refine app_T .int hk2 s6 (n2 + 1) rfl (by omega) ?_
        intro G7 A7 c7 l7 s7
        replace hd5 := hd5.mono l7
        replace hf3 := hf3.mono l7
        replace s4 := s4.mono l7
        conv => whnf
        refine splitB.eq (fun h => absurd h (by omega)) (fun _ => ?_)
        conv => whnf
        refine splitB.eq (fun h => absurd h (by omega)) (fun _ => ?_)
        have q1 := K5.b.zm
        have q2 := K5.b.nu
        have q3 := K5.b.np
        have q4 := K5.b.nf
        have q5 : t2 ≤ t5 := by rcases K5.ok with ⟨_, h, _⟩ | ⟨h, _⟩ <;> omega
        have sn5 : SameN d d5 := ⟨K5.n.nc.trans sn2.nc, K5.n.nm.trans sn2.nm, K5.n.ns.trans sn2.ns, K5.n.nh.trans sn2.nh⟩
        have le7 : G.le G7 := ((((le2.trans l3).trans l4).trans l5).trans l6).trans l7
        have zt5 : z5.s = true → t5 = t + 1 ∧ z1.s = true := fun h => by
          rcases K5.ok with ⟨_, h1, h2, _⟩ | ⟨_, h1⟩
          · rw [h2] at h; rw [h1]; exact zt2 h
          · rw [h1] at h; cases h
        have za5 : z5.s = true → on = 0 := fun h => by
          rcases K5.ok with ⟨_, _, _, _, h1⟩ | ⟨_, h1⟩
          · exact h1
          · rw [h1] at h; cases h
        have one5 : t5 = t + 1 → d5.err = 10 ∧ (z1.s = true → z5.s = true) ∧ d5.np = d.np := fun h => by
          rcases K5.ok with ⟨h0, h1, h2, h3, _⟩ | ⟨h1, _⟩
          · rw [h2, h3]
            have := one2 (h1.symm.trans h)
            exact ⟨h0, this.1, this.2.1⟩
          · omega
        conv => whnf
        refine splitB.eq (fun he5 => ?_) (fun he5 => ?_)
        · have he5 : d5.err = 0 := he5
          conv => whnf
          refine CallVC.ofT [f3.val, k.val, .slice A4 1 1] en48 _ (fun w' tw' _ => told_T z5 G7 w' tw' f3 hf3 (by omega) (by omega) (by omega) k A4 1 1 s4 (by omega)) ?_
          rintro z8 G8 v l8 ⟨hz8, f8, e8, rfl, hf8, T⟩
          subst hz8
          replace hd5 := hd5.mono l8
          replace s7 := s7.mono l8
          have y1 := T.nk
          have y2 := T.ns
          have y3 : f8.spent = f3.spent := T.sp
          conv => whnf
          have hμ : TkX.μ ⟨G8, z8, { d5 with err := e8 }, f8, t5, i + 1, on, bl5, A7, n2 + 1, c7⟩ < TkX.μ ⟨G2, z3, d2, f2, t2, i, at2, bl2, A2, n2, c2⟩ := tk_mu he (fun _ => .inl ⟨by show f2.spent < f8.spent; omega, by show f8.spent ≤ 2000; omega⟩)
          refine rnd ⟨G8, z8, { d5 with err := e8 }, f8, t5, i + 1, on, bl5, A7, n2 + 1, c7⟩ hμ ?_ ⟨rfl, rfl, rfl, rfl, rfl, rfl, rfl, rfl, rfl, rfl, trivial⟩ ⟨rfl, rfl, rfl, rfl, trivial⟩
          exact tkI_mk (d' := d5) (e := e8) (le7.trans l8) hd5 hf8 s7 (by omega) (by omega) K5.b.t64 K5.b.tk (tk_i hμ im) sn5 (by omega) (by omega) (by omega) (by omega) zt5 za5 (fun h => absurd (one5 h).1 (by omega)) (fun _ => ⟨T.np.trans x1, by (rw [T.nl]; exact x2), by omega, by omega⟩)
        · conv => whnf
          have hμ : TkX.μ ⟨G7, z5, d5, f3, t5, i + 1, on, bl5, A7, n2 + 1, c7⟩ < TkX.μ ⟨G2, z3, d2, f2, t2, i, at2, bl2, A2, n2, c2⟩ := tk_mu he (fun h => absurd h he5)
          refine rnd ⟨G7, z5, d5, f3, t5, i + 1, on, bl5, A7, n2 + 1, c7⟩ hμ ?_ ⟨rfl, rfl, rfl, rfl, rfl, rfl, rfl, rfl, rfl, rfl, trivial⟩ ⟨rfl, rfl, rfl, rfl, trivial⟩
          exact tkI_mk (d' := d5) (e := d5.err) le7 hd5 hf3 s7 (by omega) (by omega) K5.b.t64 K5.b.tk (tk_i hμ im) sn5 (by omega) (by omega) (by omega) (by omega) zt5 za5 (fun h => ⟨(one5 h).2.1, (one5 h).2.2, fun h4 => absurd h4 he5⟩) (fun h4 => absurd h4 he5)
      · conv => whnf
        refine splitB.eq (fun k5 => ?_) (fun k5 => ?_)
        · obtain ⟨hkk, hsp⟩ : 0 < f2.nk ∧ f2.spent ≤ f3.spent := by rcases X.sp with ⟨_, h1, h2⟩ | ⟨h1, _⟩ <;> omega
          have hone : t2 ≠ t + 1 := fun h => by have := (one2 h).2.2 he; omega
          conv => whnf
          refine bs_split ?_
          intro G4 A4 l4 s4
          replace hd2 := hd2.mono l4
          replace hk2 := hk2.mono l4
          replace hf3 := hf3.mono l4
          conv => whnf
          refine app_T .split hd2.p s4 (d2.np + 1) rfl (by have := b.np; omega) ?_
          intro G5 A5 c5 l5 s5
          replace hd2 := hd2.mono l5
          replace hk2 := hk2.mono l5
          replace hf3 := hf3.mono l5
          conv => whnf
          refine splitB.eq (fun h => absurd h (by omega)) (fun _ => ?_)
          conv => whnf
          refine splitB.eq (fun _ => ?_) (fun h => absurd he h)
          conv => whnf
          refine CallVC.ofT [f3.val, k.val, .slice A2 n2 c2] en48 _ (fun w' tw' _ => told_T z3 G5 w' tw' f3 hf3 (by omega) (by omega) (by omega) k A2 n2 c2 hk2 (by omega)) ?_
          rintro z8 G8 v l8 ⟨hz8, f8, e8, rfl, hf8, T⟩
          subst hz8
          replace hd2 := hd2.mono l8
          replace s5 := s5.mono l8
          have y1 := T.nk4 (by omega)
          have y2 := T.ns
          have y3 : f8.spent = f3.spent := T.sp
          conv => whnf
          have hμ : TkX.μ ⟨G8, z8, { d2 with Ap := A5, np := d2.np + 1, cp := c5, err := e8 }, f8, t2, i + 1, bl2, bl2, none, 0, 0⟩ < TkX.μ ⟨G2, z8, d2, f2, t2, i, at2, bl2, A2, n2, c2⟩ := tk_mu he (fun h => .inr ⟨by show f2.spent ≤ f8.spent; omega, by show f2.nk ≠ 0; omega, T.nk5 k5 h⟩)
          refine rnd ⟨G8, z8, { d2 with Ap := A5, np := d2.np + 1, cp := c5, err := e8 }, f8, t2, i + 1, bl2, bl2, none, 0, 0⟩ hμ ?_ ⟨rfl, rfl, rfl, rfl, rfl, rfl, rfl, rfl, rfl, rfl, trivial⟩ ⟨rfl, rfl, rfl, rfl, trivial⟩
          exact tkI_mk (d' := { d2 with Ap := A5, np := d2.np + 1, cp := c5 }) (e := e8) ((((le2.trans l3).trans l4).trans l5).trans l8) ⟨hd2.c, hd2.m, hd2.s, hd2.h, hd2.u, s5, hd2.f⟩ hf8 (Sl.nil _ _) (by omega) lt2 t642 tk2 (tk_i hμ im) ⟨sn2.nc, sn2.nm, sn2.ns, sn2.nh⟩ (by omega) (by show d2.nu + _ ≤ _; omega) (by show d2.np + 1 + _ ≤ _; omega) (by show d2.nf + _ ≤ _; omega) (fun h => absurd (zt2 h).1 hone) (fun h => absurd (zt2 h).1 hone) (fun h => absurd h hone) (fun _ => ⟨T.np.trans x1, by (rw [T.nl]; exact x2), by omega, by omega⟩)
        · conv => whnf
          refine splitB.eq (fun k6 => ?_) (fun k6 => absurd x7 (by omega))
          conv => whnf
          refine splitB.intro (fun hfl => ?_) (fun hfl => ?_)
          · conv => whnf
            refine CallVC.ofT [.slice d2.Af d2.nf d2.cf, .slice Ap np cp] en47 _ (fun w' tw' _ => put_T z3 G3 w' tw' d2.Af d2.nf d2.cf hd2.f (by have := b.nf; omega) Ap np cp ((hp.mono le2).mono l3) (by omega)) ?_
            rintro z4 G4 v l4 ⟨hz4, A4, m4, c4, rfl, s4, hm4⟩
            subst hz4
            replace hd2 := hd2.mono l4
            conv => whnf
            intro w' hw'
            exact ⟨z4, _, _, rfl, hw'.1, hw'.2, { d2 with steps := IntKind.i64.wrap (d2.steps + f3.spent), Af := A4, nf := m4, cf := c4 }, t2, _, _, rfl, ⟨hd2.c, hd2.m, hd2.s, hd2.h, hd2.u, hd2.p, s4⟩, ⟨⟨tk2, t642, by omega, by show d2.nu + _ ≤ _; omega, by show d2.np + _ ≤ _; omega, by show m4 + _ ≤ _; omega⟩, ⟨sn2.nc, sn2.nm, sn2.ns, sn2.nh⟩, by omega, fun h => (zt2 h).2, fun h => ⟨(one2 h).1, (one2 h).2.1⟩⟩⟩
          · conv => whnf
            intro w' hw'
            exact ⟨z3, _, _, rfl, hw'.1, hw'.2, { d2 with steps := IntKind.i64.wrap (d2.steps + f3.spent) }, t2, _, _, rfl, ⟨hd2.c, hd2.m, hd2.s, hd2.h, hd2.u, hd2.p, hd2.f⟩, ⟨⟨tk2, t642, by omega, by show d2.nu + _ ≤ _; omega, by show d2.np + _ ≤ _; omega, by show d2.nf + _ ≤ _; omega⟩, ⟨sn2.nc, sn2.nm, sn2.ns, sn2.nh⟩, by omega, fun h => (zt2 h).2, fun h => ⟨(one2 h).1, (one2 h).2.1⟩⟩⟩
  · have hi : i ≤ 4010 := Nat.le_trans (Nat.le_add_right _ _) im
    conv => whnf
    intro w' hw'
    exact ⟨z2, _, _, rfl, hw'.1, hw'.2, d2, t2, 0, 0, rfl, hd2, ⟨⟨tk2, t642, by omega, by omega, by omega, by omega⟩, sn2, by omega, fun h => (zt2 h).2, fun h => ⟨(one2 h).1, (one2 h).2.1⟩⟩⟩
theorem taskC : ∀ (n t : Nat), t + n = 64 → TaskC t := fun n => by
  induction n using Nat.strongRecOn with
  | ind n ih =>
    intro t h
    exact task_step t (by omega) fun t1 h1 h2 => ih (64 - t1) (by omega) t1 (by omega)
theorem task_T : TaskC 0 := taskC 64 0 rfl
end Go.Proofs.Ytahhihhfjimppaa
/- The document's compile, in a typed heap: small functions; a block that is kept. -/
namespace Go.Proofs.Ytahhihhfjimppaa
open Go.RowKit
set_option linter.unusedSimpArgs false
set_option linter.unusedVariables false
set_option maxRecDepth 100000

/-! ### a block beside a context -/
def Ctx.keep (C : Ctx) (b : Nat) (o : Go.Obj) : Ctx where
  dom k := C.dom k ∨ k = b
  R w := C.R w ∧ w.heap[b]? = some o ∧ ¬ C.dom b
  lt w h k hk := by
    rcases hk with hk | rfl
    · exact C.lt w h.1 k hk
    · exact (Array.getElem?_eq_some_iff.1 h.2.1).1
  stable w w' h hs hz h1 h2 h3 := ⟨C.stable w w' h.1 (fun k hk => hs k (.inl hk)) hz h1 h2 h3, (hs b (.inr rfl)).trans h.2.1, h.2.2⟩
def Ctx.kept (C : Ctx) : Option (Nat × Go.Obj) → Ctx
  | none => C
  | some (b, o) => C.keep b o
theorem Ctx.kept_R {C : Ctx} {o : Option (Nat × Go.Obj)} {w : World} (h : (C.kept o).R w) : C.R w := by
  cases o with
  | none => exact h
  | some x => exact h.1
section
variable {P : Program} {C : Ctx} {o : Option (Nat × Go.Obj)}
theorem goes_drop {C' : Ctx} {w w' : World} (g : Goes C w C' w') : Goes (C.kept o) w C' w' := by
  cases o with
  | none => exact g
  | some x => exact ⟨g.size, fun k hk hn => g.block k hk fun h => hn (.inl h), fun k hk => (g.new k hk).imp .inl id⟩
theorem goes_kept {C' : Ctx} {w w' : World} (hw : (C.kept o).R w) (g : Goes C w C' w') (h : C'.R w') : Goes (C.kept o) w (C'.kept o) w' ∧ (C'.kept o).R w' := by
  cases o with
  | none => exact ⟨g, h⟩
  | some x =>
    have hlt : x.1 < w.heap.size := (Array.getElem?_eq_some_iff.1 hw.2.1).1
    refine ⟨⟨g.size, fun k hk hn => g.block k hk fun h => hn (.inl h), fun k hk => ?_⟩, h, (g.block _ hlt hw.2.2).trans hw.2.1, fun hd => ?_⟩
    · rcases hk with hk | rfl
      · exact (g.new k hk).imp .inl id
      · exact .inl (.inr rfl)
    · rcases g.new _ hd with h1 | h1
      · exact hw.2.2 h1
      · omega
theorem SemVC.drop {m : Sem Value} {K : Value → Ctx → Prop} (h : SemVC P C m K) : SemVC P (C.kept o) m K := by
  constructor
  intro w hw
  obtain ⟨v, w', C', h1, h2, h3, h4⟩ := h.out w (Ctx.kept_R hw)
  exact ⟨v, w', C', h1, goes_drop h2, h3, h4⟩
theorem SemVC.kept {m : Sem Value} {K : Value → Ctx → Prop} (h : SemVC P C m fun v C' => K v (C'.kept o)) : SemVC P (C.kept o) m K := by
  constructor
  intro w hw
  obtain ⟨v, w', C', h1, h2, h3, h4⟩ := h.out w (Ctx.kept_R hw)
  obtain ⟨h5, h6⟩ := goes_kept hw h2 h3
  exact ⟨v, w', _, h1, h5, h6, h4⟩
theorem StoVC.kept {m : Sem Unit} {K : Ctx → Prop} (h : StoVC P C m fun C' => K (C'.kept o)) : StoVC P (C.kept o) m K := by
  constructor
  intro w hw
  obtain ⟨w', C', h1, h2, h3, h4⟩ := h.out w (Ctx.kept_R hw)
  obtain ⟨h5, h6⟩ := goes_kept hw h2 h3
  exact ⟨w', _, h1, h5, h6, h4⟩
theorem CallVC.drop {f : FuncId} {vs : Array Value} {K : Value → Ctx → Prop} (h : CallVC P C f vs K) : CallVC P (C.kept o) f vs K := by
  constructor
  refine ⟨h.out.1, fun w hw => (h.out.2 w (Ctx.kept_R hw)).mono fun e w' ⟨v, C', h1, h2, h3, h4⟩ => ⟨v, C', h1, goes_drop h2, h3, h4⟩⟩
/-- a cell of the block that is kept -/
theorem ldK {b : Nat} {cs : Array Value} {ty : TypeId} {t : TypeId} {i : TyI} (hi : TyOk P t i) (hag : i.d.agg = false) {j : Nat} {v : Value} (hv : cs[j]? = some v) {K : Value → Ctx → Prop} (h : K v (C.kept (some (b, .cells cs ty (0, 0))))) {a : Addr} (ha : a = ⟨b, j, none⟩) : SemVC P (C.kept (some (b, .cells cs ty (0, 0)))) (Instr.loadAt t (.pointer (some a))) K := by
  subst ha
  refine load_cell hi hag (fun u => u = v) (fun w hw => ⟨v, ?_, rfl⟩) (fun u hu => hu ▸ h)
  have hb : Blk w b ty cs := hw.2.1
  exact (hb.cell j).trans hv
end

/-! ### small functions -/
theorem objects_B (n : Int) (w : World) : Calls Try.prog 33 #[.int .i64 n] w (PostB w fun v => ∃ b, v = .bool b ∧ (b = true → 0 ≤ n ∧ n ≤ 8)) := by
  refine go33 (by rfl) (CtxB w) (CtxB.start w) ?_
  conv => whnf
  repeat' (first
    | (refine JoinVC.go ?_; conv => whnf)
    | (refine splitB.dec (fun h => ?_) (fun h => ?_) <;> conv => whnf)
    | (intro w' hw'; exact ⟨_, rfl, hw', _, rfl, fun hb => by first | (exact absurd hb (by decide)) | (have := of_decide_eq_true hb; omega)⟩))
theorem takes_B (a b c d : Int) (w : World) : Calls Try.prog 39 #[.agg #[.int .i64 a, .int .i64 b, .int .i64 c, .int .i64 d]] w (PostB w isI) := by
  refine go39 (by rfl) (CtxB w) (CtxB.start w) ?_
  conv => whnf
  repeat' (first
    | (refine JoinVC.go ?_; conv => whnf)
    | (refine splitB.eq (fun h => ?_) (fun h => ?_) <;> first | (exfalso; omega) | conv => whnf)
    | (intro w' hw'; exact ⟨_, rfl, hw', _, rfl⟩))
theorem puts_B (a b c d : Int) (w : World) : Calls Try.prog 40 #[.agg #[.int .i64 a, .int .i64 b, .int .i64 c, .int .i64 d]] w (PostB w isI) := by
  refine go40 (by rfl) (CtxB w) (CtxB.start w) ?_
  conv => whnf
  repeat' (first
    | (refine JoinVC.go ?_; conv => whnf)
    | (refine splitB.eq (fun h => ?_) (fun h => ?_) <;> first | (exfalso; omega) | conv => whnf)
    | (intro w' hw'; exact ⟨_, rfl, hw', _, rfl⟩))
/-! ### where it goes on -/
theorem run_bsn (xs : List Int) (hn : xs.length ≤ 1000) (w : World) : (Instr.buildSlice 23 xs.length (mkParts (is xs) 0).toArray).run Try.prog w = .ok (.slice (some ⟨w.heap.size, 0, none⟩) xs.length xs.length) (w.alloc (.cells (is xs).toArray RT.int.id)) := by
  obtain ⟨i, hi, h0, h1, h2⟩ := info_parts (info_rt .int)
  have h1 : i.size = 1 := h1
  have hi : (Try.prog).info? 3 = some i := hi
  have hf : ∀ f : Nat → Value, Instr.fill (fun i => some (i, 1)) ((List.range xs.length).map f).toArray (mkParts (is xs) 0) = some (is xs).toArray := fun f => by
    rw [fill_parts xs _ 0 (by simp), putAt_eq _ _ _ (by simp)]
    simp
  have hx : ¬ 16777216 < xs.length := by omega
  by_cases h0' : xs.length = 0
  · have : xs = [] := List.eq_nil_of_length_eq_zero h0'
    subst this
    exact run_bs0 .int w
  · have hz : i.zero = some (.int .i64 0) := h0
    simp [Instr.buildSlice, run_underlying Try.underlying23, sizeOf, typeInfo, hi, zeroValue, hz, h1, newRow, newObj, Sem.run, RT.id, hx, h0']
    rw [range_map, hf]
    rfl
def OnΦ (w : World) (e : Ending) (w' : World) : Prop := ∃ v, e = .returned v ∧ Below w.heap.size w w' ∧ (v = .slice none 0 0 ∨ ∃ (b : Nat) (xs : List Int), v = .slice (some ⟨b, 0, none⟩) xs.length xs.length ∧ w.heap.size ≤ b ∧ w'.heap[b]? = some (.cells (is xs).toArray 3 (0, 0)) ∧ xs.length ≤ 2)
theorem bsnB (xs : List Int) {w : World} {K : Value → Ctx → Prop} (hn : xs.length ≤ 1000) (h : ∀ b, w.heap.size ≤ b → K (.slice (some ⟨b, 0, none⟩) xs.length xs.length) ((CtxB w).kept (some (b, .cells (is xs).toArray 3 (0, 0))))) {t : TypeId} {n : Nat} {ps : Array (Nat × Value)} (ht : t = 23 := by rfl) (hl : n = xs.length := by rfl) (hps : ps = (mkParts (is xs) 0).toArray := by rfl) : SemVC Try.prog (CtxB w) (Instr.buildSlice t n ps) K := by
  subst ht hl hps
  constructor
  intro w1 hw
  have hw : Below w.heap.size w w1 := hw
  have hb : Below w1.heap.size w1 (w1.alloc (.cells (is xs).toArray RT.int.id)) := (Below.refl _ _).alloc (Nat.le_refl _) _
  refine ⟨_, _, (CtxB w).kept (some (w1.heap.size, .cells (is xs).toArray 3 (0, 0))), run_bsn xs hn w1, ⟨hb.size, fun k hk _ => hb.block k hk, fun k hk => ?_⟩, ⟨hw.trans (hb.mono hw.size), heap_alloc_new w1 _, fun hd => ?_⟩, h w1.heap.size hw.size⟩
  · rcases hk with hk | rfl
    · exact .inl hk
    · exact .inr (Nat.le_refl _)
  · have : w1.heap.size < w.heap.size := hd
    have := hw.size
    omega
theorem on_B (a b c d at_ : Int) (w : World) : Calls Try.prog 41 #[.agg #[.int .i64 a, .int .i64 b, .int .i64 c, .int .i64 d], .int .i64 at_] w (OnΦ w) := by
  refine go41 (by rfl) (CtxB w) (CtxB.start w) ?_
  conv => whnf
  repeat' (first
    | (refine JoinVC.go ?_; conv => whnf)
    | (refine splitB.eq (fun h => ?_) (fun h => ?_) <;> first | (exfalso; omega) | conv => whnf)
    | (refine bsnB [b] (by simp) ?_; intro g hg; conv => whnf)
    | (refine bsnB [IntKind.i64.wrap (at_ + 1), b] (by simp) ?_; intro g hg; conv => whnf)
    | (refine bsnB [IntKind.i64.wrap (at_ + 1)] (by simp) ?_; intro g hg; conv => whnf)
    | (intro w' hw'; exact ⟨_, rfl, hw'.1, .inr ⟨g, [b], rfl, hg, hw'.2.1, by simp⟩⟩)
    | (intro w' hw'; exact ⟨_, rfl, hw'.1, .inr ⟨g, [IntKind.i64.wrap (at_ + 1), b], rfl, hg, hw'.2.1, by simp⟩⟩)
    | (intro w' hw'; exact ⟨_, rfl, hw'.1, .inr ⟨g, [IntKind.i64.wrap (at_ + 1)], rfl, hg, hw'.2.1, by simp⟩⟩)
    | (intro w' hw'; exact ⟨_, rfl, hw', .inl rfl⟩))
theorem CallVC.onK {P : Program} {z : Zp} {G G0 : Gh} {w0 : World} {f : FuncId} (args : List Value) {vs : Array Value} {K : Value → Ctx → Prop} (he : Enters P f) (hc : ∀ w, Calls P f args.toArray w (OnΦ w)) (h0 : K (.slice none 0 0) (CtxT z G G0 w0)) (h1 : ∀ (b : Nat) (xs : List Int), xs.length ≤ 2 → K (.slice (some ⟨b, 0, none⟩) xs.length xs.length) ((CtxT z G G0 w0).kept (some (b, .cells (is xs).toArray 3 (0, 0))))) (hvs : vs = args.toArray := by rfl) : CallVC P (CtxT z G G0 w0) f vs K := by
  constructor
  subst hvs
  refine ⟨he, fun w hw => (hc w).mono fun e w' ⟨v, h2, h3, h4⟩ => ?_⟩
  obtain ⟨tw, ex⟩ := hw
  have tw' := tw.below h3
  have ex' := ex.trans (Ex.of_below h3)
  rcases h4 with rfl | ⟨b, xs, rfl, h5, h6, h7⟩
  · exact ⟨_, _, h2, ⟨h3.size, fun k hk _ => h3.block k hk, fun k hk => .inl hk⟩, ⟨tw', ex'⟩, h0⟩
  · refine ⟨_, (CtxT z G G0 w0).kept (some (b, .cells (is xs).toArray 3 (0, 0))), h2, ⟨h3.size, fun k hk _ => h3.block k hk, fun k hk => ?_⟩, ⟨⟨tw', ex'⟩, h6, fun hd => ?_⟩, h1 b xs h7⟩
    · rcases hk with hk | rfl
      · exact .inl hk
      · exact .inr h5
    · rcases hd with ⟨x, hx⟩ | hd
      · have := tw.lt hx; omega
      · have := ex.size; omega
/-! ### may an instruction be? -/
theorem PostB.ofT {z : Zp} {w : World} {Φ : Value → Prop} {e : Ending} {w' : World} (h : PostT z Gh.none w (fun _ _ v => Φ v) e w') : PostB w Φ e w' := by
  obtain ⟨z', G', v, h1, h2, h3, h4⟩ := h
  exact ⟨v, h1, h3.below (Nat.le_refl _) (fun _ _ => rfl), h4⟩
theorem call_B (c : Cd) (a b d e : Int) (w : World) : Calls Try.prog 42 #[c.val, .agg #[.int .i64 a, .int .i64 b, .int .i64 d, .int .i64 e]] w (PostB w isB) := by
  refine Calls.mono (R := PostT ⟨false, 0⟩ Gh.none w (fun _ _ v => isB v)) ?_ fun e w' h => PostB.ofT h
  refine go42 (by rfl) (CtxT ⟨false, 0⟩ Gh.none Gh.none w) (CtxT.start (TW.nil _ w)) ?_
  conv => whnf
  repeat' (first
    | (refine JoinVC.go ?_; conv => whnf)
    | (refine splitB.dec (fun h => ?_) (fun h => ?_) <;> conv => whnf)
    | (refine bsn [0, c.maps, c.maps, c.maps, c.stacks, c.stacks, c.chans, c.chans] (by simp) ?_; intro G1 A1 l1 s1; conv => whnf)
    | (refine bsn [0, 1, 2, 1, 1, 0, 1, 0] (by simp) ?_; intro G2 A2 l2 s2; replace s1 := s1.mono l2; conv => whnf)
    | (refine idx_T .int s1 b.toNat (by omega) (by omega) ?_; intro b1 off1 e1; conv => whnf)
    | (refine idx_T .int s2 b.toNat (by omega) (by omega) ?_; intro b1 off1 e1; conv => whnf)
    | (refine ld_int e1 ?_; intro x1; conv => whnf)
    | (refine splitB.eq (fun h => ?_) (fun h => ?_) <;> conv => whnf)
    | (apply And.intro <;> conv => whnf)
    | (intro w' hw'; exact ⟨_, _, _, rfl, hw'.1, hw'.2, _, rfl⟩))
end Go.Proofs.Ytahhihhfjimppaa
/- The document's compile, in a typed heap: may, Few. -/
namespace Go.Proofs.Ytahhihhfjimppaa
open Go.RowKit
set_option linter.unusedSimpArgs false
set_option linter.unusedVariables false
set_option maxRecDepth 100000

theorem may_B (c : Cd) (B : Nat → Bd) (G : Gh) (w : World) (hc : c.Is B G w) (y : Bd) (a b d e : Int) : Calls Try.prog 35 #[c.val, y.val, .agg #[.int .i64 a, .int .i64 b, .int .i64 d, .int .i64 e]] w (PostB w isB) := by
  refine go35 (by rfl) (CtxB w) (CtxB.start w) ?_
  conv => whnf
  repeat' (first
    | (refine JoinVC.go ?_; conv => whnf)
    | (refine splitB.eq (fun h => ?_) (fun h => ?_) <;> first | (exfalso; omega) | conv => whnf)
    | (refine splitB.dec (fun h => ?_) (fun h => ?_) <;> conv => whnf)
    | (refine CallVC.ofB [c.val, .agg #[.int .i64 a, .int .i64 b, .int .i64 d, .int .i64 e]] en42 isB (fun w' _ => call_B c a b d e w') ?_; rintro v ⟨y, rfl⟩; conv => whnf)
    | (refine idx_fun hc (k := b.toNat) (by omega) (by omega) ?_; intro g o hg hG hcell; conv => whnf)
    | (refine ldB ti3_ok rfl (hcell 0 _ rfl) hg ?_; conv => whnf)
    | (apply And.intro <;> conv => whnf)
    | (intro w' hw'; exact ⟨_, rfl, hw', _, rfl⟩))
theorem wnatB (k : Nat) (h : k < 9223372036854775807) : IntKind.i64.wrap ((k : Int) + 1) = ((k + 1 : Nat) : Int) := by rw [IntKind.wrap_i64]; omega
theorem few_B (c : Cd) (B : Nat → Bd) (G : Gh) (w : World) (hc : c.Is B G w) (hn : c.nf ≤ 9223372036854775807) : Calls Try.prog 25 #[c.val] w (PostB w isB) := by
  refine go25 (by rfl) (CtxB w) (CtxB.start w) ?_
  conv => whnf
  refine LoopVC.on (X := Nat × Int) (fun (k, s) => [(1, .p 1 0), (3, .v (.int .i64 s)), (4, .v (.int .i64 k))]) (fun _ => [(1, 54, c.l)]) (fun _ => CtxB w) (fun (k, s) => k ≤ c.nf) (fun (k, s) => c.nf - k) (0, 0) (Nat.zero_le _) ⟨rfl, rfl, rfl, trivial⟩ ⟨rfl, trivial⟩ ?_
  rintro ⟨k, s⟩ r hk
  simp only at hk
  conv => whnf
  refine splitB.dec (fun h => ?_) (fun h => ?_)
  · have h : (k : Int) < c.nf := h
    have hlt : k < c.nf := by omega
    conv => whnf
    refine idx_fun hc hlt rfl ?_
    intro g o hg hG hcell
    conv => whnf
    refine ldB ti83_ok rfl (hcell 2 _ rfl) hg ?_
    conv => whnf
    exact rnd (k + 1, _) (by show c.nf - (k + 1) < c.nf - k; omega) (by show k + 1 ≤ c.nf; omega) ⟨rfl, rfl, by show _ = _; rw [← wnatB k (by omega)]; rfl, trivial⟩ ⟨rfl, trivial⟩
  · conv => whnf
    repeat' (first
      | (refine JoinVC.go ?_; conv => whnf)
      | (refine splitB.dec (fun h => ?_) (fun h => ?_) <;> conv => whnf)
      | (intro w' hw'; exact ⟨_, rfl, hw', _, rfl⟩))
end Go.Proofs.Ytahhihhfjimppaa
/- The document's compile, in a typed heap: Heights. -/
namespace Go.Proofs.Ytahhihhfjimppaa
open Go.RowKit
set_option linter.unusedSimpArgs false
set_option linter.unusedVariables false
set_option maxRecDepth 100000

/-- what a slice of numbers that is kept reads as -/
def OnK (A : Option Addr) (xs : List Int) (o : Option (Nat × Go.Obj)) : Prop := ∀ i, i < xs.length → ∃ b, A = some ⟨b, 0, none⟩ ∧ o = some (b, .cells (is xs).toArray 3 (0, 0))
theorem CallVC.onT {P : Program} {z : Zp} {G G0 : Gh} {w0 : World} {f : FuncId} (args : List Value) {vs : Array Value} {K : Value → Ctx → Prop} (he : Enters P f) (hc : ∀ w, Calls P f args.toArray w (OnΦ w)) (h : ∀ A xs o, xs.length ≤ 2 → OnK A xs o → K (.slice A xs.length xs.length) ((CtxT z G G0 w0).kept o)) (hvs : vs = args.toArray := by rfl) : CallVC P (CtxT z G G0 w0) f vs K :=
  CallVC.onK args he hc (h none [] none (by simp) (fun i hi => by cases hi)) (fun b xs hx => h _ xs _ hx fun i hi => ⟨b, rfl, rfl⟩) hvs
/-- an instruction's place -/
def InsAt (G : Gh) (w : World) (g o : Nat) : Prop := g < w.heap.size ∧ G g = none ∧ ∃ x0 x1 x2 x3, ∀ j v, [Value.int .i64 x0, .int .i64 x1, .int .i64 x2, .int .i64 x3][j]? = some v → w.cell? ⟨g, o + j, none⟩ = some v
theorem idxA {b : Bd} {G : Gh} {w : World} (hb : b.Is G w) {i : Int} {k : Nat} (hk : k < b.n) (hi : i = k) {K : Value → Prop} (h : ∀ g o, InsAt G w g o → K (.pointer (some ⟨g, o, none⟩))) : IdxVC b.A b.n i 4 K :=
  idx_ins hb hk hi fun g o x0 x1 x2 x3 h1 h2 h3 => h g o ⟨h1, h2, x0, x1, x2, x3, h3⟩
theorem ldA {z : Zp} {G G0 : Gh} {w0 : World} {g o : Nat} (h : InsAt G0 w0 g o) {t : TypeId} {K : Value → Ctx → Prop} (hk : ∀ y0 y1 y2 y3, K (.agg #[.int .i64 y0, .int .i64 y1, .int .i64 y2, .int .i64 y3]) (CtxT z G G0 w0)) (ht : t = 90 := by rfl) : SemVC Try.prog (CtxT z G G0 w0) (Instr.loadAt t (.pointer (some ⟨g, o, none⟩))) K := by
  subst ht
  obtain ⟨h1, h2, x0, x1, x2, x3, h3⟩ := h
  exact ldOs ti90_ok rfl [.int .i64 x0, .int .i64 x1, .int .i64 x2, .int .i64 x3] rfl h3 h1 h2 (hk x0 x1 x2 x3)
def HgtΦ (z : Zp) (z' : Zp) (G' : Gh) (v : Value) : Prop := z' = z ∧ ∃ A n c, v = .slice A n c
/-- the table so far, and how far all is -/
structure HgX where
  G : Gh
  A : Option Addr
  n : Nat
  c : Nat
  i : Nat
  j : Nat
  o : Option (Nat × Go.Obj)
set_option maxHeartbeats 4000000 in
theorem heights_T (z : Zp) (G : Gh) (w : World) (tw : TW z G w) (c : Cd) (B : Nat → Bd) (hc : c.Is B G w) (fn : Int) (hins : ∀ k, k < c.nf → fn = k → (B k).n ≤ 400) :
    Calls Try.prog 34 #[c.val, .int .i64 fn] w (PostT z G w (HgtΦ z)) := by
  refine go34 (by rfl) (CtxT z G G w) (CtxT.start tw) ?_
  conv => whnf
  refine JoinVC.go ?_
  conv => whnf
  refine splitB.dec (fun h0 => ?_) (fun h0 => ?_)
  · conv => whnf
    intro w' hw'
    exact ⟨z, _, _, rfl, hw'.1, hw'.2, rfl, _, _, _, rfl⟩
  conv => whnf
  refine splitB.dec (fun h1 => ?_) (fun h1 => ?_)
  · conv => whnf
    intro w' hw'
    exact ⟨z, _, _, rfl, hw'.1, hw'.2, rfl, _, _, _, rfl⟩
  obtain ⟨k, rfl⟩ : ∃ k : Nat, fn = k := ⟨fn.toNat, by omega⟩
  have hk : k < c.nf := by omega
  have hn := hins k hk rfl
  clear hins h0 h1
  obtain ⟨b, hb⟩ : ∃ b, B k = b := ⟨_, rfl⟩
  have hbi := hc.b k hk
  rw [hb] at hn hbi
  conv => whnf
  refine idx_fun hc hk rfl ?_
  rw [hb]
  intro g o hg hG hcell
  conv => whnf
  refine ldO ti83_ok rfl (hcell 2 _ rfl) hg hG ?_
  conv => whnf
  refine LoopVC.on (X := HgX) (fun x => [(5, .v (.slice b.A b.n b.c)), (6, .v (.slice x.A x.n x.c)), (7, .v (.int .i64 x.n))]) (fun _ => []) (fun x => CtxT z x.G G w) (fun x => G.le x.G ∧ Sl x.G .int x.A x.n x.c ∧ x.n ≤ b.n) (fun x => b.n - x.n) ⟨G, none, 0, 0, 0, 0, none⟩ ⟨Gh.le_refl _, Sl.nil _ _, Nat.zero_le _⟩ ⟨rfl, rfl, rfl, trivial⟩ trivial ?_
  · rintro ⟨G1, A1, n1, c1, _, _, _⟩ r ⟨le1, s1, hn1⟩
    have le1 : G.le G1 := le1
    have s1 : Sl G1 .int A1 n1 c1 := s1
    have hn1 : n1 ≤ b.n := hn1
    conv => whnf
    refine splitB.dec (fun h => ?_) (fun h => ?_)
    · have hlt : n1 < b.n := by have h : (n1 : Int) < b.n := h; omega
      conv => whnf
      repeat' (first
        | (refine JoinVC.go ?_; conv => whnf)
        | (refine idx_ins hbi hlt rfl ?_; intro g1 o1 x0 x1 x2 x3 hg1 hG1 hc1; conv => whnf)
        | (refine ldO ti3_ok rfl (hc1 0 _ rfl) hg1 hG1 ?_; conv => whnf)
        | (refine splitB.dec (fun h => ?_) (fun h => ?_) <;> conv => whnf)
        | (refine bsn [-1] (by simp) ?_; intro G2 A2 l2 s2; replace s1 := s1.mono l2; conv => whnf)
        | (refine app_T .int s1 s2 (n1 + 1) rfl (by omega) ?_; intro G3 A3 c3 l3 s3; conv => whnf)
        | exact rnd ⟨G3, A3, n1 + 1, c3, 0, 0, none⟩ (by show b.n - (n1 + 1) < b.n - n1; omega) ⟨(le1.trans l2).trans l3, s3, by show n1 + 1 ≤ b.n; omega⟩ ⟨rfl, rfl, by show _ = _; rw [← wnat n1 (by omega)]; rfl, trivial⟩ trivial
        | (intro w' hw'; exact ⟨z, _, _, rfl, hw'.1, hw'.2, rfl, _, _, _, rfl⟩))
    · have hnn : n1 = b.n := by have h : ¬ (n1 : Int) < b.n := h; omega
      subst hnn
      conv => whnf
      refine splitB.eq (fun h2 => ?_) (fun h2 => ?_)
      · conv => whnf
        intro w' hw'
        exact ⟨z, _, _, rfl, hw'.1, hw'.2, rfl, _, _, _, rfl⟩
      have hpos : 0 < b.n := by omega
      conv => whnf
      refine idx_T .int s1 0 rfl hpos ?_
      intro b1 off1 e1
      conv => whnf
      refine sto_int e1 ?_
      conv => whnf
      refine LoopVC.on (X := Nat × Option (Nat × Go.Obj)) (fun (i, o) => [(5, .v (.slice b.A b.n b.c)), (6, .v (.slice A1 b.n c1)), (8, .v (.int .i64 i))]) (fun _ => []) (fun (i, o) => (CtxT z G1 G w).kept o) (fun (i, o) => i ≤ b.n + 1) (fun (i, o) => b.n + 1 - i) (0, none) (Nat.zero_le _) ⟨rfl, rfl, rfl, trivial⟩ trivial ?_
      rintro ⟨i, o⟩ r2 hi
      have hi : i ≤ b.n + 1 := hi
      conv => whnf
      refine splitB.dec (fun h3 => ?_) (fun h3 => ?_)
      · have h3 : (i : Int) ≤ b.n := h3
        conv => whnf
        refine LoopVC.on (X := Nat × Option (Nat × Go.Obj)) (fun (j, o) => [(5, .v (.slice b.A b.n b.c)), (6, .v (.slice A1 b.n c1)), (8, .v (.int .i64 i)), (9, .v (.int .i64 j))]) (fun _ => []) (fun (j, o) => (CtxT z G1 G w).kept o) (fun (j, o) => j ≤ b.n) (fun (j, o) => b.n - j) (0, o) (Nat.zero_le _) ⟨rfl, rfl, rfl, rfl, trivial⟩ trivial ?_
        rintro ⟨j, o'⟩ r3 hj
        have hj : j ≤ b.n := hj
        conv => whnf
        refine splitB.dec (fun h4 => ?_) (fun h4 => ?_)
        · have h4 : j < b.n := by have h4 : (j : Int) < b.n := h4; omega
          conv => whnf
          refine idx_T .int s1 j rfl h4 ?_
          intro b2 off2 e2
          conv => whnf
          refine SemVC.drop (C := CtxT z G1 G w) (o := o') ?_
          refine ld_int e2 ?_
          intro x1
          conv => whnf
          refine splitB.dec (fun h5 => ?_) (fun h5 => ?_)
          · conv => whnf
            exact rnd (j + 1, none) (by show b.n - (j + 1) < b.n - j; omega) (by show j + 1 ≤ b.n; omega) ⟨rfl, rfl, rfl, by show _ = _; rw [← wnat j (by omega)]; rfl, trivial⟩ trivial
          conv => whnf
          refine JoinVC.on (X := Bool) (fun q => [(5, .v (.slice b.A b.n b.c)), (6, .v (.slice A1 b.n c1)), (8, .v (.int .i64 i)), (9, .v (.int .i64 j)), (90, .v (.bool q))]) (fun _ => []) (fun _ => CtxT z G1 G w) (fun _ => True) ?_ ?_
          · conv => whnf
            repeat' (first
              | (refine idx_ins hbi h4 rfl ?_; intro g1 o1 y0 y1 y2 y3 hg1 hG1 hc1; conv => whnf)
              | (refine ldOs ti90_ok rfl [.int .i64 y0, .int .i64 y1, .int .i64 y2, .int .i64 y3] rfl hc1 hg1 hG1 ?_; conv => whnf)
              | (refine CallVC.readT [.agg #[.int .i64 y0, .int .i64 y1, .int .i64 y2, .int .i64 y3]] en39 isI (fun w' _ _ => takes_B _ _ _ _ w') ?_; rintro v ⟨y, rfl⟩; conv => whnf)
              | (refine idx_T .int s1 j rfl h4 ?_; intro b3 off3 e3; conv => whnf)
              | (refine ld_int e3 ?_; intro x3; conv => whnf)
              | (refine splitB.dec (fun h => ?_) (fun h => ?_) <;> conv => whnf)
              | (refine And.intro ?_ ?_ <;> conv => whnf)
              | exact Wk.on _ trivial ⟨rfl, rfl, rfl, rfl, rfl, trivial⟩ trivial)
          · intro q r4 _
            conv => whnf
            refine splitB.intro (fun hq => ?_) (fun hq => ?_)
            · conv => whnf
              intro w' hw'
              exact ⟨z, _, _, rfl, hw'.1, hw'.2, rfl, _, _, _, rfl⟩
            conv => whnf
            repeat' (first
              | (refine idxA hbi h4 rfl ?_; intro g1 o1 hia; conv => whnf)
              | (refine ldA (by assumption) ?_; intro y0 y1 y2 y3; conv => whnf)
              | (refine CallVC.readT [.agg #[.int .i64 _, .int .i64 _, .int .i64 _, .int .i64 _]] en39 isI (fun w' _ _ => takes_B _ _ _ _ w') ?_; rintro v ⟨y, rfl⟩; conv => whnf)
              | (refine CallVC.readT [.agg #[.int .i64 _, .int .i64 _, .int .i64 _, .int .i64 _]] en40 isI (fun w' _ _ => puts_B _ _ _ _ w') ?_; rintro v ⟨y, rfl⟩; conv => whnf)
              | (refine CallVC.onT [.agg #[.int .i64 _, .int .i64 _, .int .i64 _, .int .i64 _], .int .i64 _] en41 (fun w' => on_B _ _ _ _ _ w') ?_; intro At xs ot hxs hto; conv => whnf)
              | (refine idx_T .int s1 j rfl h4 ?_; intro b3 off3 e3; conv => whnf)
              | (refine ld_int (by assumption) ?_; intro x3; conv => whnf)
              | (refine And.intro ?_ ?_ <;> conv => whnf))
            all_goals
              refine LoopVC.on (X := Nat) (fun q => [(5, .v (.slice b.A b.n b.c)), (6, .v (.slice A1 b.n c1)), (8, .v (.int .i64 i)), (9, .v (.int .i64 j)), (10, .v (.int .i64 (IntKind.i64.wrap (_ + _)))), (11, .v (.slice At xs.length xs.length)), (12, .v (.int .i64 q))]) (fun _ => []) (fun _ => (CtxT z G1 G w).kept ot) (fun q => q ≤ xs.length) (fun q => xs.length - q) 0 (Nat.zero_le _) ⟨rfl, rfl, rfl, rfl, rfl, rfl, rfl, trivial⟩ trivial ?_
              intro q r5 hq
              conv => whnf
              refine splitB.dec (fun h6 => ?_) (fun h6 => ?_)
              · have h6 : q < xs.length := by omega
                obtain ⟨bb, rfl, rfl⟩ := hto q h6
                obtain ⟨x, hx⟩ : ∃ x, (is xs).toArray[q]? = some (.int .i64 x) := ⟨xs[q], by simp [is, h6]⟩
                clear hto
                conv => whnf
                repeat' (first
                  | (refine JoinVC.go ?_; conv => whnf)
                  | (refine idx_ok rfl q rfl h6 ?_; conv => whnf)
                  | (refine SemVC.kept (C := CtxT z G1 G w) ?_; refine ld_int e3 ?_; intro x3; conv => whnf)
                  | (refine ldK (C := CtxT z G1 G w) ti3_ok rfl hx ?_ (by simp); conv => whnf)
                  | (refine splitB.dec (fun h => ?_) (fun h => ?_) <;> conv => whnf)
                  | (refine splitB.ne (fun h => ?_) (fun h => ?_) <;> conv => whnf)
                  | (refine idx_T .int s1 x.toNat (by omega) (by omega) ?_; intro b3 off3 e3; conv => whnf)
                  | (refine StoVC.kept (C := CtxT z G1 G w) ?_; refine sto_int e3 ?_; conv => whnf)
                  | (intro w' hw'; exact ⟨z, _, _, rfl, hw'.1.1, hw'.1.2, rfl, _, _, _, rfl⟩)
                  | exact rnd (q + 1) (by show xs.length - (q + 1) < xs.length - q; omega) (by show q + 1 ≤ xs.length; omega) ⟨rfl, rfl, rfl, rfl, rfl, rfl, by show _ = _; rw [← wnat q (by omega)]; rfl, trivial⟩ trivial)
              · conv => whnf
                exact rnd (j + 1, ot) (by show b.n - (j + 1) < b.n - j; omega) (by show j + 1 ≤ b.n; omega) ⟨rfl, rfl, rfl, by show _ = _; rw [← wnat j (by omega)]; rfl, trivial⟩ trivial
        · conv => whnf
          exact rnd (i + 1, o') (by show b.n + 1 - (i + 1) < b.n + 1 - i; omega) (by show i + 1 ≤ b.n + 1; omega) ⟨rfl, rfl, by show _ = _; rw [← wnat i (by omega)]; rfl, trivial⟩ trivial
      · conv => whnf
        intro w' hw'
        have hw' := Ctx.kept_R (C := CtxT z G1 G w) (o := o) hw'
        exact ⟨z, _, _, rfl, hw'.1, hw'.2, rfl, _, _, _, rfl⟩
end Go.Proofs.Ytahhihhfjimppaa
/- The document's compile, in a typed heap: Right. -/
namespace Go.Proofs.Ytahhihhfjimppaa
open Go.RowKit
set_option linter.unusedSimpArgs false
set_option linter.unusedVariables false
set_option maxRecDepth 100000

structure RightC (c : Cd) (B : Nat → Bd) : Prop where
  nf : c.nf ≤ 32
  m0 : 0 ≤ c.main
  m1 : c.main < c.nf
  nc : c.nc ≤ 16
  maps : 0 ≤ c.maps ∧ c.maps ≤ 8
  stacks : 0 ≤ c.stacks ∧ c.stacks ≤ 8
  chans : 0 ≤ c.chans ∧ c.chans ≤ 8
  b : Bods c B
theorem idx_cell {c : Cd} {B : Nat → Bd} {G : Gh} {w : World} (hc : c.Is B G w) {i : Int} {k : Nat} (hk : k < c.nc) (hi : i = k) {K : Value → Prop} (h : ∀ g o x, g < w.heap.size → G g = none → w.cell? ⟨g, o, none⟩ = some (.int .i64 x) → K (.pointer (some ⟨g, o, none⟩))) : IdxVC c.Ac c.nc i 1 K := by
  obtain ⟨g, o, x, h1, h2, h3, h4⟩ := hc.c k hk
  refine idx_ok h1 k hi hk ?_
  rw [Nat.mul_one]
  exact h g (o + k) x h2 h3 h4
theorem Cd.Is.non {c : Cd} {B : Nat → Bd} {G : Gh} {w : World} (h : c.Is B G w) : c.Is B Gh.none w := by
  refine ⟨fun k hk => ?_, fun k hk j hj => ?_, fun j hj => ?_⟩
  · obtain ⟨g, o, h1, h2, h3, h4⟩ := h.f k hk
    exact ⟨g, o, h1, h2, rfl, h4⟩
  · obtain ⟨g, o, h1, h2, h3, h4⟩ := h.b k hk j hj
    exact ⟨g, o, h1, h2, rfl, h4⟩
  · obtain ⟨g, o, x, h1, h2, h3, h4⟩ := h.c j hj
    exact ⟨g, o, x, h1, h2, rfl, h4⟩
set_option maxHeartbeats 4000000 in
theorem rightC_B (c : Cd) (B : Nat → Bd) (G : Gh) (w : World) (hc' : c.Is B G w) : Calls Try.prog 26 #[c.val] w (PostB w fun v => ∃ b, v = .bool b ∧ (b = true → RightC c B)) := by
  have hc := hc'.non
  refine Calls.mono (R := PostT ⟨false, 0⟩ Gh.none w (fun _ _ v => ∃ b, v = .bool b ∧ (b = true → RightC c B))) ?_ fun e w' h => PostB.ofT h
  have tw : TW ⟨false, 0⟩ Gh.none w := TW.nil _ w
  refine go26 (by rfl) (CtxT ⟨false, 0⟩ Gh.none Gh.none w) (CtxT.start tw) ?_
  conv => whnf
  refine JoinVC.on (X := Bool) (fun q => [(1, .p 1 0), (53, .v (.bool q))]) (fun _ => [(1, 54, c.l)]) (fun _ => CtxT ⟨false, 0⟩ Gh.none Gh.none w) (fun q => q = false → 1 ≤ c.nf ∧ c.nf ≤ 32 ∧ 0 ≤ c.main ∧ c.main < c.nf ∧ c.nc ≤ 16 ∧ (0 ≤ c.maps ∧ c.maps ≤ 8) ∧ (0 ≤ c.stacks ∧ c.stacks ≤ 8) ∧ (0 ≤ c.chans ∧ c.chans ≤ 8)) ?_ ?_
  · conv => whnf
    repeat' (first
      | (refine splitB.dec (fun h => ?_) (fun h => ?_) <;> conv => whnf)
      | (refine splitB.not (fun h => ?_) (fun h => ?_) <;> conv => whnf)
      | (refine CallVC.readT [.int .i64 c.maps] en33 (fun v => ∃ b, v = .bool b ∧ (b = true → 0 ≤ c.maps ∧ c.maps ≤ 8)) (fun w' _ _ => objects_B c.maps w') ?_; rintro v ⟨b0, rfl, hb0⟩; conv => whnf)
      | (refine CallVC.readT [.int .i64 c.stacks] en33 (fun v => ∃ b, v = .bool b ∧ (b = true → 0 ≤ c.stacks ∧ c.stacks ≤ 8)) (fun w' _ _ => objects_B c.stacks w') ?_; rintro v ⟨b1, rfl, hb1⟩; conv => whnf)
      | (refine CallVC.readT [.int .i64 c.chans] en33 (fun v => ∃ b, v = .bool b ∧ (b = true → 0 ≤ c.chans ∧ c.chans ≤ 8)) (fun w' _ _ => objects_B c.chans w') ?_; rintro v ⟨b2, rfl, hb2⟩; conv => whnf)
      | exact Wk.on true (fun h => by cases h) ⟨rfl, rfl, trivial⟩ ⟨rfl, trivial⟩
      | exact Wk.on (!b2) (fun h => ⟨by omega, by omega, by omega, by omega, by omega, hb0 (by assumption), hb1 (by assumption), hb2 (by simpa using h)⟩) ⟨rfl, rfl, trivial⟩ ⟨rfl, trivial⟩)
  · intro q r hq
    conv => whnf
    refine splitB.intro (fun h => ?_) (fun h => ?_)
    · conv => whnf
      intro w' hw'
      exact ⟨_, _, _, rfl, hw'.1, hw'.2, false, rfl, fun h => by cases h⟩
    obtain ⟨n1, n2, m0, m1, nc, hm, hs, hch⟩ := hq h
    clear hq
    conv => whnf
    refine LoopVC.on (X := Nat) (fun k => [(1, .p 1 0), (3, .v (.int .i64 k))]) (fun _ => [(1, 54, c.l)]) (fun _ => CtxT ⟨false, 0⟩ Gh.none Gh.none w) (fun k => k ≤ c.nc) (fun k => c.nc - k) 0 (Nat.zero_le _) ⟨rfl, rfl, trivial⟩ ⟨rfl, trivial⟩ ?_
    intro k r2 hk
    conv => whnf
    refine splitB.dec (fun h1 => ?_) (fun h1 => ?_)
    · have h1 : k < c.nc := by omega
      conv => whnf
      repeat' (first
        | (refine JoinVC.go ?_; conv => whnf)
        | (refine idx_cell hc h1 rfl ?_; intro g1 o1 x1 hg1 hG1 hc1; conv => whnf)
        | (refine ldO ti3_ok rfl hc1 hg1 hG1 ?_; conv => whnf)
        | (refine splitB.dec (fun h => ?_) (fun h => ?_) <;> conv => whnf)
        | exact rnd (k + 1) (by show c.nc - (k + 1) < c.nc - k; omega) (by show k + 1 ≤ c.nc; omega) ⟨rfl, by show _ = _; rw [← wnat k (by omega)]; rfl, trivial⟩ ⟨rfl, trivial⟩
        | (intro w' hw'; exact ⟨_, _, _, rfl, hw'.1, hw'.2, false, rfl, fun h => by cases h⟩))
    · conv => whnf
      refine LoopVC.on (X := Gh × Nat) (fun (G1, k) => [(1, .p 1 0), (4, .v (.int .i64 k))]) (fun _ => [(1, 54, c.l)]) (fun (G1, k) => CtxT ⟨false, 0⟩ G1 Gh.none w) (fun (G1, k) => k ≤ c.nf ∧ (∀ i, i < k → (B i).n ≤ 400) ∧ (∀ i, i < k → (B i).locals ≤ 16)) (fun (G1, k) => c.nf - k) (Gh.none, 0) ⟨Nat.zero_le _, fun i hi => by omega, fun i hi => by omega⟩ ⟨rfl, rfl, trivial⟩ ⟨rfl, trivial⟩ ?_
      rintro ⟨G1, k2⟩ r3 ⟨hk2, hB1, hB2⟩
      have hk2 : k2 ≤ c.nf := hk2
      have hB1 : ∀ i, i < k2 → (B i).n ≤ 400 := hB1
      have hB2 : ∀ i, i < k2 → (B i).locals ≤ 16 := hB2
      conv => whnf
      refine splitB.dec (fun h2 => ?_) (fun h2 => ?_)
      · have h2 : k2 < c.nf := by have h2 : (k2 : Int) < c.nf := h2; omega
        conv => whnf
        refine idx_fun hc h2 rfl ?_
        intro g2 o2 hg2 hG2 hc2
        conv => whnf
        refine ldOs ti85_ok rfl (B k2).l rfl hc2 hg2 hG2 ?_
        conv => whnf
        refine JoinVC.on (X := Bool × Gh) (fun (q, G2) => [(1, .p 1 0), (4, .v (.int .i64 k2)), (5, .p 5 0), (114, .v (.bool q))]) (fun _ => [(1, 54, c.l), (5, 85, (B k2).l)]) (fun (q, G2) => CtxT ⟨false, 0⟩ G2 Gh.none w) (fun (q, G2) => q = false → (B k2).n ≤ 400 ∧ (B k2).locals ≤ 16) ?_ ?_
        · conv => whnf
          repeat' (first
            | (refine splitB.dec (fun h => ?_) (fun h => ?_) <;> conv => whnf)
            | (refine CallVC.ofT [c.val, .int .i64 k2] en34 (HgtΦ ⟨false, 0⟩) (fun w' tw' ex' => heights_T _ G1 w' tw' c B (hc.ex ex') k2 (fun i hi e => by have e : k2 = i := (by omega); subst e; omega)) ?_; rintro z3 G3 v l3 ⟨hz3, A3, n3, c3, rfl⟩; subst hz3; conv => whnf)
            | exact Wk.on (X := Bool × Gh) (true, G1) (fun h => by cases h) ⟨rfl, rfl, rfl, rfl, trivial⟩ ⟨rfl, rfl, trivial⟩
            | exact Wk.on (X := Bool × Gh) (_, G3) (fun _ => ⟨by omega, by omega⟩) ⟨rfl, rfl, rfl, rfl, trivial⟩ ⟨rfl, rfl, trivial⟩)
        · rintro ⟨q, G2⟩ r4 hq
          have hq : q = false → (B k2).n ≤ 400 ∧ (B k2).locals ≤ 16 := hq
          conv => whnf
          refine splitB.intro (fun h => ?_) (fun h => ?_)
          · conv => whnf
            intro w' hw'
            exact ⟨_, _, _, rfl, hw'.1, hw'.2, false, rfl, fun h => by cases h⟩
          obtain ⟨hb1, hb2⟩ := hq h
          have hbi := hc.b k2 h2
          conv => whnf
          refine LoopVC.on (X := Nat) (fun i => [(1, .p 1 0), (4, .v (.int .i64 k2)), (5, .p 5 0), (6, .v (.int .i64 i))]) (fun _ => [(1, 54, c.l), (5, 85, (B k2).l)]) (fun i => CtxT ⟨false, 0⟩ G2 Gh.none w) (fun i => i ≤ (B k2).n) (fun i => (B k2).n - i) 0 (Nat.zero_le _) ⟨rfl, rfl, rfl, rfl, trivial⟩ ⟨rfl, rfl, trivial⟩ ?_
          intro i r5 hi
          conv => whnf
          refine splitB.dec (fun h3 => ?_) (fun h3 => ?_)
          · have h3 : i < (B k2).n := by omega
            conv => whnf
            repeat' (first
              | (refine idxA hbi h3 rfl ?_; intro g3 o3 hia; conv => whnf)
              | (refine ldA (by assumption) ?_; intro y0 y1 y2 y3; conv => whnf)
              | (refine CallVC.readT [c.val, (B k2).val, .agg #[.int .i64 y0, .int .i64 y1, .int .i64 y2, .int .i64 y3]] en35 isB (fun w' tw' ex' => may_B c B G2 w' (hc.ex ex') (B k2) y0 y1 y2 y3) ?_; rintro v ⟨y, rfl⟩; conv => whnf)
              | (refine splitB.not (fun h => ?_) (fun h => ?_) <;> conv => whnf)
              | (refine And.intro ?_ ?_ <;> conv => whnf)
              | exact rnd (i + 1) (by show (B k2).n - (i + 1) < (B k2).n - i; omega) (by show i + 1 ≤ (B k2).n; omega) ⟨rfl, rfl, rfl, by show _ = _; rw [← wnat i (by omega)]; rfl, trivial⟩ ⟨rfl, rfl, trivial⟩
              | (intro w' hw'; exact ⟨_, _, _, rfl, hw'.1, hw'.2, false, rfl, fun h => by cases h⟩))
          · conv => whnf
            refine rnd (X := Gh × Nat) (G2, k2 + 1) (by show c.nf - (k2 + 1) < c.nf - k2; omega) ⟨by show k2 + 1 ≤ c.nf; omega, fun i hi => ?_, fun i hi => ?_⟩ ⟨rfl, by show _ = _; rw [← wnat k2 (by omega)]; rfl, trivial⟩ ⟨rfl, trivial⟩
            · have hi : i < k2 + 1 := hi
              by_cases e : i = k2
              · rw [e]; exact hb1
              · exact hB1 i (by omega)
            · have hi : i < k2 + 1 := hi
              by_cases e : i = k2
              · rw [e]; exact hb2
              · exact hB2 i (by omega)
      · have h2 : k2 = c.nf := by have h2 : ¬ (k2 : Int) < c.nf := h2; omega
        have hmm : c.main.toNat < c.nf := by omega
        conv => whnf
        refine idx_fun hc hmm (by omega) ?_
        intro g2 o2 hg2 hG2 hc2
        conv => whnf
        refine ldO ti3_ok rfl (hc2 0 _ rfl) hg2 hG2 ?_
        conv => whnf
        intro w' hw'
        exact ⟨_, _, _, rfl, hw'.1, hw'.2, _, rfl, fun _ => ⟨n2, m0, m1, nc, hm, hs, hch, ⟨fun k hk => hB1 k (by omega), fun k hk => hB2 k (by omega)⟩⟩⟩
end Go.Proofs.Ytahhihhfjimppaa
/- The document's elision, in a typed heap: Run. -/
namespace Go.Proofs.Ytahhihhfjimppaa
open Go.RowKit
set_option linter.unusedSimpArgs false
set_option linter.unusedVariables false
set_option maxRecDepth 100000

section
variable {z : Zp} {G G0 : Gh} {w0 : World}
/-- append, of a row that is not typed -/
theorem app_S (r : RT) {ats : Array TypeId} {ty : TypeId} {vs : Array Value} {K : Value → Ctx → Prop} {A : Option Addr} {n c : Nat} (hs : Sl G r A n c) (x : Value) (k : Nat) (hsrc : ∀ w, TW z G w → Ex G0 w0 G w → ∃ news, Els z G r k news ∧ Src Try.prog r.size r.sl x k news w) (m : Nat) (hm : m = n + k) (hn : m ≤ 1000000000)
    (h : ∀ G' A'' c'', G.le G' → Sl G' r A'' m c'' → K (.slice A'' m c'') (CtxT z G' G0 w0)) (hats : ats = #[r.sl, r.sl] := by rfl) (hvs : vs = #[.slice A n c, x] := by rfl) : SemVC Try.prog (CtxT z G G0 w0) (Builtin.append_ ats ty vs) K := by
  constructor
  subst hats hvs hm
  intro w hw
  obtain ⟨news, he, hsrc⟩ := hsrc w hw.1 hw.2
  obtain ⟨i, hi, h0, h1, h2⟩ := info_parts (info_rt r)
  have := r.bytes_le
  have hb : (n + k) * r.bytes ≤ 1000000000 * 96 := Nat.mul_le_mul hn this
  obtain ⟨A'', c'', w', G', hrun, h3, h4, h5⟩ := run_appT hw.1 r.sl r.sl ty r i r.zero r.bytes (under_rt r) hi h0 h1 h2 (zero_size r) (zero_el z G r) A n c hs _ k news he hsrc (by omega) (by omega)
  obtain ⟨h6, h7⟩ := goesT hw h3 h4
  exact ⟨_, w', _, hrun, h6, h7, h G' A'' c'' h4.le h5⟩
end
theorem cells_src {c : Cd} {B : Nat → Bd} {G : Gh} {w : World} (hc : c.Is B G w) (z : Zp) : ∃ news, Els z G .int c.nc news ∧ Src Try.prog RT.int.size RT.int.sl (.slice c.Ac c.nc c.cc) c.nc news w := by
  have hx : ∃ f : Nat → Int, ∀ j, j < c.nc → ∃ g o, c.Ac = some ⟨g, o, none⟩ ∧ w.cell? ⟨g, o + j, none⟩ = some (.int .i64 (f j)) := by
    have h : ∀ j, ∃ x : Int, j < c.nc → ∃ g o, c.Ac = some ⟨g, o, none⟩ ∧ w.cell? ⟨g, o + j, none⟩ = some (.int .i64 x) := fun j => by
      by_cases hj : j < c.nc
      · obtain ⟨g, o, x, h1, _, _, h4⟩ := hc.c j hj
        exact ⟨x, fun _ => ⟨g, o, h1, h4⟩⟩
      · exact ⟨0, fun h => absurd h hj⟩
    exact ⟨fun j => Classical.choose (h j), fun j => Classical.choose_spec (h j)⟩
  obtain ⟨f, hf⟩ := hx
  have hl : (is ((List.range c.nc).map f)).length = c.nc := by simp [is]
  have hone : ∀ u ∈ is ((List.range c.nc).map f), u.oneCell' = true := by
    intro u hu
    simp only [is, List.mem_map] at hu
    obtain ⟨x, _, rfl⟩ := hu
    rfl
  refine ⟨is ((List.range c.nc).map f), ?_, ?_⟩
  · have := els_is z G ((List.range c.nc).map f)
    simpa using this
  · by_cases h0 : c.nc = 0
    · have e : is ((List.range c.nc).map f) = [] := by rw [h0]; rfl
      rw [e, h0]
      rcases c.Ac with _ | ad
      · exact Src.ofNil w (under_rt .int) c.cc
      · exact Src.ofSlice w (under_rt .int) ad _ c.cc [] (by simp) (fun j u hu => by simp at hu) (by simp)
    · obtain ⟨g, o, h1, _⟩ := hf 0 (by omega)
      rw [h1]
      refine Src.ofSlice w (under_rt .int) _ _ c.cc _ (by rw [hl]; simp [RT.size]) (fun j u hu => ?_) hone
      have hj : j < c.nc := by
        have := (List.getElem?_eq_some_iff.1 hu).1
        omega
      obtain ⟨g', o', h2, h3⟩ := hf j hj
      rw [h1] at h2
      injection h2 with h2
      injection h2 with h4 h5
      subst h4 h5
      rw [Addr.add_lit, h3]
      simpa [is, hj] using hu
theorem new_B (k : Int) (w : World) : Calls Try.prog 36 #[.int .i64 k] w (PostB w fun v => v = (Cn.mk k none 0 0 none 0 0).val) := by
  refine go36 (by rfl) (CtxB w) (CtxB.start w) ?_
  conv => whnf
  repeat' (first
    | (refine JoinVC.go ?_; conv => whnf)
    | (intro w' hw'; exact ⟨_, rfl, hw', rfl⟩))
/-- an elision, as a value -/
def Wd.e (d : Wd) : Value := .agg #[.int .i64 d.err, .int .i64 d.value, .slice d.Ac d.nc d.cc, .slice d.Am d.nm d.cm, .slice d.As d.ns d.cs, .slice d.Ah d.nh d.ch, .slice d.Au d.nu d.cu, .slice d.Ap d.np d.cp, .int .i64 d.steps, .int .i64 d.tasks, .slice d.Af d.nf d.cf]
theorem Wd.ok_zero (G : Gh) (e many : Int) : (Wd.Ok { Wd.zero with err := e, many := many } G) := ⟨Sl.nil _ _, Sl.nil _ _, Sl.nil _ _, Sl.nil _ _, Sl.nil _ _, Sl.nil _ _, Sl.nil _ _⟩
theorem els_new (z : Zp) (G : Gh) (k : Int) : Els z G .content 1 [.int .i64 k, .slice none 0 0, .slice none 0 0] :=
  Els.one rfl ⟨k, none, 0, 0, none, 0, 0, rfl, rfl, rfl, Sl.nil _ _, Sl.nil _ _, fun _ => rfl, Nat.le_refl _, Nat.zero_le _⟩
/-- what comes of a code -/
def RunΦ (z' : Zp) (G' : Gh) (v : Value) : Prop := ∃ d : Wd, v = d.e ∧ d.Ok G' ∧ d.nu ≤ 1000000 ∧ d.np ≤ 1000000 ∧ (d.err = 0 → d.tasks ≤ 1 → z'.s = true ∧ d.np = 0)
set_option maxHeartbeats 4000000 in
theorem run10_T (c : Cd) (B : Nat → Bd) (w : World) (hc : c.Is B Gh.none w) : Calls Try.prog 27 #[c.val] w (PostT ⟨true, 0⟩ Gh.none w RunΦ) := by
  have tw : TW ⟨true, 0⟩ Gh.none w := TW.nil _ w
  refine go27 (by rfl) (CtxT ⟨true, 0⟩ Gh.none Gh.none w) (CtxT.start tw) ?_
  conv => whnf
  refine CallVC.readT [c.val] en26 (fun v => ∃ b, v = .bool b ∧ (b = true → RightC c B)) (fun w' tw' ex' => rightC_B c B Gh.none w' (hc.ex ex')) ?_
  rintro v ⟨b, rfl, hb⟩
  conv => whnf
  refine splitB.not (fun h => ?_) (fun h => ?_)
  · conv => whnf
    intro w' hw'
    exact ⟨_, _, _, rfl, hw'.1, hw'.2, { Wd.zero with err := 1 }, rfl, Wd.ok_zero _ _ _, Nat.zero_le _, Nat.zero_le _, fun h => absurd h (by decide)⟩
  have R := hb h
  have r1 := R.nc
  have r2 := R.maps
  have r3 := R.stacks
  have r4 := R.chans
  clear hb
  conv => whnf
  refine bs0 .int ?_
  intro G1 A1 l1 s1
  conv => whnf
  refine app_S .int s1 (.slice c.Ac c.nc c.cc) c.nc (fun w' tw' ex' => cells_src (hc.ex ex') _) c.nc (by omega) (by omega) ?_
  intro G2 A2 c2 l2 s2
  conv => whnf
  refine LoopVC.on (X := Gh × Option Addr × Nat × Nat) (fun (G', A, n, cc) => [(1, .p 1 0), (2, .p 2 0), (3, .p 3 0), (4, .v (.int .i64 n))]) (fun (G', A, n, cc) => [(1, 54, c.l), (2, 29, [.int .i64 0, .int .i64 0, .slice none 0 0, .slice none 0 0, .slice none 0 0, .slice none 0 0, .slice none 0 0, .slice none 0 0, .int .i64 0, .int .i64 0, .slice none 0 0]), (3, 92, Wd.l { Wd.zero with Ac := A2, nc := c.nc, cc := c2, Am := A, nm := n, cm := cc, many := 1 })]) (fun (G', A, n, cc) => CtxT ⟨true, 0⟩ G' Gh.none w) (fun (G', A, n, cc) => Sl G' .int A2 c.nc c2 ∧ Sl G' .content A n cc ∧ (n : Int) ≤ c.maps) (fun (G', A, n, cc) => 8 - n) (G2, none, 0, 0) ⟨s2, Sl.nil _ _, by show (0 : Int) ≤ c.maps; omega⟩ ⟨rfl, rfl, rfl, rfl, trivial⟩ ⟨rfl, rfl, rfl, trivial⟩ ?_
  rintro ⟨G3, A3, n3, c3⟩ r5 ⟨s2, s3, hn3⟩
  replace s2 : Sl G3 .int A2 c.nc c2 := s2
  replace s3 : Sl G3 .content A3 n3 c3 := s3
  replace hn3 : (n3 : Int) ≤ c.maps := hn3
  conv => whnf
  refine splitB.dec (fun h3 => ?_) (fun h3 => ?_)
  · have h3 : (n3 : Int) < c.maps := h3
    conv => whnf
    repeat' (first
      | (refine CallVC.readT [.int .i64 1] en36 (fun v => v = (Cn.mk 1 none 0 0 none 0 0).val) (fun w' _ _ => new_B 1 w') ?_; rintro v rfl; conv => whnf)
      | (refine bs_agg .content #[.int .i64 1, .slice none 0 0, .slice none 0 0] rfl (els_new _ _ 1) ?_; intro G4 A4 l4 s4; replace s3 := s3.mono l4; replace s2 := s2.mono l4; conv => whnf)
      | (refine app_T .content s3 s4 (n3 + 1) rfl (by omega) ?_; intro G5 A5 c5 l5 s5; replace s2 := s2.mono l5; conv => whnf)
      | (refine And.intro ?_ ?_ <;> conv => whnf)
      | exact rnd (X := Gh × Option Addr × Nat × Nat) (G5, A5, n3 + 1, c5) (by show 8 - (n3 + 1) < 8 - n3; omega) ⟨s2, s5, by show ((n3 + 1 : Nat) : Int) ≤ c.maps; omega⟩ ⟨rfl, rfl, rfl, by show _ = _; rw [← wnat n3 (by omega)]; rfl, trivial⟩ ⟨rfl, rfl, rfl, trivial⟩)
  · have h3 : (n3 : Int) = c.maps := by have h3 : ¬ (n3 : Int) < c.maps := h3; omega
    clear s1
    conv => whnf
    refine LoopVC.on (X := Gh × Option Addr × Nat × Nat) (fun (G', A, n, cc) => [(1, .p 1 0), (2, .p 2 0), (3, .p 3 0), (5, .v (.int .i64 n))]) (fun (G', A, n, cc) => [(1, 54, c.l), (2, 29, [.int .i64 0, .int .i64 0, .slice none 0 0, .slice none 0 0, .slice none 0 0, .slice none 0 0, .slice none 0 0, .slice none 0 0, .int .i64 0, .int .i64 0, .slice none 0 0]), (3, 92, Wd.l { Wd.zero with Ac := A2, nc := c.nc, cc := c2, Am := A3, nm := n3, cm := c3, As := A, ns := n, cs := cc, many := 1 })]) (fun (G', A, n, cc) => CtxT ⟨true, 0⟩ G' Gh.none w) (fun (G', A, n, cc) => Sl G' .int A2 c.nc c2 ∧ Sl G' .content A3 n3 c3 ∧ Sl G' .content A n cc ∧ (n : Int) ≤ c.stacks) (fun (G', A, n, cc) => 8 - n) (G3, none, 0, 0) ⟨s2, s3, Sl.nil _ _, by show (0 : Int) ≤ c.stacks; omega⟩ ⟨rfl, rfl, rfl, rfl, trivial⟩ ⟨rfl, rfl, rfl, trivial⟩ ?_
    rintro ⟨G10, A10, n10, c10⟩ r10 ⟨s2, s3, s10, hn10⟩
    replace s2 : Sl G10 .int A2 c.nc c2 := s2
    replace s3 : Sl G10 .content A3 n3 c3 := s3
    replace s10 : Sl G10 .content A10 n10 c10 := s10
    replace hn10 : (n10 : Int) ≤ c.stacks := hn10
    conv => whnf
    refine splitB.dec (fun h10 => ?_) (fun h10 => ?_)
    · have h10 : (n10 : Int) < c.stacks := h10
      conv => whnf
      repeat' (first
        | (refine CallVC.readT [.int .i64 2] en36 (fun v => v = (Cn.mk 2 none 0 0 none 0 0).val) (fun w' _ _ => new_B 2 w') ?_; rintro v rfl; conv => whnf)
        | (refine bs_agg .content #[.int .i64 2, .slice none 0 0, .slice none 0 0] rfl (els_new _ _ 2) ?_; intro G4 A4 l4 s4; replace s10 := s10.mono l4; replace s2 := s2.mono l4; replace s3 := s3.mono l4; conv => whnf)
        | (refine app_T .content s10 s4 (n10 + 1) rfl (by omega) ?_; intro G5 A5 c5 l5 s5; replace s2 := s2.mono l5; replace s3 := s3.mono l5; conv => whnf)
        | (refine And.intro ?_ ?_ <;> conv => whnf)
        | exact rnd (X := Gh × Option Addr × Nat × Nat) (G5, A5, n10 + 1, c5) (by show 8 - (n10 + 1) < 8 - n10; omega) ⟨s2, s3, s5, by show ((n10 + 1 : Nat) : Int) ≤ c.stacks; omega⟩ ⟨rfl, rfl, rfl, by show _ = _; rw [← wnat n10 (by omega)]; rfl, trivial⟩ ⟨rfl, rfl, rfl, trivial⟩)
    · have h10 : (n10 : Int) = c.stacks := by have h10 : ¬ (n10 : Int) < c.stacks := h10; omega
      conv => whnf
      refine LoopVC.on (X := Gh × Option Addr × Nat × Nat) (fun (G', A, n, cc) => [(1, .p 1 0), (2, .p 2 0), (3, .p 3 0), (6, .v (.int .i64 n))]) (fun (G', A, n, cc) => [(1, 54, c.l), (2, 29, [.int .i64 0, .int .i64 0, .slice none 0 0, .slice none 0 0, .slice none 0 0, .slice none 0 0, .slice none 0 0, .slice none 0 0, .int .i64 0, .int .i64 0, .slice none 0 0]), (3, 92, Wd.l { Wd.zero with Ac := A2, nc := c.nc, cc := c2, Am := A3, nm := n3, cm := c3, As := A10, ns := n10, cs := c10, Ah := A, nh := n, ch := cc, many := 1 })]) (fun (G', A, n, cc) => CtxT ⟨true, 0⟩ G' Gh.none w) (fun (G', A, n, cc) => Sl G' .int A2 c.nc c2 ∧ Sl G' .content A3 n3 c3 ∧ Sl G' .content A10 n10 c10 ∧ Sl G' .content A n cc ∧ (n : Int) ≤ c.chans) (fun (G', A, n, cc) => 8 - n) (G10, none, 0, 0) ⟨s2, s3, s10, Sl.nil _ _, by show (0 : Int) ≤ c.chans; omega⟩ ⟨rfl, rfl, rfl, rfl, trivial⟩ ⟨rfl, rfl, rfl, trivial⟩ ?_
      rintro ⟨G20, A20, n20, c20⟩ r20 ⟨s2, s3, s10, s20, hn20⟩
      replace s2 : Sl G20 .int A2 c.nc c2 := s2
      replace s3 : Sl G20 .content A3 n3 c3 := s3
      replace s10 : Sl G20 .content A10 n10 c10 := s10
      replace s20 : Sl G20 .content A20 n20 c20 := s20
      replace hn20 : (n20 : Int) ≤ c.chans := hn20
      conv => whnf
      refine splitB.dec (fun h20 => ?_) (fun h20 => ?_)
      · have h20 : (n20 : Int) < c.chans := h20
        conv => whnf
        repeat' (first
          | (refine CallVC.readT [.int .i64 3] en36 (fun v => v = (Cn.mk 3 none 0 0 none 0 0).val) (fun w' _ _ => new_B 3 w') ?_; rintro v rfl; conv => whnf)
          | (refine bs_agg .content #[.int .i64 3, .slice none 0 0, .slice none 0 0] rfl (els_new _ _ 3) ?_; intro G4 A4 l4 s4; replace s20 := s20.mono l4; replace s2 := s2.mono l4; replace s3 := s3.mono l4; replace s10 := s10.mono l4; conv => whnf)
          | (refine app_T .content s20 s4 (n20 + 1) rfl (by omega) ?_; intro G5 A5 c5 l5 s5; replace s2 := s2.mono l5; replace s3 := s3.mono l5; replace s10 := s10.mono l5; conv => whnf)
          | (refine And.intro ?_ ?_ <;> conv => whnf)
          | exact rnd (X := Gh × Option Addr × Nat × Nat) (G5, A5, n20 + 1, c5) (by show 8 - (n20 + 1) < 8 - n20; omega) ⟨s2, s3, s10, s5, by show ((n20 + 1 : Nat) : Int) ≤ c.chans; omega⟩ ⟨rfl, rfl, rfl, by show _ = _; rw [← wnat n20 (by omega)]; rfl, trivial⟩ ⟨rfl, rfl, rfl, trivial⟩)
      · have h20 : (n20 : Int) = c.chans := by have h20 : ¬ (n20 : Int) < c.chans := h20; omega
        conv => whnf
        refine CallVC.ofT [Wd.val { Wd.zero with Ac := A2, nc := c.nc, cc := c2, Am := A3, nm := n3, cm := c3, As := A10, ns := n10, cs := c10, Ah := A20, nh := n20, ch := c20, many := 1 }, c.val, .int .i64 c.main, .slice none 0 0, .slice none 0 0, .int .i64 0] en37 (TaskΦ ⟨true, 0⟩ { Wd.zero with Ac := A2, nc := c.nc, cc := c2, Am := A3, nm := n3, cm := c3, As := A10, ns := n10, cs := c10, Ah := A20, nh := n20, ch := c20, many := 1 } 0) (fun w' tw' ex' => task_T ⟨true, 0⟩ G20 w' tw' c B (hc.ex ex') R.b { Wd.zero with Ac := A2, nc := c.nc, cc := c2, Am := A3, nm := n3, cm := c3, As := A10, ns := n10, cs := c10, Ah := A20, nh := n20, ch := c20, many := 1 } ⟨s2, s3, s10, s20, Sl.nil _ _, Sl.nil _ _, Sl.nil _ _⟩ ⟨rfl, by omega, Nat.le_refl _, Nat.le_refl _, Nat.le_refl _, Nat.le_refl _⟩ ⟨rfl, h3, h10, h20, r1, r2.2, r3.2, r4.2⟩ c.main 0 none 0 0 (Sl.nil _ _) (by omega) none 0 0 (Sl.nil _ _) (Nat.le_refl _) (fun _ => rfl)) ?_
        rintro z6 G6 v l6 ⟨d6, t6, x6, at6, rfl, hd6, F⟩
        have q1 : d6.nu + 5000 * 0 ≤ 0 + 5000 * t6 := F.b.nu
        have q2 : d6.np + 15000 * 0 ≤ 0 + 0 + 15000 * t6 := F.b.np
        have q3 := F.b.t64
        have q4 := F.b.tk
        have q5 := F.lt
        conv => whnf
        refine splitB.ne (fun he => ?_) (fun he => ?_)
        · conv => whnf
          intro w' hw'
          exact ⟨_, _, _, rfl, hw'.1, hw'.2, { Wd.zero with err := d6.err }, rfl, Wd.ok_zero _ _ 0, Nat.zero_le _, Nat.zero_le _, fun h => absurd h he⟩
        · conv => whnf
          intro w' hw'
          exact ⟨_, _, _, rfl, hw'.1, hw'.2, { d6 with value := x6 }, rfl, ⟨hd6.c, hd6.m, hd6.s, hd6.h, hd6.u, hd6.p, hd6.f⟩, by show d6.nu ≤ _; omega, by show d6.np ≤ _; omega, fun _ h => by
            have h : d6.tasks ≤ 1 := h
            have := F.one (by omega)
            exact ⟨this.1 rfl, this.2⟩⟩
end Go.Proofs.Ytahhihhfjimppaa
