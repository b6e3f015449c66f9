/- Texts for the law BoundSerial, part 8: no statement of its own, lemmas for the proof; their conditions stand in them. -/
import Derived.Test.YtahhihhfjimppaaBoundSerialM7
/- The document's vm, in a typed heap: took. -/
namespace Go.Proofs.Ytahhihhfjimppaa
open Go.RowKit
set_option linter.unusedSimpArgs false
set_option linter.unusedVariables false
set_option maxRecDepth 100000

structure TookOk (w : World) (c : Cd) (B : Nat → Bd) (f : Fm) (ins : Nat) (op a b d n : Int) : Prop where
  pos : 0 ≤ n
  k1 : op = 1 → n = 0
  k2 : op = 2 → n = 0 ∧ 0 ≤ a ∧ a < f.nl
  k3 : op = 3 → 0 ≤ a ∧ a < f.nl ∧ (Awaits w f.Ak f.nk a ∧ n = 0 ∨ ¬ Awaits w f.Ak f.nk a ∧ n = 1)
  k4 : op = 4 → n = 0 ∧ 0 ≤ a ∧ a < c.nc
  k5 : op = 5 → n = 1 ∧ 0 ≤ a ∧ a < c.nc
  k6 : op = 6 ∨ op = 7 ∨ op = 8 ∨ op = 9 ∨ op = 10 ∨ op = 19 → n = 2
  k11 : op = 11 → n ≤ 2 ∧ 1 ≤ a ∧ a ≤ 7 ∧ 0 ≤ b ∧ b < c.many a
  k12 : op = 12 ∨ op = 18 → n = 1
  k13 : op = 13 → 0 ≤ a ∧ a < c.nf ∧ -1 ≤ d ∧ d < f.nl ∧ n = b ∧ b = (B a.toNat).args
  k14 : op = 14 → n = 0
  k15 : op = 15 → n = 0 ∧ 0 ≤ a ∧ a < ins
  k16 : op = 16 → n = 1 ∧ 0 ≤ a ∧ a < ins
  k17 : op = 17 → (0 < f.nk ∧ n = 0 ∨ f.nk = 0 ∧ n = 1)
  all : 1 ≤ op ∧ op ≤ 19

theorem Awaits.below {G : Gh} {w w' : World} {z : Zp} (tw : TW z G w) {A : Option Addr} {n c : Nat} (hk : Sl G .kid A n c) (h : Below w.heap.size w w') (x : Int) : Awaits w' A n x ↔ Awaits w A n x := by
  have key : ∀ i g o, i < n → A = some ⟨g, o, none⟩ → w'.cell? ⟨g, o + i * 2 + 1, none⟩ = w.cell? ⟨g, o + i * 2 + 1, none⟩ := fun i g o hi hA => by
    obtain ⟨b, off, hA', hb, _⟩ := hk.at_ tw hi
    rw [hA] at hA'
    injection hA' with hA'
    injection hA' with h1 h2
    subst h1
    exact below_cell h hb
  constructor
  · rintro ⟨i, g, o, h1, h2, h3⟩; exact ⟨i, g, o, h1, h2, (key i g o h1 h2).symm.trans h3⟩
  · rintro ⟨i, g, o, h1, h2, h3⟩; exact ⟨i, g, o, h1, h2, (key i g o h1 h2).trans h3⟩
section
variable {w : World} {c : Cd} {B : Nat → Bd} {f : Fm} {ins : Nat} {op a b d : Int}
theorem tk1 (h : op = 1) : TookOk w c B f ins op a b d 0 := by subst h; constructor <;> omega
theorem tk2 (h : op = 2) (h0 : 0 ≤ a) (h1 : a < f.nl) (n : Int) (hn : n = 0) : TookOk w c B f ins op a b d n := by subst h hn; constructor <;> omega
theorem tk3a (h : op = 3) (h0 : 0 ≤ a) (h1 : a < f.nl) (ha : Awaits w f.Ak f.nk a) : TookOk w c B f ins op a b d 0 := by
  subst h; constructor <;> first | omega | exact fun _ => ⟨h0, h1, .inl ⟨ha, rfl⟩⟩
theorem tk3b (h : op = 3) (h0 : 0 ≤ a) (h1 : a < f.nl) (ha : ¬ Awaits w f.Ak f.nk a) (n : Int) (hn : n = 1) : TookOk w c B f ins op a b d n := by
  subst h hn; constructor <;> first | omega | exact fun _ => ⟨h0, h1, .inr ⟨ha, rfl⟩⟩
theorem tk4 (h : op = 4) (h0 : 0 ≤ a) (h1 : a < c.nc) (n : Int) (hn : n = 0) : TookOk w c B f ins op a b d n := by subst h hn; constructor <;> omega
theorem tk5 (h : op = 5) (h0 : 0 ≤ a) (h1 : a < c.nc) (n : Int) (hn : n = 1) : TookOk w c B f ins op a b d n := by subst h hn; constructor <;> omega
theorem tk6 (h : op = 6 ∨ op = 7 ∨ op = 8 ∨ op = 9 ∨ op = 10 ∨ op = 19) : TookOk w c B f ins op a b d 2 := by constructor <;> omega
theorem tk11 (h : op = 11) (n : Int) (hn : 0 ≤ n ∧ n ≤ 2 ∧ 1 ≤ a ∧ a ≤ 7 ∧ 0 ≤ b ∧ b < c.many a) : TookOk w c B f ins op a b d n := by subst h; constructor <;> omega
theorem tk12 (h : op = 12 ∨ op = 18) : TookOk w c B f ins op a b d 1 := by constructor <;> omega
theorem tk13 (h : op = 13) (h0 : 0 ≤ a) (h1 : a < c.nf) (h2 : -1 ≤ d) (h3 : d < f.nl) (h4 : b = (B a.toNat).args) (hb : 0 ≤ b) : TookOk w c B f ins op a b d b := by subst h; constructor <;> omega
theorem tk14 (h : op = 14) : TookOk w c B f ins op a b d 0 := by subst h; constructor <;> omega
theorem tk15 (h : op = 15) (h0 : 0 ≤ a) (h1 : a < ins) (n : Int) (hn : n = 0) : TookOk w c B f ins op a b d n := by subst h hn; constructor <;> omega
theorem tk16 (h : op = 16) (h0 : 0 ≤ a) (h1 : a < ins) (n : Int) (hn : n = 1) : TookOk w c B f ins op a b d n := by subst h hn; constructor <;> omega
theorem tk17a (h : op = 17) (h0 : 0 < f.nk) : TookOk w c B f ins op a b d 0 := by subst h; constructor <;> omega
theorem tk17b (h : op = 17) (h0 : f.nk = 0) : TookOk w c B f ins op a b d 1 := by subst h; constructor <;> omega
end
theorem toNat_lt {a : Int} {n : Nat} (h0 : ¬ a < 0) (h1 : ¬ a ≥ n) : a.toNat < n := by omega
theorem toNat_eq {a : Int} (h0 : ¬ a < 0) : a = (a.toNat : Int) := by omega
theorem idx_fun {c : Cd} {B : Nat → Bd} {G : Gh} {w : World} (hc : c.Is B G w) {i : Int} {k : Nat} (hk : k < c.nf) (hi : i = k) {K : Value → Prop} (h : ∀ g o, g < w.heap.size → G g = none → (∀ j v, [Value.int .i64 (B k).args, .int .i64 (B k).locals, .slice (B k).A (B k).n (B k).c][j]? = some v → w.cell? ⟨g, o + j, none⟩ = some v) → K (.pointer (some ⟨g, o, none⟩))) : IdxVC c.Af c.nf i 3 K := by
  obtain ⟨g, o, h1, h2, h3, h4⟩ := hc.f k hk
  exact idx_ok h1 k hi hk (h g (o + k * 3) h2 h3 h4)
theorem wsub (op k : Int) (h : op = k ∨ op = k + 1) (hk : 0 ≤ k ∧ k ≤ 100) : IntKind.i64.wrap (op - k) = op - k := by rw [IntKind.wrap_i64]; omega
set_option maxHeartbeats 2000000 in
theorem took_B (z : Zp) (G : Gh) (w : World) (tw : TW z G w) (c : Cd) (B : Nat → Bd) (hc : c.Is B G w) (f : Fm) (hk : Sl G .kid f.Ak f.nk f.ck) (hn : f.nk ≤ 1000000) (hf0 : 0 ≤ f.fn) (hf1 : f.fn < c.nf) (op a b d : Int) :
    Calls Try.prog 57 #[c.val, f.val, .agg #[.int .i64 op, .int .i64 a, .int .i64 b, .int .i64 d]] w (PostB w fun v => ∃ n, v = .int .i64 n ∧ (n < 0 ∨ TookOk w c B f (B f.fn.toNat).n op a b d n)) := by
  obtain ⟨g, o, h1, h2, h3, h4⟩ := hc.f f.fn.toNat (by omega)
  refine go57 (by rfl) (CtxB w) (CtxB.start w) ?_
  conv => whnf
  refine idx_ok h1 f.fn.toNat (by omega) (by omega) ?_
  conv => whnf
  refine ldB ti83_ok rfl (h4 2 _ rfl) h2 ?_
  conv => whnf
  repeat' (first
    | (refine JoinVC.go ?_; conv => whnf)
    | (refine splitB.dec (fun h => ?_) (fun h => ?_) <;> first | (exfalso; omega) | conv => whnf)
    | (refine splitB.eq (fun h => ?_) (fun h => ?_) <;> first | (exfalso; omega) | conv => whnf)
    | (refine splitB.ne (fun h => ?_) (fun h => ?_) <;> first | (exfalso; omega) | conv => whnf)
    | (refine CallVC.ofB [.int .i64 _] en56 isB (fun w _ => (wis_any _ w).mono fun e w' ⟨n, h1, h2⟩ => ⟨_, h1, h2 ▸ Below.refl _ _, n, rfl⟩) ?_; rintro v ⟨n, rfl⟩; conv => whnf)
    | (refine CallVC.ofB [c.val, .agg #[.int .i64 op, .int .i64 a, .int .i64 b, .int .i64 d]] en67 (fun v => ∃ n, v = .int .i64 n ∧ (n = -1 ∨ (0 ≤ n ∧ n ≤ 2 ∧ 1 ≤ a ∧ a ≤ 7 ∧ 0 ≤ b ∧ b < c.many a))) (fun w' _ => calls_B c op a b d w') ?_
       rintro v ⟨n, rfl, hn⟩
       conv => whnf)
    | (refine CallVC.ofB [f.val, .int .i64 a] en58 (fun v => ∃ b, v = .bool b ∧ (b = true ↔ Awaits w f.Ak f.nk a)) (fun w' hw' => (awaits_B z G w' (tw.below hw') f hk hn a).mono fun e w'' ⟨v, h1, h2, b, h3, h4⟩ => ⟨v, h1, h2, b, h3, h4.trans (Awaits.below tw hk hw' a)⟩) ?_
       rintro v ⟨b', rfl, hb'⟩
       conv => whnf)
    | (refine splitB.not (fun h => ?_) (fun h => ?_) <;> conv => whnf)
    | (refine splitB.intro (fun h => ?_) (fun h => ?_) <;> conv => whnf)
    | (intro w' hw'; refine ⟨_, rfl, hw', _, rfl, ?_⟩))
  all_goals try (exact .inl (by decide))
  all_goals try exact .inr (tk1 (by assumption))
  all_goals try exact .inr (tk14 (by assumption))
  all_goals try exact .inr (tk6 (by omega))
  all_goals try exact .inr (tk12 (by omega))
  all_goals try exact .inr (tk17a (by assumption) (by omega))
  all_goals try exact .inr (tk17b (by assumption) (by omega))
  all_goals try exact .inr (tk3a (by assumption) (by omega) (by omega) (hb'.1 h))
  all_goals try exact .inr (tk2 (by assumption) (by omega) (by omega) _ rfl)
  all_goals try exact .inr (tk2 (by assumption) (by omega) (by omega) _ (by rw [wsub op 2 (by omega) (by omega)]; omega))
  all_goals try exact .inr (tk3b (by assumption) (by omega) (by omega) (fun hA => absurd (hb'.2 hA) (by simp [h])) _ (by rw [wsub op 2 (by omega) (by omega)]; omega))
  all_goals try exact .inr (tk4 (by assumption) (by omega) (by omega) _ (by rw [wsub op 4 (by omega) (by omega)]; omega))
  all_goals try exact .inr (tk5 (by assumption) (by omega) (by omega) _ (by rw [wsub op 4 (by omega) (by omega)]; omega))
  all_goals try exact .inr (tk15 (by assumption) (by omega) (by omega) _ (by rw [wsub op 15 (by omega) (by omega)]; omega))
  all_goals try exact .inr (tk16 (by assumption) (by omega) (by omega) _ (by rw [wsub op 15 (by omega) (by omega)]; omega))
  all_goals try exact hn.elim (fun hn => .inl (by omega)) (fun hn => .inr (tk11 (by assumption) _ hn))
  have ha : a.toNat < c.nf := toNat_lt (by assumption) (by assumption)
  refine idx_fun hc ha (toNat_eq (by assumption)) ?_
  intro g' o' h2' h3' h4'
  conv => whnf
  refine ldB ti3_ok rfl (h4' 0 _ rfl) h2' ?_
  conv => whnf
  refine splitB.ne (fun h => ?_) (fun h => ?_)
  · conv => whnf
    intro w' hw'
    exact ⟨_, rfl, hw', _, rfl, .inl (by decide)⟩
  · conv => whnf
    intro w' hw'
    refine ⟨_, rfl, hw', _, rfl, ?_⟩
    by_cases hb : b < 0
    · exact .inl hb
    · exact .inr (tk13 (by assumption) (by omega) (by omega) (by omega) (by omega) h (by omega))
end Go.Proofs.Ytahhihhfjimppaa
/- The document's vm, in a typed heap: Right, Start. -/
namespace Go.Proofs.Ytahhihhfjimppaa
open Go.RowKit
set_option linter.unusedSimpArgs false
set_option linter.unusedVariables false
set_option maxRecDepth 100000

def Fm.l (f : Fm) : List Value := [.int .i64 f.task, .slice f.Ap f.np f.cp, .int .i64 f.fn, .int .i64 f.pc, .slice f.Al f.nl f.cl, .slice f.As f.ns f.cs, .slice f.Ak f.nk f.ck, .int .i64 f.many, .int .i64 f.spent, .bool f.fail]
def Cd.l (c : Cd) : List Value := [.slice c.Af c.nf c.cf, .slice c.Ac c.nc c.cc, .int .i64 c.maps, .int .i64 c.stacks, .int .i64 c.chans, .int .i64 c.main]
def Bd.l (b : Bd) : List Value := [.int .i64 b.args, .int .i64 b.locals, .slice b.A b.n b.c]
theorem all_B (z : Zp) (G : Gh) (w : World) (tw : TW z G w) (A : Option Addr) (n c : Nat) (hs : Sl G .int A n c) (hn : n ≤ 1000000) : Calls Try.prog 49 #[.slice A n c] w (PostB w isB) := by
  obtain ⟨zs, hz, hr⟩ := hs.rd tw
  subst hz
  exact (wall_any zs A c w hr hn).mono fun e w' ⟨b, h1, h2⟩ => ⟨_, h1, h2 ▸ Below.refl _ _, b, rfl⟩
structure RightF (c : Cd) (B : Nat → Bd) (f : Fm) : Prop where
  f0 : 0 ≤ f.fn
  f1 : f.fn < c.nf
  p0 : 0 ≤ f.pc
  p1 : f.pc ≤ (B f.fn.toNat).n
  s0 : 0 ≤ f.spent
  s1 : f.spent ≤ 2000
  st : f.ns ≤ 100
set_option maxHeartbeats 1000000 in
theorem right_B (z : Zp) (G : Gh) (w : World) (tw : TW z G w) (c : Cd) (B : Nat → Bd) (hc : c.Is B G w) (f : Fm) (hf : f.Ok G) (hn : f.nk ≤ 1000000) (hl : f.nl ≤ 1000000) (hs : f.ns ≤ 1000000) :
    Calls Try.prog 50 #[c.val, f.val] w (PostB w fun v => ∃ b, v = .bool b ∧ (b = true → RightF c B f)) := by
  refine go50 (by rfl) (CtxB w) (CtxB.start w) ?_
  conv => whnf
  repeat' (first
    | (refine JoinVC.go ?_; conv => whnf)
    | (refine splitB.dec (fun h => ?_) (fun h => ?_) <;> first | (exfalso; omega) | conv => whnf)
    | (refine splitB.eq (fun h => ?_) (fun h => ?_) <;> first | (exfalso; omega) | conv => whnf)
    | (refine splitB.ne (fun h => ?_) (fun h => ?_) <;> first | (exfalso; omega) | conv => whnf)
    | (refine splitB.not (fun h => ?_) (fun h => ?_) <;> conv => whnf)
    | (refine idx_fun hc (k := f.fn.toNat) (toNat_lt (by assumption) (by assumption)) (toNat_eq (by assumption)) ?_
       intro g' o' h2' h3' h4'
       conv => whnf)
    | (refine ldBs ti85_ok rfl _ rfl h4' h2' ?_; conv => whnf)
    | (refine CallVC.ofB [.slice f.Al f.nl f.cl] en49 isB (fun w' hw' => all_B z G w' (tw.below hw') _ _ _ hf.l hl) ?_; rintro v ⟨n, rfl⟩; conv => whnf)
    | (refine CallVC.ofB [.slice f.As f.ns f.cs] en49 isB (fun w' hw' => all_B z G w' (tw.below hw') _ _ _ hf.s hs) ?_; rintro v ⟨n, rfl⟩; conv => whnf)
    | (intro w' hw'; exact ⟨_, rfl, hw', _, rfl, fun h => by cases h⟩))
  have R : RightF c B f := ⟨by omega, by omega, by omega, by omega, by omega, by omega, by omega⟩
  refine LoopVC.on (X := Nat) (fun k => [(2, .p 2 0), (3, .p 3 0), (5, .p 5 0), (8, .v (.int .i64 k))]) (fun _ => [(2, 54, c.l), (3, 107, f.l), (5, 85, (B f.fn.toNat).l)]) (fun _ => CtxB w) (fun k => k ≤ f.nk) (fun k => f.nk - k) 0 (Nat.zero_le _) ⟨rfl, rfl, rfl, rfl, trivial⟩ ⟨rfl, rfl, rfl, trivial⟩ ?_
  intro k r hk
  by_cases hlt : k < f.nk
  · obtain ⟨b, off, hA, hbl, _, a, d, h0, h1⟩ := hf.k.at_ tw hlt
    simp only [RT.size] at h0 h1
    conv => whnf
    repeat' (first
      | (refine JoinVC.go ?_; conv => whnf)
      | (refine splitB.dec (fun h => ?_) (fun h => ?_) <;> first | (exfalso; omega) | conv => whnf)
      | (refine idx_ok hA k rfl hlt ?_; conv => whnf)
      | (refine ldB ti3_ok rfl h0 hbl ?_; conv => whnf)
      | (refine ldB ti3_ok rfl h1 hbl ?_; conv => whnf)
      | (intro w' hw'; exact ⟨_, rfl, hw', _, rfl, fun h => by cases h⟩)
      | exact rnd (k + 1) (by omega) (by omega) ⟨rfl, rfl, rfl, by show _ = _; rw [← wnat k (by omega)]; rfl, trivial⟩ ⟨rfl, rfl, rfl, trivial⟩)
  · conv => whnf
    refine splitB.dec (fun h => ?_) (fun h => ?_)
    · exfalso; omega
    · conv => whnf
      intro w' hw'
      exact ⟨_, rfl, hw', _, rfl, fun _ => R⟩
theorem ldO {z : Zp} {G G0 : Gh} {w0 : World} {P : Program} {t : TypeId} {i : TyI} (hi : TyOk P t i) (hag : i.d.agg = false) {b off : Nat} {v : Value} (hc : w0.cell? ⟨b, off, none⟩ = some v) (hb : b < w0.heap.size) (hg : G0 b = none) {K : Value → Ctx → Prop} (h : K v (CtxT z G G0 w0)) {a : Addr} (ha : a = ⟨b, off, none⟩ := by rfl) : SemVC P (CtxT z G G0 w0) (Instr.loadAt t (.pointer (some a))) K := by
  subst ha
  exact load_cell hi hag (fun u => u = v) (fun w hw => ⟨v, (hw.2.cell hb hg).trans hc, rfl⟩) (fun u hu => hu ▸ h)
theorem ldOs {z : Zp} {G G0 : Gh} {w0 : World} {P : Program} {t : TypeId} {i : TyI} (hi : TyOk P t i) (hag : i.d.agg = true) {b off : Nat} (l : List Value) (hl : l.length = i.size) (hc : ∀ j v, l[j]? = some v → w0.cell? ⟨b, off + j, none⟩ = some v) (hb : b < w0.heap.size) (hg : G0 b = none) {K : Value → Ctx → Prop} (h : K (.agg l.toArray) (CtxT z G G0 w0)) : SemVC P (CtxT z G G0 w0) (Instr.loadAt t (.pointer (some ⟨b, off, none⟩))) K :=
  load_agg hi hag (fun u => u = l) (fun w hw => ⟨l, hl, fun j v hv => (hw.2.cell hb hg).trans (hc j v hv), rfl⟩) (fun u hu => hu ▸ h)
/-- a frame in the beginning -/
structure StartF (c : Cd) (B : Nat → Bd) (f : Fm) (fn task : Int) (np : Nat) : Prop where
  f0 : 0 ≤ fn
  f1 : fn < c.nf
  fn : f.fn = fn
  pc : f.pc = 0
  sp : f.spent = 0
  ns : f.ns = 0
  nk : f.nk = 0
  np : f.np = np
  nl : f.nl ≤ 100
theorem start_T (z : Zp) (G : Gh) (w : World) (tw : TW z G w) (c : Cd) (B : Nat → Bd) (hc : c.Is B G w) (hB : ∀ k, k < c.nf → (B k).locals ≤ 16) (fn task : Int) (Aa : Option Addr) (na ca : Nat) (ha : Sl G .int Aa na ca) (hna : na ≤ 1000000) (Ap : Option Addr) (np cp : Nat) (hp : Sl G .int Ap np cp) (hnp : np ≤ 1000000) :
    Calls Try.prog 43 #[c.val, .int .i64 fn, .slice Aa na ca, .int .i64 task, .slice Ap np cp] w (PostT z G w fun z' G' v => z' = z ∧ ∃ (f : Fm) (e : Int), v = .tuple #[f.val, .int .i64 e] ∧ f.Ok G' ∧ (e = 0 → StartF c B f fn task np)) := by
  refine go43 (by rfl) (CtxT z G G w) (CtxT.start tw) ?_
  conv => whnf
  repeat' (first
    | (refine JoinVC.go ?_; conv => whnf)
    | (refine splitB.dec (fun h => ?_) (fun h => ?_) <;> first | (exfalso; omega) | conv => whnf)
    | (intro w' hw'; exact ⟨z, G, _, rfl, hw'.1, hw'.2, rfl, Fm.zero, _, rfl, ⟨Sl.nil _ _, Sl.nil _ _, Sl.nil _ _, Sl.nil _ _⟩, fun h => by cases h⟩))
  have hk : fn.toNat < c.nf := toNat_lt (by assumption) (by assumption)
  have hfn : fn = (fn.toNat : Int) := toNat_eq (by assumption)
  have hlo := hB _ hk
  refine idx_fun hc hk hfn ?_
  intro g' o' h2' h3' h4'
  conv => whnf
  refine ldOs ti85_ok rfl _ rfl h4' h2' h3' ?_
  conv => whnf
  refine CallVC.readT [.slice Aa na ca] en49 isB (fun w' tw' _ => all_B z G w' tw' _ _ _ ha hna) ?_
  rintro v ⟨bb, rfl⟩
  conv => whnf
  repeat' (first
    | (refine JoinVC.go ?_; conv => whnf)
    | (refine splitB.dec (fun h => ?_) (fun h => ?_) <;> first | (exfalso; omega) | conv => whnf)
    | (refine splitB.ne (fun h => ?_) (fun h => ?_) <;> first | (exfalso; omega) | conv => whnf)
    | (refine splitB.not (fun h => ?_) (fun h => ?_) <;> conv => whnf)
    | (intro w' hw'; exact ⟨z, G, _, rfl, hw'.1, hw'.2, rfl, Fm.zero, _, rfl, ⟨Sl.nil _ _, Sl.nil _ _, Sl.nil _ _, Sl.nil _ _⟩, fun h => by cases h⟩))
  refine bs0 .int ?_
  intro G1 A1 l1 s1
  conv => whnf
  refine app_T .int s1 (ha.mono l1) na (by omega) (by omega) ?_
  intro G2 A2 c2 l2 s2
  conv => whnf
  refine LoopVC.on (X := Gh × Option Addr × Nat × Nat) (fun x => [(1, .v (.int .i64 fn)), (3, .v (.int .i64 task)), (4, .v (.slice Ap np cp)), (10, .p 10 0), (12, .p 12 0), (14, .v (.slice x.2.1 x.2.2.1 x.2.2.2))]) (fun _ => [(10, 107, Fm.zero.l), (12, 85, (B fn.toNat).l)]) (fun x => CtxT z x.1 G w) (fun x => G.le x.1 ∧ Sl x.1 .int x.2.1 x.2.2.1 x.2.2.2 ∧ x.2.2.1 ≤ 16) (fun x => 17 - x.2.2.1) (G2, A2, na, c2) ⟨l1.trans l2, s2, by show na ≤ 16; omega⟩ ⟨rfl, rfl, rfl, rfl, rfl, rfl, trivial⟩ ⟨rfl, rfl, trivial⟩ ?_
  rintro ⟨G3, A3, n3, c3⟩ r ⟨l3, s3, hn3⟩
  simp only at l3 s3 hn3
  conv => whnf
  refine splitB.dec (fun h => ?_) (fun h => ?_)
  · have h : (n3 : Int) < (B fn.toNat).locals := h
    conv => whnf
    refine bsn [0] (by simp) ?_
    intro G4 A4 l4 s4
    conv => whnf
    refine app_T .int (s3.mono l4) s4 (n3 + 1) (by omega) (by omega) ?_
    intro G5 A5 c5 l5 s5
    conv => whnf
    exact rnd (G5, A5, n3 + 1, c5) (by show 17 - (n3 + 1) < 17 - n3; omega) ⟨(l3.trans l4).trans l5, s5, by show n3 + 1 ≤ 16; omega⟩ ⟨rfl, rfl, rfl, rfl, rfl, rfl, trivial⟩ ⟨rfl, rfl, trivial⟩
  · conv => whnf
    refine bs0 .int ?_
    intro G4 A4 l4 s4
    conv => whnf
    refine app_T .int s4 ((hp.mono l3).mono l4) np (by omega) (by omega) ?_
    intro G5 A5 c5 l5 s5
    conv => whnf
    intro w' hw'
    refine ⟨z, G5, _, rfl, hw'.1, hw'.2, rfl, ⟨task, A5, np, c5, fn, 0, A3, n3, c3, none, 0, 0, none, 0, 0, 0, 0, false⟩, 0, rfl, ⟨s5, (s3.mono l4).mono l5, Sl.nil _ _, Sl.nil _ _⟩, fun _ => ?_⟩
    exact ⟨by show 0 ≤ fn; omega, by show fn < c.nf; omega, rfl, rfl, rfl, rfl, rfl, rfl, by show n3 ≤ 100; omega⟩
end Go.Proofs.Ytahhihhfjimppaa
/- The document's vm, in a typed heap: Told. -/
namespace Go.Proofs.Ytahhihhfjimppaa
open Go.RowKit
set_option linter.unusedSimpArgs false
set_option linter.unusedVariables false
set_option maxRecDepth 100000

structure Ak where
  kind : Int
  a : Int
  b : Int
  o0 : Int
  o1 : Int
  o2 : Int
  o3 : Int
  A : Option Addr
  n : Nat
  c : Nat
def Ak.val (k : Ak) : Value := .agg #[.int .i64 k.kind, .int .i64 k.a, .int .i64 k.b, .int .i64 k.o0, .int .i64 k.o1, .int .i64 k.o2, .int .i64 k.o3, .slice k.A k.n k.c]
def Ak.l (k : Ak) : List Value := [.int .i64 k.kind, .int .i64 k.a, .int .i64 k.b, .int .i64 k.o0, .int .i64 k.o1, .int .i64 k.o2, .int .i64 k.o3, .slice k.A k.n k.c]
/-- a frame behind an answer -/
structure ToldF (f : Fm) (k : Ak) (e : Int) (f' : Fm) : Prop where
  sp : f'.spent = f.spent
  fn : f'.fn = f.fn
  np : f'.np = f.np
  nl : f'.nl = f.nl
  ns : f'.ns ≤ f.ns + 1
  nk : f'.nk ≤ f.nk + 1
  nk4 : k.kind ≠ 4 → f'.nk ≤ f.nk
  nk5 : k.kind = 5 → e = 0 → f'.nk = 0
set_option maxHeartbeats 2000000 in
theorem told_T (z : Zp) (G : Gh) (w : World) (tw : TW z G w) (f : Fm) (hok : f.Ok G) (hn : f.nk ≤ 1000000) (hl : f.nl ≤ 1000000) (hs : f.ns ≤ 1000000) (k : Ak) (Av : Option Addr) (nv cv : Nat) (hv : Sl G .int Av nv cv) (hnv : nv ≤ 1000000) :
    Calls Try.prog 48 #[f.val, k.val, .slice Av nv cv] w (PostT z G w fun z' G' v => z' = z ∧ ∃ (f' : Fm) (e : Int), v = .tuple #[f'.val, .int .i64 e] ∧ f'.Ok G' ∧ ToldF f k e f') := by
  refine go48 (by rfl) (CtxT z G G w) (CtxT.start tw) ?_
  have fin : ∀ G e, f.Ok G → e ≠ (0 : Int) ∨ k.kind ≠ 5 → ∃ (f' : Fm) (e' : Int), Value.tuple #[f.val, .int .i64 e] = .tuple #[f'.val, .int .i64 e'] ∧ f'.Ok G ∧ ToldF f k e' f' := fun G e ho he => ⟨f, e, rfl, ho, rfl, rfl, rfl, rfl, by omega, by omega, fun _ => by omega, fun h1 h2 => by rcases he with he | he <;> contradiction⟩
  conv => whnf
  refine CallVC.readT [.slice Av nv cv] en49 isB (fun w' tw' _ => all_B z G w' tw' _ _ _ hv hnv) ?_
  rintro v ⟨bb, rfl⟩
  conv => whnf
  repeat' (first
    | (refine JoinVC.go ?_; conv => whnf)
    | (refine splitB.dec (fun h => ?_) (fun h => ?_) <;> first | (exfalso; omega) | conv => whnf)
    | (refine splitB.eq (fun h => ?_) (fun h => ?_) <;> first | (exfalso; omega) | conv => whnf)
    | (refine splitB.ne (fun h => ?_) (fun h => ?_) <;> first | (exfalso; omega) | conv => whnf)
    | (refine splitB.not (fun h => ?_) (fun h => ?_) <;> conv => whnf)
    | (refine idx_T .int hv 0 rfl (by omega) ?_; intro b0 off0 e0; conv => whnf)
    | (refine ld_int e0 ?_; intro x0; conv => whnf)
    | (refine bs0 .int ?_; intro G1 A1 l1 s1; replace hok := hok.mono l1; replace hv := hv.mono l1; (try replace e0 := e0.mono l1); (try replace s4 := s4.mono l1); conv => whnf)
    | (refine bs0 .kid ?_; intro G1 A1 l1 s1; replace hok := hok.mono l1; replace hv := hv.mono l1; (try replace e0 := e0.mono l1); (try replace s4 := s4.mono l1); conv => whnf)
    | (refine app_T .int s1 hok.s f.ns (by omega) (by omega) ?_; intro G3 A3 c3 l3 s3; replace hok := hok.mono l3; replace hv := hv.mono l3; (try replace e0 := e0.mono l3); (try replace s4 := s4.mono l3); conv => whnf)
    | (refine app_T .kid s1 hok.k f.nk (by omega) (by omega) ?_; intro G3 A3 c3 l3 s3; replace hok := hok.mono l3; replace hv := hv.mono l3; (try replace e0 := e0.mono l3); (try replace s4 := s4.mono l3); conv => whnf)
    | (refine bsn [x0] (by simp) ?_; intro G4 A4 l4 s4; replace hok := hok.mono l4; replace hv := hv.mono l4; (try replace s1 := s1.mono l4); (try replace s3 := s3.mono l4); conv => whnf)
    | (refine bs_agg .kid #[.int .i64 x0, .int .i64 k.b] rfl (Els.one rfl ⟨x0, k.b, rfl, rfl⟩) ?_; intro G4 A4 l4 s4; replace hok := hok.mono l4; replace hv := hv.mono l4; (try replace s1 := s1.mono l4); (try replace s3 := s3.mono l4); conv => whnf)
    | (refine app_T .int s3 s4 (f.ns + 1) (by omega) (by omega) ?_; intro G5 A5 c5 l5 s5; replace hok := hok.mono l5; conv => whnf)
    | (refine app_T .kid s3 s4 (f.nk + 1) (by omega) (by omega) ?_; intro G5 A5 c5 l5 s5; replace hok := hok.mono l5; conv => whnf)
    | (intro w' hw'; exact ⟨z, _, _, rfl, hw'.1, hw'.2, rfl, fin _ _ hok (by first | exact .inl (by decide) | exact .inr (by omega))⟩)
    | (apply And.intro <;> conv => whnf))
  all_goals try (intro w' hw'; exact ⟨z, _, _, rfl, hw'.1, hw'.2, rfl, { f with As := A5, ns := f.ns + 1, cs := c5 }, 0, rfl, ⟨hok.p, hok.l, s5, hok.k⟩, rfl, rfl, rfl, rfl, Nat.le_refl _, Nat.le_succ _, fun _ => Nat.le_refl _, fun h => by omega⟩)
  all_goals try (intro w' hw'; exact ⟨z, _, _, rfl, hw'.1, hw'.2, rfl, { f with Ak := A5, nk := f.nk + 1, ck := c5, many := _ }, 0, rfl, ⟨hok.p, hok.l, hok.s, s5⟩, rfl, rfl, rfl, rfl, Nat.le_succ _, Nat.le_refl _, fun h => by omega, fun h => by omega⟩)
  refine app_T .int s1 hok.l f.nl (by omega) (by omega) ?_
  intro G3 A3 c3 l3 s3
  replace hok := hok.mono l3
  replace hv := hv.mono l3
  have hnk : nv = f.nk := by omega
  clear s1
  conv => whnf
  refine LoopVC.on (X := Gh × Option Addr × Nat × Nat) (fun x => [(2, .v (.slice Av nv cv)), (3, .p 3 0), (6, .p 6 0), (9, .v (.slice x.2.1 f.nl x.2.2.1)), (10, .v (.int .i64 x.2.2.2))]) (fun _ => [(3, 107, f.l), (6, 107, Fm.zero.l)]) (fun x => CtxT z x.1 G w) (fun x => f.Ok x.1 ∧ Sl x.1 .int Av nv cv ∧ Sl x.1 .int x.2.1 f.nl x.2.2.1 ∧ x.2.2.2 ≤ f.nk) (fun x => f.nk - x.2.2.2) (G3, A3, c3, 0) ⟨hok, hv, s3, Nat.zero_le _⟩ ⟨rfl, rfl, rfl, rfl, rfl, trivial⟩ ⟨rfl, rfl, trivial⟩ ?_
  clear hok hv s3
  rintro ⟨G4, A4, c4, i⟩ r ⟨hok, hv, s4, hi⟩
  simp only at hok hv s4 hi
  conv => whnf
  refine splitB.dec (fun h => ?_) (fun h => ?_)
  · have h : (i : Int) < (f.nk : Int) := h
    conv => whnf
    refine idx_T .kid hok.k i rfl (by omega) ?_
    intro b1 off1 e1
    conv => whnf
    refine ld_fld e1 1 (fun g ⟨a, b, _, h2⟩ => ⟨b, h2⟩) ?_
    intro d
    conv => whnf
    have stp : IntKind.i64.wrap ((i : Int) + 1) = ((i + 1 : Nat) : Int) := wnat i (by omega)
    repeat' (first
      | (refine JoinVC.go ?_; conv => whnf)
      | (refine splitB.dec (fun h => ?_) (fun h => ?_) <;> first | (exfalso; omega) | conv => whnf)
      | (intro w' hw'; exact ⟨z, _, _, rfl, hw'.1, hw'.2, rfl, fin _ _ hok (.inl (by decide))⟩))
    · refine idx_T .int hv i rfl (by omega) ?_
      intro b2 off2 e2
      conv => whnf
      refine ld_int e2 ?_
      intro x
      conv => whnf
      refine idx_T .int s4 d.toNat (toNat_eq (by omega)) (toNat_lt (by omega) (by omega)) ?_
      intro b3 off3 e3
      conv => whnf
      refine sto_int e3 ?_
      conv => whnf
      exact rnd (G4, A4, c4, i + 1) (by show f.nk - (i + 1) < f.nk - i; omega) ⟨hok, hv, s4, by show i + 1 ≤ f.nk; omega⟩ ⟨rfl, rfl, rfl, rfl, by show _ = _; rw [← stp]; rfl, trivial⟩ ⟨rfl, rfl, trivial⟩
    · exact rnd (G4, A4, c4, i + 1) (by show f.nk - (i + 1) < f.nk - i; omega) ⟨hok, hv, s4, by show i + 1 ≤ f.nk; omega⟩ ⟨rfl, rfl, rfl, rfl, by show _ = _; rw [← stp]; rfl, trivial⟩ ⟨rfl, rfl, trivial⟩
  · conv => whnf
    intro w' hw'
    exact ⟨z, _, _, rfl, hw'.1, hw'.2, rfl, { f with Al := A4, cl := c4, Ak := none, nk := 0, ck := 0 }, 0, rfl, ⟨hok.p, s4, hok.s, Sl.nil _ _⟩, rfl, rfl, rfl, rfl, Nat.le_succ _, Nat.zero_le _, fun _ => Nat.zero_le _, fun _ _ => rfl⟩
end Go.Proofs.Ytahhihhfjimppaa
/- The document's vm, in a typed heap: step. -/
namespace Go.Proofs.Ytahhihhfjimppaa
open Go.RowKit
set_option linter.unusedSimpArgs false
set_option linter.unusedVariables false
set_option maxRecDepth 100000

theorem idx_ins {b : Bd} {G : Gh} {w : World} (hb : b.Is G w) {i : Int} {k : Nat} (hk : k < b.n) (hi : i = k) {K : Value → Prop} (h : ∀ g o x0 x1 x2 x3, g < w.heap.size → G g = none → (∀ j v, [Value.int .i64 x0, .int .i64 x1, .int .i64 x2, .int .i64 x3][j]? = some v → w.cell? ⟨g, o + j, none⟩ = some v) → K (.pointer (some ⟨g, o, none⟩))) : IdxVC b.A b.n i 4 K := by
  obtain ⟨g, o, h1, h2, h3, x0, x1, x2, x3, h4⟩ := hb k hk
  exact idx_ok h1 k hi hk (h g (o + k * 4) x0 x1 x2 x3 h2 h3 h4)
/-- a frame behind an instruction that took some values and left one or none -/
def Fm.pass (f : Fm) (A : Option Addr) (n c : Nat) : Fm := { f with pc := f.pc + 1, As := A, ns := n, cs := c, spent := f.spent + 1 }
theorem passed_vc {z : Zp} {G G0 : Gh} {w0 : World} (f : Fm) (hs : Sl G .int f.As f.ns f.cs) (hb : f.ns ≤ 1000) (hp : 0 ≤ f.pc ∧ f.pc ≤ 1000000) (hsp : 0 ≤ f.spent ∧ f.spent ≤ 1000000) (took : Nat) (ht : took ≤ f.ns) {A : Option Addr} {n c : Nat} (hl : Sl G .int A n c) (hn : n ≤ 1000) (m : Nat) (hm : m = f.ns - took + n) {K : Value → Ctx → Prop} (h : ∀ G' A' c', G.le G' → Sl G' .int A' m c' → K (f.pass A' m c').val (CtxT z G' G0 w0)) {vs : Array Value} (hvs : vs = #[f.val, .int .i64 took, .slice A n c] := by rfl) : CallVC Try.prog (CtxT z G G0 w0) 59 vs K := by
  subst hm
  refine CallVC.ofT [f.val, .int .i64 took, .slice A n c] en59 _ (fun w tw _ => passed_T z G w tw f hs took ht A n c hl (by omega)) ?_ hvs
  rintro z' G' v l ⟨rfl, A', c', rfl, s⟩
  have e1 : IntKind.i64.wrap (f.pc + 1) = f.pc + 1 := by rw [IntKind.wrap_i64]; omega
  have e2 : IntKind.i64.wrap (f.spent + 1) = f.spent + 1 := by rw [IntKind.wrap_i64]; omega
  have := h G' A' c' l s
  rw [e1, e2]
  exact this
/-- one instruction -/
structure StepF (c : Cd) (B : Nat → Bd) (f : Fm) (k : Ak) (f' : Fm) : Prop where
  fn : f'.fn = f.fn
  np : f'.np = f.np
  nl : f'.nl = f.nl
  nk : f'.nk = f.nk
  ns : f'.ns ≤ 100
  p0 : 0 ≤ f'.pc
  p1 : f'.pc ≤ (B f.fn.toNat).n
  sp : k.kind = 5 ∧ 0 < f.nk ∧ f'.spent = f.spent ∨ k.kind ≠ 5 ∧ f'.spent = f.spent + 1
  s1 : f'.spent ≤ 2000
  k0 : 0 ≤ k.kind ∧ k.kind ≤ 6
  k1 : k.kind = 1 ∨ k.kind = 2 → 0 ≤ k.a ∧ k.a < c.nc
  k3 : k.kind = 3 → 1 ≤ k.o0 ∧ k.o0 ≤ 7 ∧ 0 ≤ k.o1 ∧ k.o1 < c.many k.o0
  k4 : k.kind = 4 → k.n ≤ 100
def StepΦ (c : Cd) (B : Nat → Bd) (z : Zp) (f : Fm) (z' : Zp) (G' : Gh) (v : Value) : Prop := z' = z ∧ ∃ (f' : Fm) (k : Ak) (e : Int), v = .tuple #[f'.val, k.val, .int .i64 e] ∧ f'.Ok G' ∧ Sl G' .int k.A k.n k.c ∧ (e = 0 → StepF c B f k f')
def Ak.zero : Ak := ⟨0, 0, 0, 0, 0, 0, 0, none, 0, 0⟩
def Ak.five : Ak := ⟨5, 0, 0, 0, 0, 0, 0, none, 0, 0⟩
section
variable {c : Cd} {B : Nat → Bd} {z : Zp} {f : Fm} {G : Gh}
theorem stepE (ho : f.Ok G) {e : Int} (he : e ≠ 0) : StepΦ c B z f z G (.tuple #[f.val, Ak.zero.val, .int .i64 e]) := ⟨rfl, f, Ak.zero, e, rfl, ho, Sl.nil _ _, fun h => absurd h he⟩
theorem step5 (ho : f.Ok G) (hk : 0 < f.nk) (hs : f.ns ≤ 100) (p0 : 0 ≤ f.pc) (p1 : f.pc ≤ (B f.fn.toNat).n) (sp : f.spent ≤ 2000) : StepΦ c B z f z G (.tuple #[f.val, Ak.five.val, .int .i64 0]) :=
  ⟨rfl, f, Ak.five, 0, rfl, ho, Sl.nil _ _, fun _ => ⟨rfl, rfl, rfl, rfl, hs, p0, p1, .inl ⟨rfl, hk, rfl⟩, sp, ⟨by decide, by decide⟩, (fun h => by rcases h with h | h <;> simp [Ak.five] at h), (fun h => by simp [Ak.five] at h), (fun h => by simp [Ak.five] at h)⟩⟩
theorem stepP (ho : f.Ok G) {A : Option Addr} {n c' : Nat} (hs : Sl G .int A n c') (hn : n ≤ 100) (p0 : 0 ≤ f.pc) (p1 : f.pc < (B f.fn.toNat).n) (sp : f.spent < 2000) (k : Ak) (hk : Sl G .int k.A k.n k.c) (hk0 : 0 ≤ k.kind ∧ k.kind ≤ 6) (hk5 : k.kind ≠ 5) (hk1 : k.kind = 1 ∨ k.kind = 2 → 0 ≤ k.a ∧ k.a < c.nc) (hk3 : k.kind = 3 → 1 ≤ k.o0 ∧ k.o0 ≤ 7 ∧ 0 ≤ k.o1 ∧ k.o1 < c.many k.o0) (hk4 : k.kind = 4 → k.n ≤ 100) : StepΦ c B z f z G (.tuple #[(f.pass A n c').val, k.val, .int .i64 0]) :=
  ⟨rfl, f.pass A n c', k, 0, rfl, ⟨ho.p, ho.l, hs, ho.k⟩, hk, fun _ => ⟨rfl, rfl, rfl, rfl, hn, by show 0 ≤ f.pc + 1; omega, by show f.pc + 1 ≤ _; omega, .inr ⟨hk5, rfl⟩, by show f.spent + 1 ≤ 2000; omega, hk0, hk1, hk3, hk4⟩⟩
theorem stepG (f' : Fm) (k : Ak) (ho : f'.Ok G) (hk : Sl G .int k.A k.n k.c) (h : StepF c B f k f') : StepΦ c B z f z G (.tuple #[f'.val, k.val, .int .i64 0]) := ⟨rfl, f', k, 0, rfl, ho, hk, fun _ => h⟩
end
theorem TookOk.conv {w w' : World} {c : Cd} {B : Nat → Bd} {f : Fm} {ins : Nat} {op a b d n : Int} (h : ∀ x, Awaits w' f.Ak f.nk x ↔ Awaits w f.Ak f.nk x) (t : TookOk w c B f ins op a b d n) : TookOk w' c B f ins op a b d n := by
  obtain ⟨pos, k1, k2, k3, k4, k5, k6, k11, k12, k13, k14, k15, k16, k17, all⟩ := t
  refine ⟨pos, k1, k2, fun e => ?_, k4, k5, k6, k11, k12, k13, k14, k15, k16, k17, all⟩
  rw [h a]
  exact k3 e
theorem took_vc {z : Zp} {G G0 : Gh} {w0 : World} {c : Cd} {B : Nat → Bd} (hc : c.Is B G0 w0) {f : Fm} (hk : Sl G .kid f.Ak f.nk f.ck) (hn : f.nk ≤ 1000000) (hf0 : 0 ≤ f.fn) (hf1 : f.fn < c.nf) {op a b d : Int} {K : Value → Ctx → Prop} (h : ∀ w1 n, (n < 0 ∨ TookOk w1 c B f (B f.fn.toNat).n op a b d n) → K (.int .i64 n) ((CtxT z G G0 w0).snap w1)) {vs : Array Value} (hvs : vs = #[c.val, f.val, .agg #[.int .i64 op, .int .i64 a, .int .i64 b, .int .i64 d]] := by rfl) : CallVC Try.prog (CtxT z G G0 w0) 57 vs K := by
  subst hvs
  constructor
  refine ⟨en57, fun w hw => (took_B z G w hw.1 c B (hc.ex hw.2) f hk hn hf0 hf1 op a b d).mono fun e w' ⟨v, h1, h2, n, h3, h4⟩ => ?_⟩
  subst h3
  obtain ⟨h5, h6⟩ := goesT hw (hw.1.below h2) (Ex.of_below h2)
  refine ⟨_, (CtxT z G G0 w0).snap w', h1, ⟨h5.size, h5.block, h5.new⟩, ⟨h6, fun _ _ => rfl⟩, h w' n ?_⟩
  rcases h4 with h4 | h4
  · exact .inl h4
  · exact .inr (h4.conv fun x => Awaits.below hw.1 hk h2 x)
theorem awaits_snap {z : Zp} {G G0 : Gh} {w0 w1 : World} {f : Fm} (hk : Sl G .kid f.Ak f.nk f.ck) (hn : f.nk ≤ 1000000) {x : Int} {K : Value → Ctx → Prop} (h : ∀ b, (b = true ↔ Awaits w1 f.Ak f.nk x) → K (.bool b) ((CtxT z G G0 w0).snap w1)) {vs : Array Value} (hvs : vs = #[f.val, .int .i64 x] := by rfl) : CallVC Try.prog ((CtxT z G G0 w0).snap w1) 58 vs K := by
  subst hvs
  constructor
  refine ⟨en58, fun w hw => (awaits_B z G w hw.1.1 f hk hn x).mono fun e w' ⟨v, h1, h2, b, h3, h4⟩ => ?_⟩
  subst h3
  obtain ⟨h5, h6⟩ := goesT hw.1 (hw.1.1.below h2) (Ex.of_below h2)
  refine ⟨_, (CtxT z G G0 w0).snap w1, h1, ⟨h5.size, h5.block, h5.new⟩, ⟨h6, fun k hk' => ?_⟩, h b (h4.trans ?_)⟩
  · have hlt : k < w.heap.size := (CtxT z G G0 w0).lt w hw.1 k hk'
    exact (h2.block k hlt).trans (hw.2 k hk')
  · have key : ∀ i g o, i < f.nk → f.Ak = some ⟨g, o, none⟩ → w.cell? ⟨g, o + i * 2 + 1, none⟩ = w1.cell? ⟨g, o + i * 2 + 1, none⟩ := fun i g o hi hA => by
      obtain ⟨b, off, hA', hb, ⟨y, hy⟩, _⟩ := hk.at_ hw.1.1 hi
      rw [hA] at hA'
      injection hA' with hA'
      injection hA' with h7 h8
      subst h7
      exact World.cell?_of_block (hw.2 _ (.inl ⟨y, hy⟩))
    constructor
    · rintro ⟨i, g, o, h7, h8, h9⟩; exact ⟨i, g, o, h7, h8, (key i g o h7 h8).symm.trans h9⟩
    · rintro ⟨i, g, o, h7, h8, h9⟩; exact ⟨i, g, o, h7, h8, (key i g o h7 h8).trans h9⟩
theorem Awaits.pos {w : World} {A : Option Addr} {n : Nat} {x : Int} (h : Awaits w A n x) : 0 < n := by obtain ⟨i, _, _, h, _⟩ := h; omega
theorem cut_top (r : RT) {G : Gh} {A : Option Addr} {n c : Nat} {l : Int} {K : Value → Prop} (hs : Sl G r A n c) (m : Nat) (hm : m ≤ n) (hl : l = ((n - m : Nat) : Int)) (hk : ∀ A' c', Sl G r A' m c' → K (.slice A' m c')) : CutVC A n c r.size (some l) none K :=
  cut_lo r hs (n - m) hl (by omega) fun A' c' h => by
    rw [show n - (n - m) = m by omega] at h ⊢
    exact hk A' c' h
set_option maxHeartbeats 400000 in
theorem vstep_T (z : Zp) (G : Gh) (w : World) (tw : TW z G w) (c : Cd) (B : Nat → Bd) (hc : c.Is B G w) (hB : ∀ k, k < c.nf → (B k).n ≤ 400) (f : Fm) (hok : f.Ok G) (hn : f.nk ≤ 10000) (hl : f.nl ≤ 10000) (R : RightF c B f) :
    Calls Try.prog 51 #[c.val, f.val] w (PostT z G w (StepΦ c B z f)) := by
  have hk : f.fn.toNat < c.nf := by have := R.f0; have := R.f1; omega
  have hfn : f.fn = (f.fn.toNat : Int) := by have := R.f0; omega
  have hnB := hB _ hk
  obtain ⟨f0, f1, p0, p1, s0, s1, st⟩ := R
  refine go51 (by rfl) (CtxT z G G w) (CtxT.start tw) ?_
  conv => whnf
  refine idx_fun hc hk hfn ?_
  intro g' o' h2' h3' h4'
  conv => whnf
  refine ldO ti83_ok rfl (h4' 2 _ rfl) h2' h3' ?_
  conv => whnf
  refine splitB.dec (fun hsp => ?_) (fun hsp => ?_)
  · conv => whnf
    intro w' hw'
    exact ⟨z, _, _, rfl, hw'.1, hw'.2, stepE hok (by decide)⟩
  conv => whnf
  refine splitB.dec (fun hpc => ?_) (fun hpc => ?_)
  · conv => whnf
    intro w' hw'
    exact ⟨z, _, _, rfl, hw'.1, hw'.2, stepE hok (by decide)⟩
  conv => whnf
  have hpn : f.pc.toNat < (B f.fn.toNat).n := by omega
  have hpe : f.pc = (f.pc.toNat : Int) := by omega
  refine idx_ins (hc.b _ hk) hpn hpe ?_
  intro g2 o2 op a b d h5 h6 h7
  conv => whnf
  refine ldOs ti90_ok rfl _ rfl h7 h5 h6 ?_
  conv => whnf
  refine took_vc hc hok.k (by omega) f0 f1 ?_
  intro w1 n hT
  by_cases hneg : n < 0
  · conv => whnf
    refine JoinVC.go ?_
    conv => whnf
    refine splitB.dec (fun h => ?_) (fun h => absurd hneg h)
    conv => whnf
    intro w' hw'
    exact ⟨z, _, _, rfl, hw'.1.1, hw'.1.2, stepE hok (by decide)⟩
  obtain ⟨m, rfl⟩ : ∃ m : Nat, n = m := ⟨n.toNat, by omega⟩
  have T := hT.resolve_left hneg
  clear hT hneg
  by_cases hm : m ≤ f.ns
  rotate_left
  · conv => whnf
    repeat' (first
      | (refine JoinVC.go ?_; conv => whnf)
      | (refine splitB.dec (fun h => ?_) (fun h => ?_) <;> first | (exfalso; omega) | conv => whnf)
      | (intro w' hw'; exact ⟨z, _, _, rfl, hw'.1.1, hw'.1.2, stepE hok (by decide)⟩))
  have hp : 0 ≤ f.pc ∧ f.pc ≤ 1000000 := by omega
  have hq : 0 ≤ f.spent ∧ f.spent ≤ 1000000 := by omega
  have p1' : f.pc < (B f.fn.toNat).n := by omega
  have s1' : f.spent < 2000 := by omega
  clear h4' h7 hpn hpe hsp hpc
  have all := T.all
  rcases (show op = 1 ∨ op = 2 ∨ op = 3 ∨ op = 4 ∨ op = 5 ∨ op = 6 ∨ op = 7 ∨ op = 8 ∨ op = 9 ∨ op = 10 ∨ op = 11 ∨ op = 12 ∨ op = 13 ∨ op = 14 ∨ op = 15 ∨ op = 16 ∨ op = 17 ∨ op = 18 ∨ op = 19 by omega) with rfl | rfl | rfl | rfl | rfl | rfl | rfl | rfl | rfl | rfl | rfl | rfl | rfl | rfl | rfl | h16 | rfl | rfl | rfl
  all_goals clear all
  · have hm' : m = 0 := by have := T.k1 rfl; omega
    subst hm'
    clear T
    have hw : IntKind.i64.wrap ((f.ns : Int) - ((0 : Nat) : Int)) = ((f.ns - 0 : Nat) : Int) := by rw [IntKind.wrap_i64]; omega
    conv => whnf
    repeat' (first
      | (refine JoinVC.go ?_; conv => whnf)
      | (refine splitB.dec (fun h => ?_) (fun h => ?_) <;> first | (exfalso; omega) | conv => whnf)
      | (refine splitB.eq (fun h => ?_) (fun h => ?_) <;> first | (exfalso; omega) | conv => whnf)
      | (refine cut_top .int hok.s 0 hm hw ?_; intro A2 c2 s2; conv => whnf)
      | (intro w' hw'; exact ⟨z, _, _, rfl, hw'.1.1, hw'.1.2, stepE hok (by decide)⟩)
      | (refine bsn [a] (by simp) ?_; intro G7 A7 l7 s7; replace hok := hok.mono l7; replace s2 := s2.mono l7; (try replace e4 := e4.mono l7); (try replace e5 := e5.mono l7); (try replace e3 := e3.mono l7); (try replace s7 := s7.mono l7); (try replace s6 := s6.mono l7); (try replace s8 := s8.mono l7); conv => whnf)
      | (refine passed_vc f hok.s (by omega) hp hq 0 (by omega) s7 (by omega) (f.ns + 1) (by omega) ?_; intro G6 A6 c6 l6 s6; replace hok := hok.mono l6; replace s2 := s2.mono l6; (try replace e4 := e4.mono l6); (try replace e5 := e5.mono l6); (try replace e3 := e3.mono l6); (try replace s7 := s7.mono l6); (try replace s6 := s6.mono l6); (try replace s8 := s8.mono l6); conv => whnf)
      | (intro w' hw'; exact ⟨z, _, _, rfl, hw'.1, hw'.2, stepP hok s6 (by omega) p0 p1' s1' Ak.zero (Sl.nil _ _) ⟨by decide, by decide⟩ (by decide) (fun h => by rcases h with h | h <;> simp [Ak.zero] at h) (fun h => by simp [Ak.zero] at h) (fun h => by simp [Ak.zero] at h)⟩)
      | (refine CallVC.unsnap ?_; conv => whnf)
      | (refine SemVC.unsnap ?_; conv => whnf)
      | (apply And.intro <;> conv => whnf))
  · have hr := T.k2 rfl
    have hm' : m = 0 := by omega
    subst hm'
    clear T
    have hw : IntKind.i64.wrap ((f.ns : Int) - ((0 : Nat) : Int)) = ((f.ns - 0 : Nat) : Int) := by rw [IntKind.wrap_i64]; omega
    by_cases hAw : Awaits w1 f.Ak f.nk a
    · conv => whnf
      repeat' (first
        | (refine JoinVC.go ?_; conv => whnf)
        | (refine splitB.dec (fun h => ?_) (fun h => ?_) <;> first | (exfalso; omega) | conv => whnf)
        | (refine splitB.eq (fun h => ?_) (fun h => ?_) <;> first | (exfalso; omega) | conv => whnf)
        | (refine cut_top .int hok.s 0 hm hw ?_; intro A2 c2 s2; conv => whnf)
        | (intro w' hw'; exact ⟨z, _, _, rfl, hw'.1.1, hw'.1.2, stepE hok (by decide)⟩)
        | (refine awaits_snap hok.k (by omega) ?_; intro bb hbb; conv => whnf)
        | (refine splitB.not (fun h => absurd hAw (fun hA => by rw [hbb.2 hA] at h; cases h)) (fun h => ?_); conv => whnf)
        | (refine splitB.intro (fun h => ?_) (fun h => absurd hAw (fun hA => by rw [hbb.2 hA] at h; cases h)); conv => whnf)
        | (intro w' hw'; exact ⟨z, _, _, rfl, hw'.1.1, hw'.1.2, step5 hok hAw.pos st p0 p1 s1⟩)
        | (refine CallVC.unsnap ?_; conv => whnf)
        | (refine SemVC.unsnap ?_; conv => whnf)
        | (apply And.intro <;> conv => whnf))
    · conv => whnf
      repeat' (first
        | (refine JoinVC.go ?_; conv => whnf)
        | (refine splitB.dec (fun h => ?_) (fun h => ?_) <;> first | (exfalso; omega) | conv => whnf)
        | (refine splitB.eq (fun h => ?_) (fun h => ?_) <;> first | (exfalso; omega) | conv => whnf)
        | (refine cut_top .int hok.s 0 hm hw ?_; intro A2 c2 s2; conv => whnf)
        | (intro w' hw'; exact ⟨z, _, _, rfl, hw'.1.1, hw'.1.2, stepE hok (by decide)⟩)
        | (refine awaits_snap hok.k (by omega) ?_; intro bb hbb; conv => whnf)
        | (refine splitB.not (fun h => ?_) (fun h => absurd (hbb.1 h) hAw); conv => whnf)
        | (refine splitB.intro (fun h => absurd (hbb.1 h) hAw) (fun h => ?_); conv => whnf)
        | (refine idx_T .int hok.l a.toNat (toNat_eq (by omega)) (toNat_lt (by omega) (by omega)) ?_; intro b3 off3 e3; conv => whnf)
        | (refine ld_int e3 ?_; intro x3; conv => whnf)
        | (refine bsn [x3] (by simp) ?_; intro G7 A7 l7 s7; replace hok := hok.mono l7; replace s2 := s2.mono l7; (try replace e4 := e4.mono l7); (try replace e5 := e5.mono l7); (try replace e3 := e3.mono l7); (try replace s7 := s7.mono l7); (try replace s6 := s6.mono l7); (try replace s8 := s8.mono l7); conv => whnf)
        | (refine passed_vc f hok.s (by omega) hp hq 0 (by omega) s7 (by omega) (f.ns + 1) (by omega) ?_; intro G6 A6 c6 l6 s6; replace hok := hok.mono l6; replace s2 := s2.mono l6; (try replace e4 := e4.mono l6); (try replace e5 := e5.mono l6); (try replace e3 := e3.mono l6); (try replace s7 := s7.mono l6); (try replace s6 := s6.mono l6); (try replace s8 := s8.mono l6); conv => whnf)
        | (intro w' hw'; exact ⟨z, _, _, rfl, hw'.1, hw'.2, stepP hok s6 (by omega) p0 p1' s1' Ak.zero (Sl.nil _ _) ⟨by decide, by decide⟩ (by decide) (fun h => by rcases h with h | h <;> simp [Ak.zero] at h) (fun h => by simp [Ak.zero] at h) (fun h => by simp [Ak.zero] at h)⟩)
        | (refine CallVC.unsnap ?_; conv => whnf)
        | (refine SemVC.unsnap ?_; conv => whnf)
        | (apply And.intro <;> conv => whnf))
  · have hr := T.k3 rfl
    clear T
    rcases hr with ⟨ha0, ha1, ⟨hAw, hm'⟩ | ⟨hAw, hm'⟩⟩
    · have hm' : m = 0 := by omega
      subst hm'
      have hw : IntKind.i64.wrap ((f.ns : Int) - ((0 : Nat) : Int)) = ((f.ns - 0 : Nat) : Int) := by rw [IntKind.wrap_i64]; omega
      conv => whnf
      repeat' (first
        | (refine JoinVC.go ?_; conv => whnf)
        | (refine splitB.dec (fun h => ?_) (fun h => ?_) <;> first | (exfalso; omega) | conv => whnf)
        | (refine splitB.eq (fun h => ?_) (fun h => ?_) <;> first | (exfalso; omega) | conv => whnf)
        | (refine cut_top .int hok.s 0 hm hw ?_; intro A2 c2 s2; conv => whnf)
        | (intro w' hw'; exact ⟨z, _, _, rfl, hw'.1.1, hw'.1.2, stepE hok (by decide)⟩)
        | (refine awaits_snap hok.k (by omega) ?_; intro bb hbb; conv => whnf)
        | (refine splitB.intro (fun h => ?_) (fun h => absurd hAw (fun hA => by rw [hbb.2 hA] at h; cases h)); conv => whnf)
        | (intro w' hw'; exact ⟨z, _, _, rfl, hw'.1.1, hw'.1.2, step5 hok hAw.pos st p0 p1 s1⟩)
        | (refine CallVC.unsnap ?_; conv => whnf)
        | (refine SemVC.unsnap ?_; conv => whnf)
        | (apply And.intro <;> conv => whnf))
    · have hm' : m = 1 := by omega
      subst hm'
      have hw : IntKind.i64.wrap ((f.ns : Int) - ((1 : Nat) : Int)) = ((f.ns - 1 : Nat) : Int) := by rw [IntKind.wrap_i64]; omega
      conv => whnf
      repeat' (first
        | (refine JoinVC.go ?_; conv => whnf)
        | (refine splitB.dec (fun h => ?_) (fun h => ?_) <;> first | (exfalso; omega) | conv => whnf)
        | (refine splitB.eq (fun h => ?_) (fun h => ?_) <;> first | (exfalso; omega) | conv => whnf)
        | (refine cut_top .int hok.s 1 hm hw ?_; intro A2 c2 s2; conv => whnf)
        | (intro w' hw'; exact ⟨z, _, _, rfl, hw'.1.1, hw'.1.2, stepE hok (by decide)⟩)
        | (refine awaits_snap hok.k (by omega) ?_; intro bb hbb; conv => whnf)
        | (refine splitB.intro (fun h => absurd (hbb.1 h) hAw) (fun h => ?_); conv => whnf)
        | (refine passed_vc f hok.s (by omega) hp hq 1 (by omega) (Sl.nil _ _) (by omega) (f.ns - 1) (by omega) ?_; intro G6 A6 c6 l6 s6; replace hok := hok.mono l6; replace s2 := s2.mono l6; (try replace e4 := e4.mono l6); (try replace e5 := e5.mono l6); (try replace e3 := e3.mono l6); (try replace s7 := s7.mono l6); (try replace s6 := s6.mono l6); (try replace s8 := s8.mono l6); conv => whnf)
        | (refine bs0 .int ?_; intro G7 A7 l7 s7; replace hok := hok.mono l7; replace s2 := s2.mono l7; (try replace e4 := e4.mono l7); (try replace e5 := e5.mono l7); (try replace e3 := e3.mono l7); (try replace s7 := s7.mono l7); (try replace s6 := s6.mono l7); (try replace s8 := s8.mono l7); conv => whnf)
        | (refine app_T .int s7 hok.l f.nl (by omega) (by omega) ?_; intro G8 A8 c8 l8 s8; replace hok := hok.mono l8; replace s2 := s2.mono l8; (try replace e4 := e4.mono l8); (try replace e5 := e5.mono l8); (try replace e3 := e3.mono l8); (try replace s7 := s7.mono l8); (try replace s6 := s6.mono l8); (try replace s8 := s8.mono l8); conv => whnf)
        | (refine idx_T .int s2 0 rfl (by omega) ?_; intro b4 off4 e4; conv => whnf)
        | (refine ld_int e4 ?_; intro x4; conv => whnf)
        | (refine idx_T .int s8 a.toNat (toNat_eq (by omega)) (toNat_lt (by omega) (by omega)) ?_; intro b3 off3 e3; conv => whnf)
        | (refine sto_int e3 ?_; conv => whnf)
        | (intro w' hw'; exact ⟨z, _, _, rfl, hw'.1, hw'.2, stepG { f.pass A6 (f.ns - 1) c6 with Al := A8, cl := c8 } Ak.zero ⟨hok.p, s8, s6, hok.k⟩ (Sl.nil _ _) ⟨rfl, rfl, rfl, rfl, by show f.ns - 1 ≤ 100; omega, by show 0 ≤ f.pc + 1; omega, by show f.pc + 1 ≤ _; omega, .inr ⟨by decide, rfl⟩, by show f.spent + 1 ≤ 2000; omega, ⟨by decide, by decide⟩, (fun h => by rcases h with h | h <;> simp [Ak.zero] at h), (fun h => by simp [Ak.zero] at h), (fun h => by simp [Ak.zero] at h)⟩⟩)
        | (refine CallVC.unsnap ?_; conv => whnf)
        | (refine SemVC.unsnap ?_; conv => whnf)
        | (apply And.intro <;> conv => whnf))
  · have hr := T.k4 rfl
    have hm' : m = 0 := by have := hr; omega
    subst hm'
    clear T
    have hw : IntKind.i64.wrap ((f.ns : Int) - ((0 : Nat) : Int)) = ((f.ns - 0 : Nat) : Int) := by rw [IntKind.wrap_i64]; omega
    conv => whnf
    repeat' (first
      | (refine JoinVC.go ?_; conv => whnf)
      | (refine splitB.dec (fun h => ?_) (fun h => ?_) <;> first | (exfalso; omega) | conv => whnf)
      | (refine splitB.eq (fun h => ?_) (fun h => ?_) <;> first | (exfalso; omega) | conv => whnf)
      | (refine cut_top .int hok.s 0 hm hw ?_; intro A2 c2 s2; conv => whnf)
      | (intro w' hw'; exact ⟨z, _, _, rfl, hw'.1.1, hw'.1.2, stepE hok (by decide)⟩)
      | (refine passed_vc f hok.s (by omega) hp hq 0 (by omega) (Sl.nil _ _) (by omega) (f.ns) (by omega) ?_; intro G6 A6 c6 l6 s6; replace hok := hok.mono l6; replace s2 := s2.mono l6; (try replace e4 := e4.mono l6); (try replace e5 := e5.mono l6); (try replace e3 := e3.mono l6); (try replace s7 := s7.mono l6); (try replace s6 := s6.mono l6); (try replace s8 := s8.mono l6); conv => whnf)
      | (intro w' hw'; exact ⟨z, _, _, rfl, hw'.1, hw'.2, stepP hok s6 (by omega) p0 p1' s1' ⟨1, a, 0, 0, 0, 0, 0, none, 0, 0⟩ (Sl.nil _ _) ⟨by simp, by simp⟩ (by simp) (fun _ => ⟨hr.2.1, hr.2.2⟩) (fun h => by simp at h) (fun h => by simp at h)⟩)
      | (refine CallVC.unsnap ?_; conv => whnf)
      | (refine SemVC.unsnap ?_; conv => whnf)
      | (apply And.intro <;> conv => whnf))
  · have hr := T.k5 rfl
    have hm' : m = 1 := by have := hr; omega
    subst hm'
    clear T
    have hw : IntKind.i64.wrap ((f.ns : Int) - ((1 : Nat) : Int)) = ((f.ns - 1 : Nat) : Int) := by rw [IntKind.wrap_i64]; omega
    conv => whnf
    repeat' (first
      | (refine JoinVC.go ?_; conv => whnf)
      | (refine splitB.dec (fun h => ?_) (fun h => ?_) <;> first | (exfalso; omega) | conv => whnf)
      | (refine splitB.eq (fun h => ?_) (fun h => ?_) <;> first | (exfalso; omega) | conv => whnf)
      | (refine cut_top .int hok.s 1 hm hw ?_; intro A2 c2 s2; conv => whnf)
      | (intro w' hw'; exact ⟨z, _, _, rfl, hw'.1.1, hw'.1.2, stepE hok (by decide)⟩)
      | (refine passed_vc f hok.s (by omega) hp hq 1 (by omega) (Sl.nil _ _) (by omega) (f.ns - 1) (by omega) ?_; intro G6 A6 c6 l6 s6; replace hok := hok.mono l6; replace s2 := s2.mono l6; (try replace e4 := e4.mono l6); (try replace e5 := e5.mono l6); (try replace e3 := e3.mono l6); (try replace s7 := s7.mono l6); (try replace s6 := s6.mono l6); (try replace s8 := s8.mono l6); conv => whnf)
      | (refine idx_T .int s2 0 rfl (by omega) ?_; intro b4 off4 e4; conv => whnf)
      | (refine ld_int e4 ?_; intro x4; conv => whnf)
      | (intro w' hw'; exact ⟨z, _, _, rfl, hw'.1, hw'.2, stepP hok s6 (by omega) p0 p1' s1' ⟨2, a, x4, 0, 0, 0, 0, none, 0, 0⟩ (Sl.nil _ _) ⟨by simp, by simp⟩ (by simp) (fun _ => ⟨hr.2.1, hr.2.2⟩) (fun h => by simp at h) (fun h => by simp at h)⟩)
      | (refine CallVC.unsnap ?_; conv => whnf)
      | (refine SemVC.unsnap ?_; conv => whnf)
      | (apply And.intro <;> conv => whnf))
  · have hm' : m = 2 := by have := T.k6 (by omega); omega
    subst hm'
    clear T
    have hw : IntKind.i64.wrap ((f.ns : Int) - ((2 : Nat) : Int)) = ((f.ns - 2 : Nat) : Int) := by rw [IntKind.wrap_i64]; omega
    conv => whnf
    repeat' (first
      | (refine JoinVC.go ?_; conv => whnf)
      | (refine splitB.dec (fun h => ?_) (fun h => ?_) <;> first | (exfalso; omega) | conv => whnf)
      | (refine splitB.eq (fun h => ?_) (fun h => ?_) <;> first | (exfalso; omega) | conv => whnf)
      | (refine cut_top .int hok.s 2 hm hw ?_; intro A2 c2 s2; conv => whnf)
      | (intro w' hw'; exact ⟨z, _, _, rfl, hw'.1.1, hw'.1.2, stepE hok (by decide)⟩)
      | (refine idx_T .int s2 0 rfl (by omega) ?_; intro b4 off4 e4; conv => whnf)
      | (refine ld_int e4 ?_; intro x4; conv => whnf)
      | (refine idx_T .int s2 1 rfl (by omega) ?_; intro b5 off5 e5; conv => whnf)
      | (refine ld_int e5 ?_; intro x5; conv => whnf)
      | (refine CallVC.ofN [.int .i64 _, .int .i64 x4, .int .i64 x5] en60 isI (fun w => (wpair_any _ _ _ w).mono fun e w' ⟨n, h1, h2⟩ => ⟨_, h1, h2, n, rfl⟩) ?_; rintro v ⟨y, rfl⟩; conv => whnf)
      | (refine bsn [y] (by simp) ?_; intro G7 A7 l7 s7; replace hok := hok.mono l7; replace s2 := s2.mono l7; (try replace e4 := e4.mono l7); (try replace e5 := e5.mono l7); (try replace e3 := e3.mono l7); (try replace s7 := s7.mono l7); (try replace s6 := s6.mono l7); (try replace s8 := s8.mono l7); conv => whnf)
      | (refine passed_vc f hok.s (by omega) hp hq 2 (by omega) s7 (by omega) (f.ns - 2 + 1) (by omega) ?_; intro G6 A6 c6 l6 s6; replace hok := hok.mono l6; replace s2 := s2.mono l6; (try replace e4 := e4.mono l6); (try replace e5 := e5.mono l6); (try replace e3 := e3.mono l6); (try replace s7 := s7.mono l6); (try replace s6 := s6.mono l6); (try replace s8 := s8.mono l6); conv => whnf)
      | (intro w' hw'; exact ⟨z, _, _, rfl, hw'.1, hw'.2, stepP hok s6 (by omega) p0 p1' s1' Ak.zero (Sl.nil _ _) ⟨by decide, by decide⟩ (by decide) (fun h => by rcases h with h | h <;> simp [Ak.zero] at h) (fun h => by simp [Ak.zero] at h) (fun h => by simp [Ak.zero] at h)⟩)
      | (refine CallVC.unsnap ?_; conv => whnf)
      | (refine SemVC.unsnap ?_; conv => whnf)
      | (apply And.intro <;> conv => whnf))
  · have hm' : m = 2 := by have := T.k6 (by omega); omega
    subst hm'
    clear T
    have hw : IntKind.i64.wrap ((f.ns : Int) - ((2 : Nat) : Int)) = ((f.ns - 2 : Nat) : Int) := by rw [IntKind.wrap_i64]; omega
    conv => whnf
    repeat' (first
      | (refine JoinVC.go ?_; conv => whnf)
      | (refine splitB.dec (fun h => ?_) (fun h => ?_) <;> first | (exfalso; omega) | conv => whnf)
      | (refine splitB.eq (fun h => ?_) (fun h => ?_) <;> first | (exfalso; omega) | conv => whnf)
      | (refine cut_top .int hok.s 2 hm hw ?_; intro A2 c2 s2; conv => whnf)
      | (intro w' hw'; exact ⟨z, _, _, rfl, hw'.1.1, hw'.1.2, stepE hok (by decide)⟩)
      | (refine idx_T .int s2 0 rfl (by omega) ?_; intro b4 off4 e4; conv => whnf)
      | (refine ld_int e4 ?_; intro x4; conv => whnf)
      | (refine idx_T .int s2 1 rfl (by omega) ?_; intro b5 off5 e5; conv => whnf)
      | (refine ld_int e5 ?_; intro x5; conv => whnf)
      | (refine CallVC.ofN [.int .i64 _, .int .i64 x4, .int .i64 x5] en60 isI (fun w => (wpair_any _ _ _ w).mono fun e w' ⟨n, h1, h2⟩ => ⟨_, h1, h2, n, rfl⟩) ?_; rintro v ⟨y, rfl⟩; conv => whnf)
      | (refine bsn [y] (by simp) ?_; intro G7 A7 l7 s7; replace hok := hok.mono l7; replace s2 := s2.mono l7; (try replace e4 := e4.mono l7); (try replace e5 := e5.mono l7); (try replace e3 := e3.mono l7); (try replace s7 := s7.mono l7); (try replace s6 := s6.mono l7); (try replace s8 := s8.mono l7); conv => whnf)
      | (refine passed_vc f hok.s (by omega) hp hq 2 (by omega) s7 (by omega) (f.ns - 2 + 1) (by omega) ?_; intro G6 A6 c6 l6 s6; replace hok := hok.mono l6; replace s2 := s2.mono l6; (try replace e4 := e4.mono l6); (try replace e5 := e5.mono l6); (try replace e3 := e3.mono l6); (try replace s7 := s7.mono l6); (try replace s6 := s6.mono l6); (try replace s8 := s8.mono l6); conv => whnf)
      | (intro w' hw'; exact ⟨z, _, _, rfl, hw'.1, hw'.2, stepP hok s6 (by omega) p0 p1' s1' Ak.zero (Sl.nil _ _) ⟨by decide, by decide⟩ (by decide) (fun h => by rcases h with h | h <;> simp [Ak.zero] at h) (fun h => by simp [Ak.zero] at h) (fun h => by simp [Ak.zero] at h)⟩)
      | (refine CallVC.unsnap ?_; conv => whnf)
      | (refine SemVC.unsnap ?_; conv => whnf)
      | (apply And.intro <;> conv => whnf))
  · have hm' : m = 2 := by have := T.k6 (by omega); omega
    subst hm'
    clear T
    have hw : IntKind.i64.wrap ((f.ns : Int) - ((2 : Nat) : Int)) = ((f.ns - 2 : Nat) : Int) := by rw [IntKind.wrap_i64]; omega
    conv => whnf
    repeat' (first
      | (refine JoinVC.go ?_; conv => whnf)
      | (refine splitB.dec (fun h => ?_) (fun h => ?_) <;> first | (exfalso; omega) | conv => whnf)
      | (refine splitB.eq (fun h => ?_) (fun h => ?_) <;> first | (exfalso; omega) | conv => whnf)
      | (refine cut_top .int hok.s 2 hm hw ?_; intro A2 c2 s2; conv => whnf)
      | (intro w' hw'; exact ⟨z, _, _, rfl, hw'.1.1, hw'.1.2, stepE hok (by decide)⟩)
      | (refine idx_T .int s2 0 rfl (by omega) ?_; intro b4 off4 e4; conv => whnf)
      | (refine ld_int e4 ?_; intro x4; conv => whnf)
      | (refine idx_T .int s2 1 rfl (by omega) ?_; intro b5 off5 e5; conv => whnf)
      | (refine ld_int e5 ?_; intro x5; conv => whnf)
      | (refine CallVC.ofN [.int .i64 _, .int .i64 x4, .int .i64 x5] en60 isI (fun w => (wpair_any _ _ _ w).mono fun e w' ⟨n, h1, h2⟩ => ⟨_, h1, h2, n, rfl⟩) ?_; rintro v ⟨y, rfl⟩; conv => whnf)
      | (refine bsn [y] (by simp) ?_; intro G7 A7 l7 s7; replace hok := hok.mono l7; replace s2 := s2.mono l7; (try replace e4 := e4.mono l7); (try replace e5 := e5.mono l7); (try replace e3 := e3.mono l7); (try replace s7 := s7.mono l7); (try replace s6 := s6.mono l7); (try replace s8 := s8.mono l7); conv => whnf)
      | (refine passed_vc f hok.s (by omega) hp hq 2 (by omega) s7 (by omega) (f.ns - 2 + 1) (by omega) ?_; intro G6 A6 c6 l6 s6; replace hok := hok.mono l6; replace s2 := s2.mono l6; (try replace e4 := e4.mono l6); (try replace e5 := e5.mono l6); (try replace e3 := e3.mono l6); (try replace s7 := s7.mono l6); (try replace s6 := s6.mono l6); (try replace s8 := s8.mono l6); conv => whnf)
      | (intro w' hw'; exact ⟨z, _, _, rfl, hw'.1, hw'.2, stepP hok s6 (by omega) p0 p1' s1' Ak.zero (Sl.nil _ _) ⟨by decide, by decide⟩ (by decide) (fun h => by rcases h with h | h <;> simp [Ak.zero] at h) (fun h => by simp [Ak.zero] at h) (fun h => by simp [Ak.zero] at h)⟩)
      | (refine CallVC.unsnap ?_; conv => whnf)
      | (refine SemVC.unsnap ?_; conv => whnf)
      | (apply And.intro <;> conv => whnf))
  · have hm' : m = 2 := by have := T.k6 (by omega); omega
    subst hm'
    clear T
    have hw : IntKind.i64.wrap ((f.ns : Int) - ((2 : Nat) : Int)) = ((f.ns - 2 : Nat) : Int) := by rw [IntKind.wrap_i64]; omega
    conv => whnf
    repeat' (first
      | (refine JoinVC.go ?_; conv => whnf)
      | (refine splitB.dec (fun h => ?_) (fun h => ?_) <;> first | (exfalso; omega) | conv => whnf)
      | (refine splitB.eq (fun h => ?_) (fun h => ?_) <;> first | (exfalso; omega) | conv => whnf)
      | (refine cut_top .int hok.s 2 hm hw ?_; intro A2 c2 s2; conv => whnf)
      | (intro w' hw'; exact ⟨z, _, _, rfl, hw'.1.1, hw'.1.2, stepE hok (by decide)⟩)
      | (refine idx_T .int s2 0 rfl (by omega) ?_; intro b4 off4 e4; conv => whnf)
      | (refine ld_int e4 ?_; intro x4; conv => whnf)
      | (refine idx_T .int s2 1 rfl (by omega) ?_; intro b5 off5 e5; conv => whnf)
      | (refine ld_int e5 ?_; intro x5; conv => whnf)
      | (refine CallVC.ofN [.int .i64 _, .int .i64 x4, .int .i64 x5] en60 isI (fun w => (wpair_any _ _ _ w).mono fun e w' ⟨n, h1, h2⟩ => ⟨_, h1, h2, n, rfl⟩) ?_; rintro v ⟨y, rfl⟩; conv => whnf)
      | (refine bsn [y] (by simp) ?_; intro G7 A7 l7 s7; replace hok := hok.mono l7; replace s2 := s2.mono l7; (try replace e4 := e4.mono l7); (try replace e5 := e5.mono l7); (try replace e3 := e3.mono l7); (try replace s7 := s7.mono l7); (try replace s6 := s6.mono l7); (try replace s8 := s8.mono l7); conv => whnf)
      | (refine passed_vc f hok.s (by omega) hp hq 2 (by omega) s7 (by omega) (f.ns - 2 + 1) (by omega) ?_; intro G6 A6 c6 l6 s6; replace hok := hok.mono l6; replace s2 := s2.mono l6; (try replace e4 := e4.mono l6); (try replace e5 := e5.mono l6); (try replace e3 := e3.mono l6); (try replace s7 := s7.mono l6); (try replace s6 := s6.mono l6); (try replace s8 := s8.mono l6); conv => whnf)
      | (intro w' hw'; exact ⟨z, _, _, rfl, hw'.1, hw'.2, stepP hok s6 (by omega) p0 p1' s1' Ak.zero (Sl.nil _ _) ⟨by decide, by decide⟩ (by decide) (fun h => by rcases h with h | h <;> simp [Ak.zero] at h) (fun h => by simp [Ak.zero] at h) (fun h => by simp [Ak.zero] at h)⟩)
      | (refine CallVC.unsnap ?_; conv => whnf)
      | (refine SemVC.unsnap ?_; conv => whnf)
      | (apply And.intro <;> conv => whnf))
  · have hm' : m = 2 := by have := T.k6 (by omega); omega
    subst hm'
    clear T
    have hw : IntKind.i64.wrap ((f.ns : Int) - ((2 : Nat) : Int)) = ((f.ns - 2 : Nat) : Int) := by rw [IntKind.wrap_i64]; omega
    conv => whnf
    repeat' (first
      | (refine JoinVC.go ?_; conv => whnf)
      | (refine splitB.dec (fun h => ?_) (fun h => ?_) <;> first | (exfalso; omega) | conv => whnf)
      | (refine splitB.eq (fun h => ?_) (fun h => ?_) <;> first | (exfalso; omega) | conv => whnf)
      | (refine cut_top .int hok.s 2 hm hw ?_; intro A2 c2 s2; conv => whnf)
      | (intro w' hw'; exact ⟨z, _, _, rfl, hw'.1.1, hw'.1.2, stepE hok (by decide)⟩)
      | (refine idx_T .int s2 0 rfl (by omega) ?_; intro b4 off4 e4; conv => whnf)
      | (refine ld_int e4 ?_; intro x4; conv => whnf)
      | (refine idx_T .int s2 1 rfl (by omega) ?_; intro b5 off5 e5; conv => whnf)
      | (refine ld_int e5 ?_; intro x5; conv => whnf)
      | (refine CallVC.ofN [.int .i64 _, .int .i64 x4, .int .i64 x5] en60 isI (fun w => (wpair_any _ _ _ w).mono fun e w' ⟨n, h1, h2⟩ => ⟨_, h1, h2, n, rfl⟩) ?_; rintro v ⟨y, rfl⟩; conv => whnf)
      | (refine bsn [y] (by simp) ?_; intro G7 A7 l7 s7; replace hok := hok.mono l7; replace s2 := s2.mono l7; (try replace e4 := e4.mono l7); (try replace e5 := e5.mono l7); (try replace e3 := e3.mono l7); (try replace s7 := s7.mono l7); (try replace s6 := s6.mono l7); (try replace s8 := s8.mono l7); conv => whnf)
      | (refine passed_vc f hok.s (by omega) hp hq 2 (by omega) s7 (by omega) (f.ns - 2 + 1) (by omega) ?_; intro G6 A6 c6 l6 s6; replace hok := hok.mono l6; replace s2 := s2.mono l6; (try replace e4 := e4.mono l6); (try replace e5 := e5.mono l6); (try replace e3 := e3.mono l6); (try replace s7 := s7.mono l6); (try replace s6 := s6.mono l6); (try replace s8 := s8.mono l6); conv => whnf)
      | (intro w' hw'; exact ⟨z, _, _, rfl, hw'.1, hw'.2, stepP hok s6 (by omega) p0 p1' s1' Ak.zero (Sl.nil _ _) ⟨by decide, by decide⟩ (by decide) (fun h => by rcases h with h | h <;> simp [Ak.zero] at h) (fun h => by simp [Ak.zero] at h) (fun h => by simp [Ak.zero] at h)⟩)
      | (refine CallVC.unsnap ?_; conv => whnf)
      | (refine SemVC.unsnap ?_; conv => whnf)
      | (apply And.intro <;> conv => whnf))
  · have hr := T.k11 rfl
    clear T
    have hw : IntKind.i64.wrap ((f.ns : Int) - ((m : Nat) : Int)) = ((f.ns - m : Nat) : Int) := by rw [IntKind.wrap_i64]; omega
    conv => whnf
    repeat' (first
      | (refine JoinVC.go ?_; conv => whnf)
      | (refine splitB.dec (fun h => ?_) (fun h => ?_) <;> first | (exfalso; omega) | conv => whnf)
      | (refine splitB.eq (fun h => ?_) (fun h => ?_) <;> first | (exfalso; omega) | conv => whnf)
      | (refine cut_top .int hok.s m hm hw ?_; intro A2 c2 s2; conv => whnf)
      | (intro w' hw'; exact ⟨z, _, _, rfl, hw'.1.1, hw'.1.2, stepE hok (by decide)⟩)
      | (refine idx_T .int s2 0 rfl (by omega) ?_; intro b4 off4 e4; conv => whnf)
      | (refine ld_int e4 ?_; intro x4; conv => whnf)
      | (refine idx_T .int s2 1 rfl (by omega) ?_; intro b5 off5 e5; conv => whnf)
      | (refine ld_int e5 ?_; intro x5; conv => whnf)
      | (refine CallVC.ofN [.int .i64 _] en61 isI (fun w => (wkey_any _ w).mono fun e w' ⟨n, h1, h2⟩ => ⟨_, h1, h2, n, rfl⟩) ?_; rintro v ⟨y, rfl⟩; conv => whnf)
      | (refine passed_vc f hok.s (by omega) hp hq m (by omega) (Sl.nil _ _) (by omega) (f.ns - m) (by omega) ?_; intro G6 A6 c6 l6 s6; replace hok := hok.mono l6; replace s2 := s2.mono l6; (try replace e4 := e4.mono l6); (try replace e5 := e5.mono l6); (try replace e3 := e3.mono l6); (try replace s7 := s7.mono l6); (try replace s6 := s6.mono l6); (try replace s8 := s8.mono l6); conv => whnf)
      | (intro w' hw'; exact ⟨z, _, _, rfl, hw'.1, hw'.2, stepP hok s6 (by omega) p0 p1' s1' ⟨3, 0, 0, a, b, _, _, none, 0, 0⟩ (Sl.nil _ _) ⟨by simp, by simp⟩ (by simp) (fun h => by rcases h with h | h <;> simp at h) (fun _ => hr.2) (fun h => by simp at h)⟩)
      | (refine CallVC.unsnap ?_; conv => whnf)
      | (refine SemVC.unsnap ?_; conv => whnf)
      | (apply And.intro <;> conv => whnf))
  · have hm' : m = 1 := by have := T.k12 (by omega); omega
    subst hm'
    clear T
    have hw : IntKind.i64.wrap ((f.ns : Int) - ((1 : Nat) : Int)) = ((f.ns - 1 : Nat) : Int) := by rw [IntKind.wrap_i64]; omega
    conv => whnf
    repeat' (first
      | (refine JoinVC.go ?_; conv => whnf)
      | (refine splitB.dec (fun h => ?_) (fun h => ?_) <;> first | (exfalso; omega) | conv => whnf)
      | (refine splitB.eq (fun h => ?_) (fun h => ?_) <;> first | (exfalso; omega) | conv => whnf)
      | (refine cut_top .int hok.s 1 hm hw ?_; intro A2 c2 s2; conv => whnf)
      | (intro w' hw'; exact ⟨z, _, _, rfl, hw'.1.1, hw'.1.2, stepE hok (by decide)⟩)
      | (refine passed_vc f hok.s (by omega) hp hq 1 (by omega) (Sl.nil _ _) (by omega) (f.ns - 1) (by omega) ?_; intro G6 A6 c6 l6 s6; replace hok := hok.mono l6; replace s2 := s2.mono l6; (try replace e4 := e4.mono l6); (try replace e5 := e5.mono l6); (try replace e3 := e3.mono l6); (try replace s7 := s7.mono l6); (try replace s6 := s6.mono l6); (try replace s8 := s8.mono l6); conv => whnf)
      | (intro w' hw'; exact ⟨z, _, _, rfl, hw'.1, hw'.2, stepP hok s6 (by omega) p0 p1' s1' Ak.zero (Sl.nil _ _) ⟨by decide, by decide⟩ (by decide) (fun h => by rcases h with h | h <;> simp [Ak.zero] at h) (fun h => by simp [Ak.zero] at h) (fun h => by simp [Ak.zero] at h)⟩)
      | (refine CallVC.unsnap ?_; conv => whnf)
      | (refine SemVC.unsnap ?_; conv => whnf)
      | (apply And.intro <;> conv => whnf))
  · have hr := T.k13 rfl
    clear T
    have hw : IntKind.i64.wrap ((f.ns : Int) - ((m : Nat) : Int)) = ((f.ns - m : Nat) : Int) := by rw [IntKind.wrap_i64]; omega
    conv => whnf
    repeat' (first
      | (refine JoinVC.go ?_; conv => whnf)
      | (refine splitB.dec (fun h => ?_) (fun h => ?_) <;> first | (exfalso; omega) | conv => whnf)
      | (refine splitB.eq (fun h => ?_) (fun h => ?_) <;> first | (exfalso; omega) | conv => whnf)
      | (refine cut_top .int hok.s m hm hw ?_; intro A2 c2 s2; conv => whnf)
      | (intro w' hw'; exact ⟨z, _, _, rfl, hw'.1.1, hw'.1.2, stepE hok (by decide)⟩)
      | (refine passed_vc f hok.s (by omega) hp hq m (by omega) (Sl.nil _ _) (by omega) (f.ns - m) (by omega) ?_; intro G6 A6 c6 l6 s6; replace hok := hok.mono l6; replace s2 := s2.mono l6; (try replace e4 := e4.mono l6); (try replace e5 := e5.mono l6); (try replace e3 := e3.mono l6); (try replace s7 := s7.mono l6); (try replace s6 := s6.mono l6); (try replace s8 := s8.mono l6); conv => whnf)
      | (refine bs0 .int ?_; intro G7 A7 l7 s7; replace hok := hok.mono l7; replace s2 := s2.mono l7; (try replace e4 := e4.mono l7); (try replace e5 := e5.mono l7); (try replace e3 := e3.mono l7); (try replace s7 := s7.mono l7); (try replace s6 := s6.mono l7); (try replace s8 := s8.mono l7); conv => whnf)
      | (refine app_T .int s7 s2 m (by omega) (by omega) ?_; intro G8 A8 c8 l8 s8; replace hok := hok.mono l8; replace s2 := s2.mono l8; (try replace e4 := e4.mono l8); (try replace e5 := e5.mono l8); (try replace e3 := e3.mono l8); (try replace s7 := s7.mono l8); (try replace s6 := s6.mono l8); (try replace s8 := s8.mono l8); conv => whnf)
      | (intro w' hw'; exact ⟨z, _, _, rfl, hw'.1, hw'.2, stepP hok s6 (by omega) p0 p1' s1' ⟨4, a, d, 0, 0, 0, 0, A8, m, c8⟩ s8 ⟨by simp, by simp⟩ (by simp) (fun h => by rcases h with h | h <;> simp at h) (fun h => by simp at h) (fun _ => by show m ≤ 100; omega)⟩)
      | (refine CallVC.unsnap ?_; conv => whnf)
      | (refine SemVC.unsnap ?_; conv => whnf)
      | (apply And.intro <;> conv => whnf))
  · have hm' : m = 0 := by have := T.k14 rfl; omega
    subst hm'
    clear T
    have hw : IntKind.i64.wrap ((f.ns : Int) - ((0 : Nat) : Int)) = ((f.ns - 0 : Nat) : Int) := by rw [IntKind.wrap_i64]; omega
    conv => whnf
    repeat' (first
      | (refine JoinVC.go ?_; conv => whnf)
      | (refine splitB.dec (fun h => ?_) (fun h => ?_) <;> first | (exfalso; omega) | conv => whnf)
      | (refine splitB.eq (fun h => ?_) (fun h => ?_) <;> first | (exfalso; omega) | conv => whnf)
      | (refine cut_top .int hok.s 0 hm hw ?_; intro A2 c2 s2; conv => whnf)
      | (intro w' hw'; exact ⟨z, _, _, rfl, hw'.1.1, hw'.1.2, stepE hok (by decide)⟩)
      | (refine passed_vc f hok.s (by omega) hp hq 0 (by omega) (Sl.nil _ _) (by omega) (f.ns) (by omega) ?_; intro G6 A6 c6 l6 s6; replace hok := hok.mono l6; replace s2 := s2.mono l6; (try replace e4 := e4.mono l6); (try replace e5 := e5.mono l6); (try replace e3 := e3.mono l6); (try replace s7 := s7.mono l6); (try replace s6 := s6.mono l6); (try replace s8 := s8.mono l6); conv => whnf)
      | (intro w' hw'; exact ⟨z, _, _, rfl, hw'.1.1, hw'.1.2, step5 hok (by omega) st p0 p1 s1⟩)
      | (intro w' hw'; exact ⟨z, _, _, rfl, hw'.1, hw'.2, stepP hok s6 (by omega) p0 p1' s1' Ak.zero (Sl.nil _ _) ⟨by decide, by decide⟩ (by decide) (fun h => by rcases h with h | h <;> simp [Ak.zero] at h) (fun h => by simp [Ak.zero] at h) (fun h => by simp [Ak.zero] at h)⟩)
      | (refine CallVC.unsnap ?_; conv => whnf)
      | (refine SemVC.unsnap ?_; conv => whnf)
      | (apply And.intro <;> conv => whnf))
  · have hr := T.k15 rfl
    have hm' : m = 0 := by have := hr; omega
    subst hm'
    clear T
    have hw : IntKind.i64.wrap ((f.ns : Int) - ((0 : Nat) : Int)) = ((f.ns - 0 : Nat) : Int) := by rw [IntKind.wrap_i64]; omega
    conv => whnf
    repeat' (first
      | (refine JoinVC.go ?_; conv => whnf)
      | (refine splitB.dec (fun h => ?_) (fun h => ?_) <;> first | (exfalso; omega) | conv => whnf)
      | (refine splitB.eq (fun h => ?_) (fun h => ?_) <;> first | (exfalso; omega) | conv => whnf)
      | (refine cut_top .int hok.s 0 hm hw ?_; intro A2 c2 s2; conv => whnf)
      | (intro w' hw'; exact ⟨z, _, _, rfl, hw'.1.1, hw'.1.2, stepE hok (by decide)⟩)
      | (refine passed_vc f hok.s (by omega) hp hq 0 (by omega) (Sl.nil _ _) (by omega) (f.ns - 0) (by omega) ?_; intro G6 A6 c6 l6 s6; replace hok := hok.mono l6; replace s2 := s2.mono l6; (try replace e4 := e4.mono l6); (try replace e5 := e5.mono l6); (try replace e3 := e3.mono l6); (try replace s7 := s7.mono l6); (try replace s6 := s6.mono l6); (try replace s8 := s8.mono l6); conv => whnf)
      | (intro w' hw'; exact ⟨z, _, _, rfl, hw'.1, hw'.2, stepG { f.pass A6 (f.ns - 0) c6 with pc := a } Ak.zero ⟨hok.p, hok.l, s6, hok.k⟩ (Sl.nil _ _) ⟨rfl, rfl, rfl, rfl, by show f.ns - 0 ≤ 100; omega, by show 0 ≤ a; omega, by show a ≤ _; omega, .inr ⟨by decide, rfl⟩, by show f.spent + 1 ≤ 2000; omega, ⟨by decide, by decide⟩, (fun h => by rcases h with h | h <;> simp [Ak.zero] at h), (fun h => by simp [Ak.zero] at h), (fun h => by simp [Ak.zero] at h)⟩⟩)
      | (refine CallVC.unsnap ?_; conv => whnf)
      | (refine SemVC.unsnap ?_; conv => whnf)
      | (apply And.intro <;> conv => whnf))
  · have hr := T.k16 h16
    have hm' : m = 1 := by have := hr; omega
    subst hm'
    clear T
    have hw : IntKind.i64.wrap ((f.ns : Int) - ((1 : Nat) : Int)) = ((f.ns - 1 : Nat) : Int) := by rw [IntKind.wrap_i64]; omega
    conv => whnf
    repeat' (first
      | (refine JoinVC.go ?_; conv => whnf)
      | (refine splitB.dec (fun h => ?_) (fun h => ?_) <;> first | (exfalso; omega) | conv => whnf)
      | (refine splitB.eq (fun h => ?_) (fun h => ?_) <;> first | (exfalso; omega) | conv => whnf)
      | (refine cut_top .int hok.s 1 hm hw ?_; intro A2 c2 s2; conv => whnf)
      | (intro w' hw'; exact ⟨z, _, _, rfl, hw'.1.1, hw'.1.2, stepE hok (by decide)⟩)
      | (refine passed_vc f hok.s (by omega) hp hq 1 (by omega) (Sl.nil _ _) (by omega) (f.ns - 1) (by omega) ?_; intro G6 A6 c6 l6 s6; replace hok := hok.mono l6; replace s2 := s2.mono l6; (try replace e4 := e4.mono l6); (try replace e5 := e5.mono l6); (try replace e3 := e3.mono l6); (try replace s7 := s7.mono l6); (try replace s6 := s6.mono l6); (try replace s8 := s8.mono l6); conv => whnf)
      | (refine idx_T .int s2 0 rfl (by omega) ?_; intro b4 off4 e4; conv => whnf)
      | (refine ld_int e4 ?_; intro x4; conv => whnf)
      | (refine CallVC.unsnap ?_; conv => whnf)
      | (refine SemVC.unsnap ?_; conv => whnf)
      | (apply And.intro <;> conv => whnf))
    · intro w' hw'
      exact ⟨z, _, _, rfl, hw'.1, hw'.2, stepG { f.pass A6 (f.ns - 1) c6 with pc := a } Ak.zero ⟨hok.p, hok.l, s6, hok.k⟩ (Sl.nil _ _) ⟨rfl, rfl, rfl, rfl, by show f.ns - 1 ≤ 100; omega, by show 0 ≤ a; omega, by show a ≤ _; omega, .inr ⟨by decide, rfl⟩, by show f.spent + 1 ≤ 2000; omega, ⟨by decide, by decide⟩, (fun h => by rcases h with h | h <;> simp [Ak.zero] at h), (fun h => by simp [Ak.zero] at h), (fun h => by simp [Ak.zero] at h)⟩⟩
    · intro w' hw'
      exact ⟨z, _, _, rfl, hw'.1, hw'.2, stepP hok s6 (by omega) p0 p1' s1' Ak.zero (Sl.nil _ _) ⟨by decide, by decide⟩ (by decide) (fun h => by rcases h with h | h <;> simp [Ak.zero] at h) (fun h => by simp [Ak.zero] at h) (fun h => by simp [Ak.zero] at h)⟩
  · have hr := T.k17 rfl
    clear T
    rcases hr with ⟨hnk, hm'⟩ | ⟨hnk, hm'⟩
    · have hm' : m = 0 := by omega
      subst hm'
      have hw : IntKind.i64.wrap ((f.ns : Int) - ((0 : Nat) : Int)) = ((f.ns - 0 : Nat) : Int) := by rw [IntKind.wrap_i64]; omega
      conv => whnf
      repeat' (first
        | (refine JoinVC.go ?_; conv => whnf)
        | (refine splitB.dec (fun h => ?_) (fun h => ?_) <;> first | (exfalso; omega) | conv => whnf)
        | (refine splitB.eq (fun h => ?_) (fun h => ?_) <;> first | (exfalso; omega) | conv => whnf)
        | (refine cut_top .int hok.s 0 hm hw ?_; intro A2 c2 s2; conv => whnf)
        | (intro w' hw'; exact ⟨z, _, _, rfl, hw'.1.1, hw'.1.2, stepE hok (by decide)⟩)
        | (intro w' hw'; exact ⟨z, _, _, rfl, hw'.1.1, hw'.1.2, step5 hok hnk st p0 p1 s1⟩)
        | (refine CallVC.unsnap ?_; conv => whnf)
        | (refine SemVC.unsnap ?_; conv => whnf)
        | (apply And.intro <;> conv => whnf))
    · have hm' : m = 1 := by omega
      subst hm'
      have hw : IntKind.i64.wrap ((f.ns : Int) - ((1 : Nat) : Int)) = ((f.ns - 1 : Nat) : Int) := by rw [IntKind.wrap_i64]; omega
      conv => whnf
      repeat' (first
        | (refine JoinVC.go ?_; conv => whnf)
        | (refine splitB.dec (fun h => ?_) (fun h => ?_) <;> first | (exfalso; omega) | conv => whnf)
        | (refine splitB.eq (fun h => ?_) (fun h => ?_) <;> first | (exfalso; omega) | conv => whnf)
        | (refine cut_top .int hok.s 1 hm hw ?_; intro A2 c2 s2; conv => whnf)
        | (intro w' hw'; exact ⟨z, _, _, rfl, hw'.1.1, hw'.1.2, stepE hok (by decide)⟩)
        | (refine passed_vc f hok.s (by omega) hp hq 1 (by omega) (Sl.nil _ _) (by omega) (f.ns - 1) (by omega) ?_; intro G6 A6 c6 l6 s6; replace hok := hok.mono l6; replace s2 := s2.mono l6; (try replace e4 := e4.mono l6); (try replace e5 := e5.mono l6); (try replace e3 := e3.mono l6); (try replace s7 := s7.mono l6); (try replace s6 := s6.mono l6); (try replace s8 := s8.mono l6); conv => whnf)
        | (refine idx_T .int s2 0 rfl (by omega) ?_; intro b4 off4 e4; conv => whnf)
        | (refine ld_int e4 ?_; intro x4; conv => whnf)
        | (intro w' hw'; exact ⟨z, _, _, rfl, hw'.1, hw'.2, stepP hok s6 (by omega) p0 p1' s1' ⟨6, x4, 0, 0, 0, 0, 0, none, 0, 0⟩ (Sl.nil _ _) ⟨by simp, by simp⟩ (by simp) (fun h => by rcases h with h | h <;> simp at h) (fun h => by simp at h) (fun h => by simp at h)⟩)
        | (refine CallVC.unsnap ?_; conv => whnf)
        | (refine SemVC.unsnap ?_; conv => whnf)
        | (apply And.intro <;> conv => whnf))
  · have hm' : m = 1 := by have := T.k12 (by omega); omega
    subst hm'
    clear T
    have hw : IntKind.i64.wrap ((f.ns : Int) - ((1 : Nat) : Int)) = ((f.ns - 1 : Nat) : Int) := by rw [IntKind.wrap_i64]; omega
    conv => whnf
    repeat' (first
      | (refine JoinVC.go ?_; conv => whnf)
      | (refine splitB.dec (fun h => ?_) (fun h => ?_) <;> first | (exfalso; omega) | conv => whnf)
      | (refine splitB.eq (fun h => ?_) (fun h => ?_) <;> first | (exfalso; omega) | conv => whnf)
      | (refine cut_top .int hok.s 1 hm hw ?_; intro A2 c2 s2; conv => whnf)
      | (intro w' hw'; exact ⟨z, _, _, rfl, hw'.1.1, hw'.1.2, stepE hok (by decide)⟩)
      | (refine passed_vc f hok.s (by omega) hp hq 1 (by omega) (Sl.nil _ _) (by omega) (f.ns - 1) (by omega) ?_; intro G6 A6 c6 l6 s6; replace hok := hok.mono l6; replace s2 := s2.mono l6; (try replace e4 := e4.mono l6); (try replace e5 := e5.mono l6); (try replace e3 := e3.mono l6); (try replace s7 := s7.mono l6); (try replace s6 := s6.mono l6); (try replace s8 := s8.mono l6); conv => whnf)
      | (refine idx_T .int s2 0 rfl (by omega) ?_; intro b4 off4 e4; conv => whnf)
      | (refine ld_int e4 ?_; intro x4; conv => whnf)
      | (refine splitB.intro (fun h => ?_) (fun h => ?_) <;> conv => whnf)
      | (intro w' hw'; exact ⟨z, _, _, rfl, hw'.1, hw'.2, stepG { f.pass A6 (f.ns - 1) c6 with fail := true } Ak.zero ⟨hok.p, hok.l, s6, hok.k⟩ (Sl.nil _ _) ⟨rfl, rfl, rfl, rfl, by show f.ns - 1 ≤ 100; omega, by show 0 ≤ f.pc + 1; omega, by show f.pc + 1 ≤ _; omega, .inr ⟨by decide, rfl⟩, by show f.spent + 1 ≤ 2000; omega, ⟨by decide, by decide⟩, (fun h => by rcases h with h | h <;> simp [Ak.zero] at h), (fun h => by simp [Ak.zero] at h), (fun h => by simp [Ak.zero] at h)⟩⟩)
      | (intro w' hw'; exact ⟨z, _, _, rfl, hw'.1, hw'.2, stepG { f.pass A6 (f.ns - 1) c6 with fail := x4 == 0 } Ak.zero ⟨hok.p, hok.l, s6, hok.k⟩ (Sl.nil _ _) ⟨rfl, rfl, rfl, rfl, by show f.ns - 1 ≤ 100; omega, by show 0 ≤ f.pc + 1; omega, by show f.pc + 1 ≤ _; omega, .inr ⟨by decide, rfl⟩, by show f.spent + 1 ≤ 2000; omega, ⟨by decide, by decide⟩, (fun h => by rcases h with h | h <;> simp [Ak.zero] at h), (fun h => by simp [Ak.zero] at h), (fun h => by simp [Ak.zero] at h)⟩⟩)
      | (refine CallVC.unsnap ?_; conv => whnf)
      | (refine SemVC.unsnap ?_; conv => whnf)
      | (apply And.intro <;> conv => whnf))
  · have hm' : m = 2 := by have := T.k6 (by omega); omega
    subst hm'
    clear T
    have hw : IntKind.i64.wrap ((f.ns : Int) - ((2 : Nat) : Int)) = ((f.ns - 2 : Nat) : Int) := by rw [IntKind.wrap_i64]; omega
    conv => whnf
    repeat' (first
      | (refine JoinVC.go ?_; conv => whnf)
      | (refine splitB.dec (fun h => ?_) (fun h => ?_) <;> first | (exfalso; omega) | conv => whnf)
      | (refine splitB.eq (fun h => ?_) (fun h => ?_) <;> first | (exfalso; omega) | conv => whnf)
      | (refine cut_top .int hok.s 2 hm hw ?_; intro A2 c2 s2; conv => whnf)
      | (intro w' hw'; exact ⟨z, _, _, rfl, hw'.1.1, hw'.1.2, stepE hok (by decide)⟩)
      | (refine idx_T .int s2 0 rfl (by omega) ?_; intro b4 off4 e4; conv => whnf)
      | (refine ld_int e4 ?_; intro x4; conv => whnf)
      | (refine idx_T .int s2 1 rfl (by omega) ?_; intro b5 off5 e5; conv => whnf)
      | (refine ld_int e5 ?_; intro x5; conv => whnf)
      | (refine CallVC.ofN [.int .i64 _, .int .i64 x4, .int .i64 x5] en60 isI (fun w => (wpair_any _ _ _ w).mono fun e w' ⟨n, h1, h2⟩ => ⟨_, h1, h2, n, rfl⟩) ?_; rintro v ⟨y, rfl⟩; conv => whnf)
      | (refine bsn [y] (by simp) ?_; intro G7 A7 l7 s7; replace hok := hok.mono l7; replace s2 := s2.mono l7; (try replace e4 := e4.mono l7); (try replace e5 := e5.mono l7); (try replace e3 := e3.mono l7); (try replace s7 := s7.mono l7); (try replace s6 := s6.mono l7); (try replace s8 := s8.mono l7); conv => whnf)
      | (refine passed_vc f hok.s (by omega) hp hq 2 (by omega) s7 (by omega) (f.ns - 2 + 1) (by omega) ?_; intro G6 A6 c6 l6 s6; replace hok := hok.mono l6; replace s2 := s2.mono l6; (try replace e4 := e4.mono l6); (try replace e5 := e5.mono l6); (try replace e3 := e3.mono l6); (try replace s7 := s7.mono l6); (try replace s6 := s6.mono l6); (try replace s8 := s8.mono l6); conv => whnf)
      | (intro w' hw'; exact ⟨z, _, _, rfl, hw'.1, hw'.2, stepP hok s6 (by omega) p0 p1' s1' Ak.zero (Sl.nil _ _) ⟨by decide, by decide⟩ (by decide) (fun h => by rcases h with h | h <;> simp [Ak.zero] at h) (fun h => by simp [Ak.zero] at h) (fun h => by simp [Ak.zero] at h)⟩)
      | (refine CallVC.unsnap ?_; conv => whnf)
      | (refine SemVC.unsnap ?_; conv => whnf)
      | (apply And.intro <;> conv => whnf))
end Go.Proofs.Ytahhihhfjimppaa
/- The document's vm, in a typed heap: Next. -/
namespace Go.Proofs.Ytahhihhfjimppaa
open Go.RowKit
set_option linter.unusedSimpArgs false
set_option linter.unusedVariables false
set_option maxRecDepth 100000

structure NextF (c : Cd) (f : Fm) (k : Ak) (f' : Fm) : Prop where
  fn : f'.fn = f.fn
  np : f'.np = f.np
  nl : f'.nl = f.nl
  nk : f'.nk = f.nk
  ns : f'.ns ≤ 100
  sp : k.kind = 5 ∧ 0 < f.nk ∧ f.spent ≤ f'.spent ∨ k.kind ≠ 5 ∧ f.spent < f'.spent
  s0 : 0 ≤ f.spent
  s1 : f'.spent ≤ 2000
  k0 : 1 ≤ k.kind ∧ k.kind ≤ 6
  k1 : k.kind = 1 ∨ k.kind = 2 → 0 ≤ k.a ∧ k.a < c.nc
  k3 : k.kind = 3 → 1 ≤ k.o0 ∧ k.o0 ≤ 7 ∧ 0 ≤ k.o1 ∧ k.o1 < c.many k.o0
  k4 : k.kind = 4 → k.n ≤ 100
def NextΦ (c : Cd) (z : Zp) (f : Fm) (z' : Zp) (G' : Gh) (v : Value) : Prop := z' = z ∧ ∃ (f' : Fm) (k : Ak) (e : Int), v = .tuple #[f'.val, k.val, .int .i64 e] ∧ f'.Ok G' ∧ Sl G' .int k.A k.n k.c ∧ (e = 0 → NextF c f k f')
theorem nextE {c : Cd} {z : Zp} {f : Fm} {G : Gh} (ho : f.Ok G) {e : Int} (he : e ≠ 0) : NextΦ c z f z G (.tuple #[f.val, Ak.zero.val, .int .i64 e]) := ⟨rfl, f, Ak.zero, e, rfl, ho, Sl.nil _ _, fun h => absurd h he⟩
/-- a frame on its way -/
structure OnWay (B : Nat → Bd) (f g : Fm) : Prop where
  fn : g.fn = f.fn
  np : g.np = f.np
  nl : g.nl = f.nl
  nk : g.nk = f.nk
  ns : g.ns ≤ 100
  p0 : 0 ≤ g.pc
  p1 : g.pc ≤ (B f.fn.toNat).n
  s0 : f.spent ≤ g.spent
  s1 : g.spent ≤ 2000
set_option maxHeartbeats 1000000 in
theorem next_T (z : Zp) (G : Gh) (w : World) (tw : TW z G w) (c : Cd) (B : Nat → Bd) (hc : c.Is B G w) (hB : ∀ k, k < c.nf → (B k).n ≤ 400) (f : Fm) (hok : f.Ok G) (hn : f.nk ≤ 10000) (hl : f.nl ≤ 10000) (hs : f.ns ≤ 10000) :
    Calls Try.prog 44 #[c.val, f.val] w (PostT z G w (NextΦ c z f)) := by
  refine go44 (by rfl) (CtxT z G G w) (CtxT.start tw) ?_
  conv => whnf
  refine CallVC.readT [c.val, f.val] en50 (fun v => ∃ b, v = .bool b ∧ (b = true → RightF c B f)) (fun w' tw' ex' => right_B z G w' tw' c B (hc.ex ex') f hok (by omega) (by omega) (by omega)) ?_
  rintro v ⟨b, rfl, hb⟩
  conv => whnf
  refine splitB.not (fun h => ?_) (fun h => ?_)
  · conv => whnf
    intro w' hw'
    exact ⟨z, _, _, rfl, hw'.1, hw'.2, nextE hok (by decide)⟩
  have R := hb h
  have sp0 := R.s0
  conv => whnf
  refine LoopVC.on (X := Gh × Fm × Nat) (fun x => [(2, .p 2 0), (3, .p 3 0), (4, .p 4 0), (5, .p 5 0), (8, .p 8 0), (9, .v (.int .i64 x.2.2))]) (fun x => [(2, 54, c.l), (3, 107, f.l), (4, 107, Fm.zero.l), (5, 111, Ak.zero.l), (8, 107, x.2.1.l)]) (fun x => CtxT z x.1 G w) (fun x => f.Ok x.1 ∧ x.2.1.Ok x.1 ∧ OnWay B f x.2.1 ∧ x.2.2 ≤ 2002) (fun x => 2002 - x.2.2) (G, f, 0) ⟨hok, hok, ⟨rfl, rfl, rfl, rfl, R.st, R.p0, R.p1, Int.le_refl _, R.s1⟩, by show 0 ≤ 2002; omega⟩ ⟨rfl, rfl, rfl, rfl, rfl, rfl, trivial⟩ ⟨rfl, rfl, rfl, rfl, rfl, trivial⟩ ?_
  clear hok hb
  rintro ⟨G1, g, i⟩ r ⟨hok, gok, W, hi⟩
  simp only at hok gok W hi
  conv => whnf
  refine splitB.dec (fun h => ?_) (fun h => ?_)
  · have h : (i : Int) < 2002 := h
    have Rg : RightF c B g := ⟨by rw [W.fn]; exact R.f0, by rw [W.fn]; exact R.f1, W.p0, by rw [W.fn]; exact W.p1, by have := W.s0; omega, W.s1, W.ns⟩
    have hgk : g.nk ≤ 10000 := by rw [W.nk]; exact hn
    have hgl : g.nl ≤ 10000 := by rw [W.nl]; exact hl
    conv => whnf
    refine CallVC.ofT [c.val, g.val] en51 (StepΦ c B z g) (fun w' tw' ex' => vstep_T z G1 w' tw' c B (hc.ex ex') hB g gok hgk hgl Rg) ?_
    rintro z' G2 v l2 ⟨rfl, g', k, e, rfl, gok', hka, hst⟩
    replace hok := hok.mono l2
    conv => whnf
    refine splitB.ne (fun he => ?_) (fun he => ?_)
    · conv => whnf
      intro w' hw'
      exact ⟨z', _, _, rfl, hw'.1, hw'.2, nextE hok he⟩
    have S := hst he
    conv => whnf
    refine splitB.ne (fun hk => ?_) (fun hk => ?_)
    · conv => whnf
      intro w' hw'
      refine ⟨z', _, _, rfl, hw'.1, hw'.2, rfl, g', k, 0, rfl, gok', hka, fun _ => ?_⟩
      refine ⟨S.fn.trans W.fn, S.np.trans W.np, S.nl.trans W.nl, S.nk.trans W.nk, S.ns, ?_, sp0, S.s1, ?_, S.k1, S.k3, S.k4⟩
      · have h1 := W.s0
        rcases S.sp with ⟨h2, h3, h4⟩ | ⟨h2, h3⟩
        · exact .inl ⟨h2, by rw [← W.nk]; exact h3, by rw [h4]; exact h1⟩
        · exact .inr ⟨h2, by omega⟩
      · have := S.k0
        omega
    · conv => whnf
      have hsp : g'.spent = g.spent + 1 := by
        rcases S.sp with ⟨h2, h3, h4⟩ | ⟨h2, h3⟩
        · rw [hk] at h2; cases h2
        · exact h3
      exact rnd (G2, g', i + 1) (by show 2002 - (i + 1) < 2002 - i; omega) ⟨hok, gok', ⟨S.fn.trans W.fn, S.np.trans W.np, S.nl.trans W.nl, S.nk.trans W.nk, S.ns, S.p0, by have := S.p1; rw [W.fn] at this; exact this, by have := W.s0; rw [hsp]; omega, S.s1⟩, by show i + 1 ≤ 2002; omega⟩ ⟨rfl, rfl, rfl, rfl, rfl, by show _ = _; rw [← wnat i (by omega)]; rfl, trivial⟩ ⟨rfl, rfl, rfl, rfl, rfl, trivial⟩
  · conv => whnf
    intro w' hw'
    exact ⟨z, _, _, rfl, hw'.1, hw'.2, nextE hok (by decide)⟩
end Go.Proofs.Ytahhihhfjimppaa
/- The document's objects, in a typed heap: at, with, without. -/
namespace Go.Proofs.Ytahhihhfjimppaa
open Go.RowKit
set_option linter.unusedSimpArgs false
set_option linter.unusedVariables false
set_option maxRecDepth 100000

/-- a content -/
structure Cn where
  k : Int
  Ak : Option Addr
  nk : Nat
  ck : Nat
  Av : Option Addr
  nv : Nat
  cv : Nat
def Cn.val (c : Cn) : Value := .agg #[.int .i64 c.k, .slice c.Ak c.nk c.ck, .slice c.Av c.nv c.cv]
def Cn.l (c : Cn) : List Value := [.int .i64 c.k, .slice c.Ak c.nk c.ck, .slice c.Av c.nv c.cv]
def Cn.zero : Cn := ⟨0, none, 0, 0, none, 0, 0⟩
abbrev Cn.Ok (c : Cn) (G : Gh) : Prop := CtT G c.k c.Ak c.nk c.ck c.Av c.nv c.cv
theorem at_B (z : Zp) (G : Gh) (w : World) (tw : TW z G w) (c : Cn) (hk : Sl G .int c.Ak c.nk c.ck) (hn : c.nk ≤ 1000000) (x : Int) :
    Calls Try.prog 69 #[c.val, .int .i64 x] w (PostB w fun v => ∃ n : Int, v = .int .i64 n ∧ (n = -1 ∨ ∃ i : Nat, n = i ∧ i < c.nk)) := by
  refine go69 (by rfl) (CtxB w) (CtxB.start w) ?_
  conv => whnf
  refine LoopVC.on (X := Nat) (fun k => [(1, .v (.int .i64 x)), (2, .p 2 0), (5, .v (.int .i64 k))]) (fun _ => [(2, 94, c.l)]) (fun _ => CtxB w) (fun k => k ≤ c.nk) (fun k => c.nk - k) 0 (Nat.zero_le _) ⟨rfl, rfl, rfl, trivial⟩ ⟨rfl, trivial⟩ ?_
  intro k r hk1
  by_cases hlt : k < c.nk
  · obtain ⟨b, off, hA, hbl, _, a, h0⟩ := hk.at_ tw hlt
    simp only [RT.size, Nat.mul_one, Nat.add_zero] at h0
    conv => whnf
    refine splitB.dec (fun hc => ?_) (fun hc => absurd (Int.ofNat_lt.2 hlt) hc)
    conv => whnf
    refine idx_ok hA k rfl hlt ?_
    conv => whnf
    refine ldB ti3_ok rfl h0 hbl ?_ (by rw [Nat.mul_one])
    conv => whnf
    refine splitB.eq (fun he => ?_) (fun he => ?_)
    · conv => whnf
      intro w' hw'
      exact ⟨_, rfl, hw', _, rfl, .inr ⟨k, rfl, hlt⟩⟩
    · conv => whnf
      exact rnd (k + 1) (by omega) (by omega) ⟨rfl, rfl, by show _ = _; rw [← wnat k (by omega)]; rfl, trivial⟩ ⟨rfl, trivial⟩
  · conv => whnf
    refine splitB.dec (fun hc => absurd (Int.ofNat_lt.1 hc) hlt) (fun hc => ?_)
    conv => whnf
    intro w' hw'
    exact ⟨_, rfl, hw', _, rfl, .inl rfl⟩
set_option maxHeartbeats 1000000 in
theorem with_T (z : Zp) (G : Gh) (w : World) (tw : TW z G w) (c : Cn) (hk : Sl G .int c.Ak c.nk c.ck) (hv : Sl G .int c.Av c.nv c.cv) (he : c.nk = c.nv) (hn : c.nv ≤ 1000000) (key val : Int) :
    Calls Try.prog 70 #[c.val, .int .i64 key, .int .i64 val] w (PostT z G w fun z' G' v => z' = z ∧ ∃ c' : Cn, v = c'.val ∧ c'.Ok G' ∧ c'.k = c.k ∧ c'.nv = c.nv + 1) := by
  refine go70 (by rfl) (CtxT z G G w) (CtxT.start tw) ?_
  conv => whnf
  refine LoopVC.on (X := Gh × Cn × Bool × Nat) (fun (_, d, dn, i) => [(1, .v (.int .i64 key)), (2, .v (.int .i64 val)), (3, .p 3 0), (6, .p 6 0), (7, .p 7 0), (8, .v (.bool dn)), (9, .v (.int .i64 i))]) (fun (_, d, _, _) => [(3, 94, c.l), (6, 94, Cn.zero.l), (7, 94, d.l)]) (fun (G1, _, _, _) => CtxT z G1 G w) (fun (G1, d, dn, i) => Sl G1 .int c.Ak c.nk c.ck ∧ Sl G1 .int c.Av c.nv c.cv ∧ d.Ok G1 ∧ d.k = c.k ∧ d.nk = d.nv ∧ d.nv = i + dn.toNat ∧ i ≤ c.nk) (fun (_, _, _, i) => c.nk - i) (G, ⟨c.k, none, 0, 0, none, 0, 0⟩, false, 0) ⟨hk, hv, ⟨Sl.nil _ _, Sl.nil _ _, fun _ => rfl, Nat.le_refl _⟩, rfl, rfl, rfl, Nat.zero_le _⟩ ⟨rfl, rfl, rfl, rfl, rfl, rfl, rfl, trivial⟩ ⟨rfl, rfl, rfl, trivial⟩ ?_
  clear hk hv
  rintro ⟨G1, d, dn, i⟩ r ⟨hk, hv, hd, hdk, hdn, hdi, hi⟩
  have hdb : dn.toNat ≤ 1 := by cases dn <;> simp
  have stp : IntKind.i64.wrap ((i : Int) + 1) = ((i + 1 : Nat) : Int) := wnat i (by omega)
  obtain ⟨sk, sv, _, _⟩ := hd
  by_cases hlt : i < c.nk
  · cases dn with
    | true =>
      have hdi : d.nv = i + 1 := hdi
      conv => whnf
      repeat' (first
        | (refine splitB.dec (fun h => ?_) (fun h => ?_) <;> first | (exfalso; omega) | conv => whnf)
        | (refine JoinVC.go ?_; conv => whnf)
        | (refine idx_T .int hk i rfl hlt ?_; intro b1 off1 e1; conv => whnf)
        | (refine idx_T .int hv i rfl (by omega) ?_; intro b1 off1 e1; conv => whnf)
        | (refine ld_int e1 ?_; intro x1; conv => whnf)
        | (refine bsn [_] (by simp) ?_; intro G2 A2 l2 s2; replace hk := hk.mono l2; replace hv := hv.mono l2; replace sk := sk.mono l2; replace sv := sv.mono l2; (try replace s3 := s3.mono l2); conv => whnf)
        | (refine app_T .int sk s2 (d.nk + 1) (by omega) (by omega) ?_; intro G3 A3 c3 l3 s3; replace hk := hk.mono l3; replace hv := hv.mono l3; replace sv := sv.mono l3; replace sk := sk.mono l3; conv => whnf)
        | (refine app_T .int sv s2 (d.nv + 1) (by omega) (by omega) ?_; intro G4 A4 c4 l4 s4; replace hk := hk.mono l4; replace hv := hv.mono l4; replace s3 := s3.mono l4; conv => whnf)
        | exact rnd (_, ⟨d.k, A3, d.nk + 1, c3, A4, d.nv + 1, c4⟩, true, i + 1) (by show c.nk - (i + 1) < c.nk - i; omega) ⟨hk, hv, ⟨s3, s4, fun _ => by show d.nk + 1 = d.nv + 1; omega, by show d.nk + 1 ≤ d.nv + 1; omega⟩, hdk, by show d.nk + 1 = d.nv + 1; omega, by show d.nv + 1 = i + 1 + 1; omega, by show i + 1 ≤ c.nk; omega⟩ ⟨rfl, rfl, rfl, rfl, rfl, rfl, by show _ = _; rw [← stp]; rfl, trivial⟩ ⟨rfl, rfl, rfl, trivial⟩)
    | false =>
      have hdi : d.nv = i := hdi
      conv => whnf
      repeat' (first
        | (refine splitB.dec (fun h => ?_) (fun h => ?_) <;> first | (exfalso; omega) | conv => whnf)
        | (refine JoinVC.go ?_; conv => whnf)
        | (refine idx_T .int hk i rfl hlt ?_; intro b1 off1 e1; conv => whnf)
        | (refine idx_T .int hv i rfl (by omega) ?_; intro b1 off1 e1; conv => whnf)
        | (refine ld_int e1 ?_; intro x1; conv => whnf)
        | (refine bsn [_] (by simp) ?_; intro G2 A2 l2 s2; replace hk := hk.mono l2; replace hv := hv.mono l2; (try replace sk := sk.mono l2); (try replace sv := sv.mono l2); (try replace s3 := s3.mono l2); (try replace s4 := s4.mono l2); (try replace s5 := s5.mono l2); conv => whnf)
        | (refine app_T .int sk s2 (d.nk + 1) (by omega) (by omega) ?_; intro G3 A3 c3 l3 s3; replace hk := hk.mono l3; replace hv := hv.mono l3; replace sv := sv.mono l3; clear sk; conv => whnf)
        | (refine app_T .int sv s2 (d.nv + 1) (by omega) (by omega) ?_; intro G4 A4 c4 l4 s4; replace hk := hk.mono l4; replace hv := hv.mono l4; replace s3 := s3.mono l4; clear sv; conv => whnf)
        | (refine app_T .int s3 s2 (d.nk + 1 + 1) (by omega) (by omega) ?_; intro G5 A5 c5 l5 s5; replace hk := hk.mono l5; replace hv := hv.mono l5; replace s4 := s4.mono l5; clear s3; conv => whnf)
        | (refine app_T .int s4 s2 (d.nv + 1 + 1) (by omega) (by omega) ?_; intro G6 A6 c6 l6 s6; replace hk := hk.mono l6; replace hv := hv.mono l6; replace s5 := s5.mono l6; conv => whnf)
        | exact rnd (_, ⟨d.k, A5, d.nk + 1 + 1, c5, A6, d.nv + 1 + 1, c6⟩, true, i + 1) (by show c.nk - (i + 1) < c.nk - i; omega) ⟨hk, hv, ⟨s5, s6, fun _ => by show d.nk + 1 + 1 = d.nv + 1 + 1; omega, by show d.nk + 1 + 1 ≤ d.nv + 1 + 1; omega⟩, hdk, by show d.nk + 1 + 1 = d.nv + 1 + 1; omega, by show d.nv + 1 + 1 = i + 1 + 1; omega, by show i + 1 ≤ c.nk; omega⟩ ⟨rfl, rfl, rfl, rfl, rfl, rfl, by show _ = _; rw [← stp]; rfl, trivial⟩ ⟨rfl, rfl, rfl, trivial⟩
        | exact rnd (_, ⟨d.k, A3, d.nk + 1, c3, A4, d.nv + 1, c4⟩, false, i + 1) (by show c.nk - (i + 1) < c.nk - i; omega) ⟨hk, hv, ⟨s3, s4, fun _ => by show d.nk + 1 = d.nv + 1; omega, by show d.nk + 1 ≤ d.nv + 1; omega⟩, hdk, by show d.nk + 1 = d.nv + 1; omega, by show d.nv + 1 = i + 1 + 0; omega, by show i + 1 ≤ c.nk; omega⟩ ⟨rfl, rfl, rfl, rfl, rfl, rfl, by show _ = _; rw [← stp]; rfl, trivial⟩ ⟨rfl, rfl, rfl, trivial⟩)
  · cases dn with
    | true =>
      have hdi : d.nv = i + 1 := hdi
      conv => whnf
      repeat' (first
        | (refine splitB.dec (fun h => ?_) (fun h => ?_) <;> first | (exfalso; omega) | conv => whnf)
        | (refine JoinVC.go ?_; conv => whnf))
      intro w' hw'
      exact ⟨z, _, _, rfl, hw'.1, hw'.2, rfl, d, rfl, ⟨sk, sv, fun _ => hdn, by omega⟩, hdk, by omega⟩
    | false =>
      have hdi : d.nv = i := hdi
      conv => whnf
      repeat' (first
        | (refine splitB.dec (fun h => ?_) (fun h => ?_) <;> first | (exfalso; omega) | conv => whnf)
        | (refine JoinVC.go ?_; conv => whnf)
        | (refine idx_T .int hk i rfl hlt ?_; intro b1 off1 e1; conv => whnf)
        | (refine idx_T .int hv i rfl (by omega) ?_; intro b1 off1 e1; conv => whnf)
        | (refine ld_int e1 ?_; intro x1; conv => whnf)
        | (refine bsn [_] (by simp) ?_; intro G2 A2 l2 s2; replace hk := hk.mono l2; replace hv := hv.mono l2; (try replace sk := sk.mono l2); (try replace sv := sv.mono l2); (try replace s3 := s3.mono l2); (try replace s4 := s4.mono l2); (try replace s5 := s5.mono l2); conv => whnf)
        | (refine app_T .int sk s2 (d.nk + 1) (by omega) (by omega) ?_; intro G3 A3 c3 l3 s3; replace hk := hk.mono l3; replace hv := hv.mono l3; replace sv := sv.mono l3; clear sk; conv => whnf)
        | (refine app_T .int sv s2 (d.nv + 1) (by omega) (by omega) ?_; intro G4 A4 c4 l4 s4; replace hk := hk.mono l4; replace hv := hv.mono l4; replace s3 := s3.mono l4; clear sv; conv => whnf))
      intro w' hw'
      exact ⟨z, _, _, rfl, hw'.1, hw'.2, rfl, ⟨d.k, A3, d.nk + 1, c3, A4, d.nv + 1, c4⟩, rfl, ⟨s3, s4, fun _ => by show d.nk + 1 = d.nv + 1; omega, by show d.nk + 1 ≤ d.nv + 1; omega⟩, hdk, by show d.nv + 1 = c.nv + 1; omega⟩
end Go.Proofs.Ytahhihhfjimppaa
/- The document's objects, in a typed heap: without, Do. -/
namespace Go.Proofs.Ytahhihhfjimppaa
open Go.RowKit
set_option linter.unusedSimpArgs false
set_option linter.unusedVariables false
set_option maxRecDepth 100000

set_option maxHeartbeats 1000000 in
theorem without_T (z : Zp) (G : Gh) (w : World) (tw : TW z G w) (c : Cn) (hc : c.Ok G) (hn : c.nv ≤ 1000000) (k : Int) :
    Calls Try.prog 71 #[c.val, .int .i64 k] w (PostT z G w fun z' G' v => z' = z ∧ ∃ c' : Cn, v = c'.val ∧ c'.Ok G' ∧ c'.k = c.k ∧ c'.nv ≤ c.nv) := by
  obtain ⟨hk, hv, hsm, hle⟩ := hc
  refine go71 (by rfl) (CtxT z G G w) (CtxT.start tw) ?_
  conv => whnf
  refine LoopVC.on (X := Gh × Cn × Nat) (fun (_, d, i) => [(1, .v (.int .i64 k)), (2, .p 2 0), (4, .p 4 0), (5, .p 5 0), (6, .v (.int .i64 i))]) (fun (_, d, _) => [(2, 94, c.l), (4, 94, Cn.zero.l), (5, 94, d.l)]) (fun (G1, _, _) => CtxT z G1 G w) (fun (G1, d, i) => Sl G1 .int c.Ak c.nk c.ck ∧ Sl G1 .int c.Av c.nv c.cv ∧ d.Ok G1 ∧ d.k = c.k ∧ d.nv ≤ i ∧ i ≤ c.nv) (fun (_, _, i) => c.nv - i) (G, ⟨c.k, none, 0, 0, none, 0, 0⟩, 0) ⟨hk, hv, ⟨Sl.nil _ _, Sl.nil _ _, fun _ => rfl, Nat.le_refl _⟩, rfl, Nat.le_refl _, Nat.zero_le _⟩ ⟨rfl, rfl, rfl, rfl, rfl, trivial⟩ ⟨rfl, rfl, rfl, trivial⟩ ?_
  clear hk hv
  rintro ⟨G1, d, i⟩ r ⟨hk, hv, hd, hdk, hdi, hi⟩
  have stp : IntKind.i64.wrap ((i : Int) + 1) = ((i + 1 : Nat) : Int) := wnat i (by omega)
  obtain ⟨sk, sv, dsm, dle⟩ := hd
  by_cases hlt : i < c.nv
  · by_cases h1 : c.k = 1
    · have e1' := hsm h1
      have e2' := dsm (hdk.trans h1)
      conv => whnf
      repeat' (first
        | (refine splitB.dec (fun h => ?_) (fun h => ?_) <;> first | (exfalso; omega) | conv => whnf)
        | (refine splitB.eq (fun h => ?_) (fun h => ?_) <;> first | (exfalso; omega) | conv => whnf)
        | (refine JoinVC.go ?_; conv => whnf)
        | (refine idx_T .int hk i rfl (by omega) ?_; intro b1 off1 e1; conv => whnf)
        | (refine idx_T .int hv i rfl hlt ?_; intro b1 off1 e1; conv => whnf)
        | (refine ld_int e1 ?_; intro x1; conv => whnf)
        | (refine bsn [_] (by simp) ?_; intro G2 A2 l2 s2; replace hk := hk.mono l2; replace hv := hv.mono l2; (try replace sk := sk.mono l2); (try replace sv := sv.mono l2); (try replace s3 := s3.mono l2); conv => whnf)
        | (refine app_T .int sk s2 (d.nk + 1) (by omega) (by omega) ?_; intro G3 A3 c3 l3 s3; replace hk := hk.mono l3; replace hv := hv.mono l3; replace sv := sv.mono l3; clear sk; conv => whnf)
        | (refine app_T .int sv s2 (d.nv + 1) (by omega) (by omega) ?_; intro G4 A4 c4 l4 s4; replace hk := hk.mono l4; replace hv := hv.mono l4; replace s3 := s3.mono l4; clear sv; conv => whnf)
        | exact rnd (_, ⟨d.k, A3, d.nk + 1, c3, A4, d.nv + 1, c4⟩, i + 1) (by show c.nv - (i + 1) < c.nv - i; omega) ⟨hk, hv, ⟨s3, s4, fun _ => by show d.nk + 1 = d.nv + 1; omega, by show d.nk + 1 ≤ d.nv + 1; omega⟩, hdk, by show d.nv + 1 ≤ i + 1; omega, by show i + 1 ≤ c.nv; omega⟩ ⟨rfl, rfl, rfl, rfl, by show _ = _; rw [← stp]; rfl, trivial⟩ ⟨rfl, rfl, rfl, trivial⟩
        | exact rnd (_, d, i + 1) (by show c.nv - (i + 1) < c.nv - i; omega) ⟨hk, hv, ⟨sk, sv, dsm, dle⟩, hdk, by show d.nv ≤ i + 1; omega, by show i + 1 ≤ c.nv; omega⟩ ⟨rfl, rfl, rfl, rfl, by show _ = _; rw [← stp]; rfl, trivial⟩ ⟨rfl, rfl, rfl, trivial⟩)
    · conv => whnf
      repeat' (first
        | (refine splitB.dec (fun h => ?_) (fun h => ?_) <;> first | (exfalso; omega) | conv => whnf)
        | (refine splitB.eq (fun h => ?_) (fun h => ?_) <;> first | (exfalso; omega) | conv => whnf)
        | (refine JoinVC.go ?_; conv => whnf)
        | (refine idx_T .int hv i rfl hlt ?_; intro b1 off1 e1; conv => whnf)
        | (refine ld_int e1 ?_; intro x1; conv => whnf)
        | (refine bsn [_] (by simp) ?_; intro G2 A2 l2 s2; replace hk := hk.mono l2; replace hv := hv.mono l2; (try replace sk := sk.mono l2); (try replace sv := sv.mono l2); conv => whnf)
        | (refine app_T .int sv s2 (d.nv + 1) (by omega) (by omega) ?_; intro G4 A4 c4 l4 s4; replace hk := hk.mono l4; replace hv := hv.mono l4; replace sk := sk.mono l4; clear sv; conv => whnf)
        | exact rnd (_, ⟨d.k, d.Ak, d.nk, d.ck, A4, d.nv + 1, c4⟩, i + 1) (by show c.nv - (i + 1) < c.nv - i; omega) ⟨hk, hv, ⟨sk, s4, fun e => absurd (hdk.symm.trans e) h1, by show d.nk ≤ d.nv + 1; omega⟩, hdk, by show d.nv + 1 ≤ i + 1; omega, by show i + 1 ≤ c.nv; omega⟩ ⟨rfl, rfl, rfl, rfl, by show _ = _; rw [← stp]; rfl, trivial⟩ ⟨rfl, rfl, rfl, trivial⟩
        | exact rnd (_, d, i + 1) (by show c.nv - (i + 1) < c.nv - i; omega) ⟨hk, hv, ⟨sk, sv, dsm, dle⟩, hdk, by show d.nv ≤ i + 1; omega, by show i + 1 ≤ c.nv; omega⟩ ⟨rfl, rfl, rfl, rfl, by show _ = _; rw [← stp]; rfl, trivial⟩ ⟨rfl, rfl, rfl, trivial⟩)
  · conv => whnf
    repeat' (first
      | (refine splitB.dec (fun h => ?_) (fun h => ?_) <;> first | (exfalso; omega) | conv => whnf)
      | (refine JoinVC.go ?_; conv => whnf))
    intro w' hw'
    exact ⟨z, _, _, rfl, hw'.1, hw'.2, rfl, d, rfl, ⟨sk, sv, dsm, dle⟩, hdk, by omega⟩
def DoΦ (z : Zp) (c : Cn) (z' : Zp) (G' : Gh) (v : Value) : Prop := z' = z ∧ ∃ (c' : Cn) (x : Int) (b : Bool), v = .tuple #[c'.val, .int .i64 x, .bool b] ∧ c'.Ok G' ∧ c'.nv ≤ c.nv + 1
set_option maxHeartbeats 1000000 in
theorem do_T (z : Zp) (G : Gh) (w : World) (tw : TW z G w) (c : Cn) (hc : c.Ok G) (hn : c.nv ≤ 1000000) (o0 o1 o2 o3 : Int) :
    Calls Try.prog 63 #[c.val, .agg #[.int .i64 o0, .int .i64 o1, .int .i64 o2, .int .i64 o3]] w (PostT z G w (DoΦ z c)) := by
  refine go63 (by rfl) (CtxT z G G w) (CtxT.start tw) ?_
  conv => whnf
  refine CallVC.ofN [.int .i64 o0] en62 isI (fun w => (wof_any _ w).mono fun e w' ⟨n, h1, h2⟩ => ⟨_, h1, h2, n, rfl⟩) ?_
  rintro v ⟨kd, rfl⟩
  conv => whnf
  repeat' (first
    | (refine splitB.dec (fun h => ?_) (fun h => ?_) <;> first | (exfalso; omega) | conv => whnf)
    | (refine splitB.eq (fun h => ?_) (fun h => ?_) <;> first | (exfalso; omega) | conv => whnf)
    | (refine splitB.ne (fun h => ?_) (fun h => ?_) <;> first | (exfalso; omega) | conv => whnf)
    | (refine JoinVC.go ?_; conv => whnf)
    | (refine CallVC.readT [c.val, .int .i64 o2] en69 (fun v => ∃ n : Int, v = .int .i64 n ∧ (n = -1 ∨ ∃ i : Nat, n = i ∧ i < c.nk)) (fun w' tw' _ => at_B z G w' tw' c hc.sk (by have := hc.le; omega) o2) ?_
       rintro v ⟨n, rfl, rfl | ⟨i, rfl, hi⟩⟩ <;> conv => whnf)
    | (refine (splitB.not (b := decide (_ ≥ _)) (fun h => ?_) (fun h => ?_) : splitB (!decide (_ ≥ _)) _ _) <;> first | (exfalso; simp at h; done) | conv => whnf)
    | (intro w' hw'; exact ⟨z, _, _, rfl, hw'.1, hw'.2, rfl, c, _, _, rfl, hc, Nat.le_succ _⟩)
    | (refine idx_T .int hc.sv i rfl (by have := hc.same (by omega); omega) ?_; intro b1 off1 e1; conv => whnf)
    | (refine idx_T .int hc.sv 0 rfl (by omega) ?_; intro b1 off1 e1; conv => whnf)
    | (refine ld_int e1 ?_; intro x1; conv => whnf)
    | (refine CallVC.ofT [c.val, .int .i64 o2, .int .i64 o3] en70 _ (fun w' tw' _ => with_T z _ w' tw' c hc.sk hc.sv (hc.same (by omega)) hn o2 o3) ?_
       rintro z' G2 v l2 ⟨rfl, d, rfl, hd, hdk, hdn⟩
       conv => whnf)
    | (refine CallVC.ofT [c.val, .int .i64 _] en71 _ (fun w' tw' _ => without_T z _ w' tw' c hc hn _) ?_
       rintro z' G2 v l2 ⟨rfl, d, rfl, hd, hdk, hdn⟩
       replace hc := hc.mono l2; (try replace e1 := e1.mono l2); (try replace s1 := s1.mono l2); (try replace s2 := s2.mono l2); (try replace s3 := s3.mono l2)
       conv => whnf)
    | (intro w' hw'; exact ⟨_, _, _, rfl, hw'.1, hw'.2, rfl, d, _, _, rfl, hd, by omega⟩)
    | (refine bs0 .int ?_; intro G3 A3 l3 s3; (try replace s4 := s4.mono l3); replace hc := hc.mono l3; (try replace e1 := e1.mono l3); (try replace s1 := s1.mono l3); (try replace s2 := s2.mono l3); (try replace hd := hd.mono l3); conv => whnf)
    | (refine bsn [o2] (by simp) ?_; intro G4 A4 l4 s4; replace hc := hc.mono l4; (try replace e1 := e1.mono l4); (try replace s1 := s1.mono l4); (try replace s2 := s2.mono l4); (try replace s3 := s3.mono l4); (try replace hd := hd.mono l4); (try replace s5 := s5.mono l4); conv => whnf)
    | (refine app_T .int s3 hc.sv c.nv (by omega) (by omega) ?_; intro G5 A5 c5 l5 s5; replace hc := hc.mono l5; (try replace s4 := s4.mono l5); conv => whnf)
    | (refine app_T .int s4 hc.sv (c.nv + 1) (by omega) (by omega) ?_; intro G6 A6 c6 l6 s6; conv => whnf)
    | (refine app_T .int s5 s4 (c.nv + 1) (by omega) (by omega) ?_; intro G6 A6 c6 l6 s6; conv => whnf)
    | (intro w' hw'; exact ⟨_, _, _, rfl, hw'.1, hw'.2, rfl, ⟨c.k, none, 0, 0, A6, c.nv + 1, c6⟩, _, _, rfl, ⟨Sl.nil _ _, s6, fun e => absurd e (by show ¬ c.k = 1; omega), Nat.zero_le _⟩, Nat.le_refl _⟩)
    | (apply And.intro <;> conv => whnf))
end Go.Proofs.Ytahhihhfjimppaa
