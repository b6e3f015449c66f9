/- Lemmas for the proof, joined from several texts: no statement of its own; their conditions stand in them. -/
import Derived.Test.YtgaopcbjhepklaaGreatQ1
import Derived.Test.YtgaopcbjhepklaaGreatPlB
import Derived.Test.YtgaopcbjhepklaaGreatGd
import Derived.Test.YtgaopcbjhepklaaGreatZi
/- A seat that seeks: in plain terms. -/
namespace Go.Proofs.YtgaopcbjhepklaaGreat
set_option linter.unusedVariables false
theorem w64_id {x : Int} (h : -9000000000000000000 ≤ x ∧ x < 9000000000000000000) : w64 x = x := wrapI (by omega)
section
variable {n k i : Nat}
theorem seekP_0 {n me w : Int} : seekP n me w 0 = ⟨9, me, 0, 0⟩ := by simp [seekP]
theorem seekP_lt (hn : 1 ≤ n ∧ n ≤ 8) (hk : k < n) (h0 : 0 < i) (hi : i < n) : seekP (n : Int) (k : Int) (k : Int) (i : Int) = ⟨10, (((k + i) % n : Nat) : Int), 0, 0⟩ := by
  have e1 : w64 ((n : Int) - 1) = (n : Int) - 1 := w64_id (by omega)
  have e2 : w64 ((k : Int) + i) = ((k + i : Nat) : Int) := (w64_id (by omega)).trans (by omega)
  unfold seekP
  rw [if_neg (by omega), e1, if_pos (by omega), e2]
  rfl
theorem seekP_ge (hn : 1 ≤ n ∧ n ≤ 8) (hk : k < n) (h0 : n ≤ i) (hi : i + 2 ≤ 2 * n) : seekP (n : Int) (k : Int) (k : Int) (i : Int) = ⟨16, 0, (((k + i + 1 - n) % n : Nat) : Int), (k : Int)⟩ := by
  have e1 : w64 ((n : Int) - 1) = (n : Int) - 1 := w64_id (by omega)
  have e2 : w64 ((k : Int) + i) = (k : Int) + i := w64_id (by omega)
  have e3 : w64 ((k : Int) + i - n) = (k : Int) + i - n := w64_id (by omega)
  have e4 : w64 ((k : Int) + i - n + 1) = ((k + i + 1 - n : Nat) : Int) := (w64_id (by omega)).trans (by omega)
  have e5 : w64 (2 * (n : Int)) = 2 * n := w64_id (by omega)
  have e6 : w64 (2 * (n : Int) - 2) = 2 * n - 2 := w64_id (by omega)
  unfold seekP
  rw [if_neg (by omega), e1, if_neg (by omega), e2, e3, e4, e5, e6, if_pos (by omega)]
  rfl
def nextAt (n i : Nat) : Nat := if i + 2 = 2 * n ∨ n = 0 then 0 else i + 1
theorem nextAt_eq (hn : 1 ≤ n ∧ n ≤ 8) (hi : i + 2 ≤ 2 * n) : atP (n : Int) (soughtA (n : Int) (i : Int)) = ((nextAt n i : Nat) : Int) := by
  have e5 : w64 (2 * (n : Int)) = 2 * n := w64_id (by omega)
  have e6 : w64 (2 * (n : Int) - 2) = 2 * n - 2 := w64_id (by omega)
  have e7 : w64 (2 * (n : Int) - 1) = 2 * n - 1 := w64_id (by omega)
  have e8 : w64 ((i : Int) + 1) = (i : Int) + 1 := w64_id (by omega)
  unfold atP soughtA nextAt
  rw [e5, e6, e7, e8]
  split <;> split <;> split <;> omega
def stepSk (n k i : Nat) (st : List Int × List Int) : List Int × List Int :=
  if i = 0 then st else if i < n then (st.1.set ((k + i) % n) (w64 (st.1.getD ((k + i) % n) 0 + 1)), st.2) else (st.1, st.2.set ((k + i + 1 - n) % n) (w64 (st.2.getD ((k + i + 1 - n) % n) 0 + 1)))
def cntSk (n k : Nat) : Nat → List Int × List Int
  | 0 => (List.replicate n 0, List.replicate n 0)
  | i + 1 => stepSk n k i (cntSk n k i)
def wantSk (n k : Nat) : List Int := (List.range n).map fun j => if j = k then 0 else 1
theorem cnt_len : ∀ (i : Nat), (cntSk n k i).1.length = n ∧ (cntSk n k i).2.length = n
  | 0 => by simp [cntSk]
  | i + 1 => by
    have h := cnt_len i
    simp only [cntSk, stepSk]
    repeat' split
    · exact h
    · exact ⟨by rw [List.length_set]; exact h.1, h.2⟩
    · exact ⟨h.1, by rw [List.length_set]; exact h.2⟩
set_option maxRecDepth 100000 in
theorem cnt_all : (List.range 9).all (fun n => (List.range n).all fun k => decide ((cntSk n k (2 * n - 1)).1 = wantSk n k) && decide ((cntSk n k (2 * n - 1)).2 = wantSk n k)) = true := by decide +kernel
theorem cnt_end (hn : n ≤ 8) (hk : k < n) : cntSk n k (2 * n - 1) = (wantSk n k, wantSk n k) := by
  have h := List.all_eq_true.1 cnt_all n (List.mem_range.2 (by omega))
  have h2 := List.all_eq_true.1 h k (List.mem_range.2 hk)
  simp only [Bool.and_eq_true, decide_eq_true_eq] at h2
  exact Prod.ext h2.1 h2.2
end
end Go.Proofs.YtgaopcbjhepklaaGreat
/- alive: its code, its frame; small steps. -/
namespace Go.Proofs.YtgaopcbjhepklaaGreat
open Go.RowKit
set_option linter.unusedSimpArgs false
set_option linter.unusedVariables false
set_option maxRecDepth 100000
def codeA (b26 b28 b29 : Nat) : CodeP := ⟨some ⟨b28, 0, none⟩, 1, 1, some ⟨b29, 0, none⟩, 1, 1, 0, 0, 0, 0, [⟨0, 0, some ⟨b26, 0, none⟩, 4, 4, [⟨1, 4, 0, 0⟩, ⟨5, 0, 0, 0⟩, ⟨1, 9, 0, 0⟩, ⟨17, 0, 0, 0⟩]⟩]⟩
def rowsC (b26 b28 b29 : Nat) (M : EL) : EL := (.slice (some ⟨b29, 0, none⟩) 1 1, .row 3 1 [.int .i64 0]) :: (.slice (some ⟨b28, 0, none⟩) 1 1, .row 63 3 [.int .i64 0, .int .i64 0, .slice (some ⟨b26, 0, none⟩) 4 4]) :: (.slice (some ⟨b26, 0, none⟩) 4 4, .row 65 4 (insL [⟨1, 4, 0, 0⟩, ⟨5, 0, 0, 0⟩, ⟨1, 9, 0, 0⟩, ⟨17, 0, 0, 0⟩])) :: M
def sA : SeP := ⟨0, 0, 1, 0, 0, 0, 0, 0, 0, 0, none, 0, 0, 0, 0, 0, 0, none, 0, 0, none, 0, 0, none, 0, 0, 0⟩
def fA : FrP := ⟨1, none, 0, 0, [], 0, 0, none, 0, 0, [], none, 0, 0, [], none, 0, 0, [], 0, 0, false⟩
def uA : OuP := ⟨0, true, 0, 0, none, 0, 0⟩
def laA : LaP := ⟨2, 4, 1, 1, 8, 1, 0, 0, 0, 0, 1, 2, 3, 4, 6, 8, 14, 20, 44, 76, 77, 77, 77, 77, 109⟩
theorem fA_ok (w : World) : FrOk w fA := ⟨⟨.inl rfl, rfl, Nat.le_refl _, by decide⟩, ⟨.inl rfl, rfl, Nat.le_refl _, by decide⟩, ⟨.inl rfl, rfl, Nat.le_refl _, by decide⟩, ⟨.inl rfl, rfl, Nat.le_refl _, by decide⟩⟩
section
variable {b26 b28 b29 : Nat}
theorem codeA_ok {wB E : World} {M0 M : EL} (hE : InE wB M E) (hs : ∀ e ∈ rowsC b26 b28 b29 [], e ∈ M) : CodeOk E (codeA b26 b28 b29) := by
  have h1 := hE.row (some ⟨b28, 0, none⟩) 1 1 63 3 [.int .i64 0, .int .i64 0, .slice (some ⟨b26, 0, none⟩) 4 4] (hs _ (.tail _ (.head _)))
  have h2 := hE.row (some ⟨b26, 0, none⟩) 4 4 65 4 (insL [⟨1, 4, 0, 0⟩, ⟨5, 0, 0, 0⟩, ⟨1, 9, 0, 0⟩, ⟨17, 0, 0, 0⟩]) (hs _ (.tail _ (.tail _ (.head _))))
  refine ⟨rfl, by show (1 : Nat) ≤ 1000000; decide, by show (1 : Nat) ≤ 1000000; decide, fun i hi => ?_, fun i hi => ?_⟩
  · have hi' : i < 1 := hi
    obtain rfl : i = 0 := by omega
    refine ⟨b28, 0, rfl, fun q v hv => ?_⟩
    obtain ⟨b, off, hA, _, hc⟩ := h1.1.at_ hv
    injection hA with hA
    injection hA with e1 e2
    subst e1 e2
    simpa using hc
  · have hi' : i < 1 := hi
    obtain rfl : i = 0 := by omega
    exact ⟨h2.1, rfl, by show (4 : Nat) ≤ 1000000; decide⟩
theorem nextA1 : nextP (codeA b26 b28 b29) fA = .ok ⟨2, 2, false, [], []⟩ { kind := 2, a := 0, b := 4 } := rfl
theorem rightA1 : rightB (codeA b26 b28 b29) fA = true := rfl
theorem nextA2 {g : FrP} (h0 : g.fn = 0) (h1 : g.pc = 2) (h2 : g.spent = 2) (h3 : g.fail = false) (h4 : g.loc = []) (h5 : g.stk = []) (h6 : g.nk = 0) (h7 : g.kids = []) : nextP (codeA b26 b28 b29) g = .ok ⟨4, 4, false, [], []⟩ { kind := 6, a := 9 } := by
  unfold nextP kOf
  rw [h0, h1, h2, h3, h4, h5, h6, h7]
  rfl
theorem rightA2 {g : FrP} (ht : g.task = 1) (h0 : g.fn = 0) (h1 : g.pc = 2) (h2 : g.spent = 2) (h4 : g.loc = []) (h5 : g.stk = []) (h6 : g.nl = 0) (h8 : g.ns = 0) (h7 : g.kids = []) (h9 : g.many = 0) : rightB (codeA b26 b28 b29) g = true := by
  unfold rightB
  rw [ht, h0, h1, h2, h4, h5, h6, h7, h8, h9]
  rfl
/-- what the frame of alive is behind its first way -/
structure GA (g : FrP) (q : QV) : Prop where
  task : g.task = 1
  fn : g.fn = 0
  pc : g.pc = 2
  spent : g.spent = 2
  fail : g.fail = false
  loc : g.loc = []
  stk : g.stk = []
  kids : g.kids = []
  many : g.many = 0
  kind : q.kind = 2
  a : q.a = 0
  b : q.b = 4
theorem GA.of {M' : EL} {g : FrP} {q : QV} (h : Gone0 M' (codeA b26 b28 b29) fA g q) : GA g q := by
  have e := h.nx
  rw [nextA1] at e
  injection e with e1 e2
  injection e1 with a1 a2 a3 a4 a5
  injection e2 with c1 c2 c3
  exact ⟨h.task_, h.fn, a1.symm, a2.symm, a3.symm, a4.symm, a5.symm, h.kids, h.many, c1.symm, c2.symm, c3.symm⟩
theorem GA.op {g : FrP} {q : QV} (h : GA g q) {ph o0 o1 o2 o3 : Int} (ho : goOp sA q fA.task = ⟨ph, o0, o1, o2, o3⟩) : ph = 1 ∧ o0 = 18 ∧ o1 = 0 ∧ o2 = 0 ∧ o3 = 4 := by
  have e : goOp sA q fA.task = ⟨1, 18, 0, 0, 4⟩ := by
    unfold goOp
    rw [h.kind, h.a, h.b]
    rfl
  rw [e] at ho
  injection ho with h1 h2 h3 h4 h5
  exact ⟨h1.symm, h2.symm, h3.symm, h4.symm, h5.symm⟩
section
variable {wA w0 : World} {X : Nat → Prop} {M : EL} {K : Value → Ctx → Prop} {Z : PanK}
theorem turnA1 {g : FrP} {q : QV} {b : Nat} (hc : CodeOk wA (codeA b26 b28 b29)) (hga : GA g q) (hgk : FrOk wA g) (hfs : FsOk wA (some ⟨b, 0, none⟩) 1 1 [g])
    (hk : ∀ s' Af nf cf M', s'.phase = 5 → s'.o0 = 14 → s'.o1 = 0 → s'.o2 = 1 → s'.o3 = 9 → K (.agg (tdL s' Af nf cf 0 false 0 0).toArray) (CtxA wA w0 X (M' ++ M))) :
    CallVC Tryz.prog (CtxA wA w0 X M) 17 #[.agg (codeA b26 b28 b29).l.toArray, .agg laA.l.toArray, .agg (goS sA q ⟨1, 18, 0, 0, 4⟩).l.toArray, .slice (some ⟨b, 0, none⟩) 1 1, .int .i64 0, .int .i64 0, .agg uA.l.toArray] K Z := by
  have hnk : g.nk = 0 := by have := hgk.kids.len; rw [hga.kids] at this; exact this
  have hns : g.ns = 0 := by have := hgk.stk.len; rw [hga.stk] at this; exact this
  have key : ∀ g0 : FrP, Told1 g q.kind q.b [] g0 → nextP (codeA b26 b28 b29) g0 = .ok ⟨4, 4, false, [], []⟩ { kind := 6, a := 9 } ∧ rightB (codeA b26 b28 b29) g0 = true := fun g0 hT => by
    have e := hT.eq
    have e2 : toldP g q.kind q.b [] = some ⟨[], [], [], 0⟩ := by
      unfold toldP
      rw [hga.kind, hga.stk, hga.loc, hga.kids, hga.many]
      rfl
    rw [e2] at e
    injection e with e
    injection e with e3 e4 e5 e6
    obtain ⟨l1, l2, l3, l4⟩ := hT.lens
    rw [← e4] at l2
    rw [← e3] at l3
    rw [← e5] at l4
    have p1 := hT.pc.trans hga.pc
    have p2 := hT.spent.trans hga.spent
    have p3 := hT.fail.trans hga.fail
    have p4 := hT.fn.trans hga.fn
    have p5 := hT.task.trans hga.task
    exact ⟨nextA2 p4 p1 p2 p3 e4.symm e3.symm l4 e5.symm, rightA2 p5 p4 p1 p2 e4.symm e3.symm l2 l3 e5.symm e6.symm⟩
  refine turn1_vc (la := laA) (s := goS sA q ⟨1, 18, 0, 0, 4⟩) (u := uA) (.inl rfl) (Nat.le_refl _) rfl (meth1W (i := 0) (fs := [g]) (Nat.zero_lt_one) hc hfs (by show g.nk ≤ _ ∧ g.ns ≤ _; omega) rfl (by decide) rfl) ?_ ?_
  · rintro t' M' ⟨g0, g', q', ph, o0, o1, o2, o3, b', n', hT, hG, ho, rfl⟩
    have hT' : Told1 g q.kind q.b [] g0 := hT
    obtain ⟨h1, h2⟩ := key g0 hT'
    have h3 := hG.nx
    have h3' : nextP (codeA b26 b28 b29) g0 = .ok ⟨g'.pc, g'.spent, g'.fail, g'.loc, g'.stk⟩ (qp q') := h3
    rw [h1] at h3'
    injection h3' with _ e2
    injection e2 with c1 c2 c3
    have ho2 : goOp (turn0 (codeA b26 b28 b29) laA (goS sA q ⟨1, 18, 0, 0, 4⟩) (some ⟨b, 0, none⟩) 1 1 0 0 uA).s q' g0.task = ⟨5, 14, 0, 1, 9⟩ := by
      unfold goOp
      rw [← c1, ← c2, hT'.task.trans hga.task]
      rfl
    rw [ho2] at ho
    injection ho with a1 a2 a3 a4 a5
    subst a1 a2 a3 a4 a5
    exact hk _ _ _ _ M' rfl rfl rfl rfl rfl
  · rintro e v M' ⟨hA, rfl⟩
    exfalso
    rcases hA with ⟨hn, _⟩ | ⟨g0, hT, hh⟩
    · have hn' : toldP g q.kind q.b [] = none := hn
      unfold toldP at hn'
      rw [hga.kind] at hn'
      cases hn'
    · have hT' : Told1 g q.kind q.b [] g0 := hT
      obtain ⟨h1, h2⟩ := key g0 hT'
      have hh' : rightB (codeA b26 b28 b29) g0 = false ∧ e = 1 ∨ rightB (codeA b26 b28 b29) g0 = true ∧ nextP (codeA b26 b28 b29) g0 = .err e := hh
      rcases hh' with ⟨h3, _⟩ | ⟨_, h3⟩
      · rw [h2] at h3; cases h3
      · rw [h1] at h3; cases h3
set_option maxHeartbeats 4000000 in
theorem laid2_vc (hk : K (.agg laA.l.toArray) (CtxA wA w0 X M)) : CallVC Tryz.prog (CtxA wA w0 X M) 15 #[.int .i64 2] K Z := by
  refine it15 (args := [.int .i64 2]) (by rfl) ?_
  intro w2 X2
  conv => whnf
  repeat' (first
    | (refine JoinVC.go ?_; conv => whnf)
    | (refine RetA.go ?_; conv => whnf)
    | (refine LoopVC.unroll ?_; conv => whnf)
    | (refine And.intro ?_ ?_ <;> conv => whnf)
    | (refine ia31 (by rfl) ?_; intro w1 X1; conv => whnf)
    | (refine ia62 (by rfl) ?_; intro w1 X1; conv => whnf)
    | (refine ia51 (by rfl) ?_; intro w1 X1; conv => whnf)
    | (refine ia63 (by rfl) ?_; intro w1 X1; conv => whnf)
    | (refine ia64 (by rfl) ?_; intro w1 X1; conv => whnf))
  exact RetT.drop (K := K) M (List.Sublist.refl _) hk
end
end
end Go.Proofs.YtgaopcbjhepklaaGreat
/- alive. -/
namespace Go.Proofs.YtgaopcbjhepklaaGreat
open Go.RowKit
set_option linter.unusedSimpArgs false
set_option linter.unusedVariables false
set_option maxRecDepth 100000
theorem rowsC_mem {b26 b28 b29 : Nat} {M : EL} : ∀ e ∈ rowsC b26 b28 b29 [], e ∈ rowsC b26 b28 b29 M := fun e he => by
  simp only [rowsC, List.mem_cons, List.not_mem_nil, or_false] at he ⊢
  rcases he with h | h | h
  · exact .inl h
  · exact .inr (.inl h)
  · exact .inr (.inr (.inl h))
theorem fsOne {wB E : World} {M : EL} (hE : InE wB M E) {b : Nat} {g : FrP} (hm : (Value.slice (some ⟨b, 0, none⟩) 1 1, DA.row 36 10 g.l) ∈ M) (hg : FrOk E g) : FsOk E (some ⟨b, 0, none⟩) 1 1 [g] := by
  obtain ⟨h1, _⟩ := hE.row _ _ _ _ _ _ hm
  exact ⟨by simpa using h1, rfl, Nat.le_refl _, by decide, fun f hf => by rw [List.mem_singleton] at hf; subst hf; exact hg⟩
def sK : SeP := ⟨0, 0, 0, 0, 0, 0, 0, 0, 0, 0, none, 0, 0, 9, 1, 0, 0, none, 0, 0, none, 0, 0, none, 0, 0, 0⟩
theorem rowsC_sub {b26 b28 b29 : Nat} {M : EL} : List.Sublist M (rowsC b26 b28 b29 M) := .cons _ (.cons _ (.cons _ (.refl _)))
section
variable {wA w0 : World} {X : Nat → Prop} {M : EL} {K : Value → Ctx → Prop} {Z : PanK}
set_option maxHeartbeats 8000000 in
theorem alive_vc (hk : K (.bool true) (CtxA wA w0 X M)) : CallVC Tryz.prog (CtxA wA w0 X M) 9 #[] K Z := by
  refine it9 (args := []) (by rfl) ?_
  intro w2 X2
  conv => whnf
  refine laid2_vc ?_
  conv => whnf
  refine bsA el61 (by rfl) ?_
  conv => whnf
  refine ⟨by rfl, fun b26 => ?_⟩
  conv => whnf
  refine bsA el22 (by rfl) ?_
  conv => whnf
  refine ⟨by rfl, fun b28 => ?_⟩
  conv => whnf
  refine bsA el23 (by rfl) ?_
  conv => whnf
  refine ⟨by rfl, fun b29 => ?_⟩
  conv => whnf
  refine CallVC.anchor [] (rowsC b26 b28 b29 M) en10 rfl (fun E w Y hE => go2_vc (c := codeA b26 b28 b29) (s := sA) (f := fA) (codeA_ok (M0 := M) hE rowsC_mem) (fA_ok E) (fun e he => by rcases he with ⟨h, _⟩ | ⟨_, h⟩ <;> cases h) (fun g q ph o0 o1 o2 o3 M' hG ho => RetN.to (M' ++ rowsC b26 b28 b29 M) (by rw [List.append_nil]) ?_))
  have hga := GA.of hG
  have hpc := hga.pc
  obtain ⟨rfl, rfl, rfl, rfl, rfl⟩ := hga.op ho
  conv => whnf
  refine bsA el39 (by rfl) ?_
  conv => whnf
  refine ⟨by rfl, fun b43 => ?_⟩
  conv => whnf
  refine CallVC.anchor [] ((.slice (some ⟨b43, 0, none⟩) 1 1, .row 36 10 g.l) :: (M' ++ rowsC b26 b28 b29 M)) en17 rfl (fun E w Y hE => turnA1 (g := g) (q := q) (codeA_ok (M0 := M) hE fun e he => .tail _ (List.mem_append_right _ (rowsC_mem e he))) hga ((hG.ok _ E (hE.less fun e he => .tail _ (List.mem_append_left _ he))).1) (fsOne hE (.head _) ((hG.ok _ E (hE.less fun e he => .tail _ (List.mem_append_left _ he))).1)) (fun s1 Af1 nf1 cf1 M1 p1 p2 p3 p4 p5 => RetN.to (M1 ++ ((.slice (some ⟨b43, 0, none⟩) 1 1, .row 36 10 g.l) :: (M' ++ rowsC b26 b28 b29 M))) (by rw [List.append_nil]) ?_))
  obtain ⟨phase1, at1, task1, qk1, qa1, qb1, p01, p11, p21, p31, Aq1, nq1, cq1, o01, o11, o21, o31, Al1, nl1, cl1, As1, ns1, cs1, Ag1, ng1, cg1, hold1⟩ := s1
  dsimp only at p1 p2 p3 p4 p5
  subst p1 p2 p3 p4 p5
  conv => whnf
  refine turn5_vc (c := codeA b26 b28 b29) (la := laA) (u := uA) (s := ⟨5, at1, task1, qk1, qa1, qb1, p01, p11, p21, p31, Aq1, nq1, cq1, 14, 0, 1, 9, Al1, nl1, cl1, As1, ns1, cs1, Ag1, ng1, cg1, hold1⟩) (.inl rfl) (Nat.le_refl _) rfl (meth5 rfl) (fun _ _ h => h.elim) (fun e v M2 he => ?_)
  obtain ⟨rfl, rfl⟩ := he
  conv => whnf
  refine seek_vc (a := laA) ⟨by decide, by decide⟩ (fun o0 o1 o2 o3 ho => ?_)
  have ho2 : seekP laA.seats 1 1 0 = ⟨9, 1, 0, 0⟩ := by rfl
  rw [ho2] at ho
  injection ho with a1 a2 a3 a4
  subst a1 a2 a3 a4
  conv => whnf
  refine turn0_vc (c := codeA b26 b28 b29) (la := laA) (u := ⟨5, true, 0, 0, none, 0, 0⟩) (s := sK) (.inl rfl) (Nat.le_refl _) rfl (meth0 ⟨(by decide : (1 : Int) ≤ 2), (by decide : (2 : Int) ≤ 8)⟩) (fun t' M3 hR => ?_) (fun _ _ _ h => h.elim)
  obtain ⟨rfl, hR⟩ := hR
  rcases hR with ⟨h, _⟩ | ⟨_, h, _⟩ | ⟨_, _, rfl⟩
  · cases h
  · cases h
  conv => whnf
  refine turn0_vc (c := codeA b26 b28 b29) (la := laA) (u := ⟨0, false, 0, 0, none, 0, 0⟩) (s := sK) (.inl rfl) (Nat.le_refl _) rfl (meth0 ⟨(by decide : (1 : Int) ≤ 2), (by decide : (2 : Int) ≤ 8)⟩) (fun t' M3 hR => ?_) (fun _ _ _ h => h.elim)
  obtain ⟨rfl, hR⟩ := hR
  rcases hR with ⟨_, a', o0, o1, o2, o3, ha, ho, rfl⟩ | ⟨h, _⟩ | ⟨h, _⟩
  rotate_left
  · cases h
  · cases h
  have ha2 : a' = 1 := ha.trans (by rfl)
  subst ha2
  have ho2 : seekP laA.seats 1 1 1 = ⟨10, 0, 0, 0⟩ := by rfl
  have ho3 : seekP laA.seats 1 1 1 = ⟨o0, o1, o2, o3⟩ := ho
  rw [ho2] at ho3
  injection ho3 with a1 a2 a3 a4
  subst a1 a2 a3 a4
  conv => whnf
  repeat' (first
    | (refine idxBN 0 rfl (by decide) ?_; conv => whnf)
    | (refine idxBN 1 rfl (by decide) ?_; conv => whnf)
    | (refine ldR (by repeat (first | exact List.Mem.head _ | refine List.Mem.tail _ ?_)) (tab_ok _ _ (by rfl)) (by rfl) (by rfl) ?_; conv => whnf)
    | (refine bsA el30 (by rfl) ?_; (conv => whnf); refine ⟨by rfl, fun b79 => ?_⟩; conv => whnf)
    | (refine ia22 (by rfl) ?_; intro w1 X1; conv => whnf)
    | (refine ia47 (by rfl) ?_; intro w1 X1; conv => whnf)
    | (refine ia48 (by rfl) ?_; intro w1 X1; conv => whnf)
    | (refine ia49 (by rfl) ?_; intro w1 X1; conv => whnf)
    | (refine ia85 (by rfl) ?_; intro w1 X1; conv => whnf)
    | (refine ia86 (by rfl) ?_; intro w1 X1; conv => whnf)
    | (refine ia87 (by rfl) ?_; intro w1 X1; conv => whnf)
    | (refine ia133 (by rfl) ?_; intro w1 X1; conv => whnf)
    | (refine ia23 (by rfl) ?_; intro w1 X1; conv => whnf)
    | (refine ia50 (by rfl) ?_; intro w1 X1; conv => whnf)
    | (refine opMkI (by rfl) (tab_ok _ _ (by rfl)) (by rfl) ?_; conv => whnf)
    | (refine opPan (by rfl) (by rfl) ?_; conv => whnf)
    | (refine JoinVC.go ?_; conv => whnf)
    | (refine RetA.go ?_; conv => whnf)
    | (refine PanA.go ?_; conv => whnf)
    | (refine And.intro ?_ ?_ <;> conv => whnf)
    | (refine ldA (by repeat (first | exact List.Mem.head _ | refine List.Mem.tail _ ?_)) (tab_ok _ _ (by rfl)) (by rfl) (by rfl) ?_; conv => whnf)
    | (refine ldsA (by repeat (first | exact List.Mem.head _ | refine List.Mem.tail _ ?_)) (tab_ok _ _ (by rfl)) (by rfl) ?_; conv => whnf)
    | (refine stA (tab_ok _ _ (by rfl)) (by repeat (first | exact AtE.here | apply AtE.there)) ?_; conv => whnf)
    | (refine splitB.dec (fun hb => ?_) (fun hb => ?_) <;> first | (exfalso; omega) | (conv => whnf))
    | (refine splitB.ndec (fun hb => ?_) (fun hb => ?_) <;> first | (exfalso; omega) | (conv => whnf))
    | (refine splitB.eqI (fun hb => ?_) (fun hb => ?_) <;> first | (exfalso; omega) | (conv => whnf))
    | (refine splitB.neI (fun hb => ?_) (fun hb => ?_) <;> first | (exfalso; omega) | (conv => whnf))
    | (intro r bx; conv => whnf))
  refine bsA el39 (by rfl) ?_
  conv => whnf
  refine ⟨by rfl, fun b95 => ?_⟩
  conv => whnf
  refine turnErr_vc (c := codeA b26 b28 b29) (la := laA) (u := ⟨0, false, 8, 0, none, 0, 0⟩) (s := goS sA q ⟨1, 18, 0, 0, 4⟩) rfl rfl ?_
  conv => whnf
  repeat' (first
    | (exact RetT.imp (K := K) M (Imp.sub (by repeat (first | exact List.Sublist.refl _ | exact rowsC_sub | refine List.Sublist.cons _ ?_ | refine (List.Sublist.trans ?_ (List.sublist_append_right _ _))))) hk)
    | (refine ia23 (by rfl) ?_; intro w1 X1; conv => whnf)
    | (refine ia50 (by rfl) ?_; intro w1 X1; conv => whnf)
    | (refine ia51 (by rfl) ?_; intro w1 X1; conv => whnf)
    | (refine opMkI (by rfl) (tab_ok _ _ (by rfl)) (by rfl) ?_; conv => whnf)
    | (refine opPan (by rfl) (by rfl) ?_; conv => whnf)
    | (refine JoinVC.go ?_; conv => whnf)
    | (refine RetA.go ?_; conv => whnf)
    | (refine PanA.go ?_; conv => whnf)
    | (refine And.intro ?_ ?_ <;> conv => whnf)
    | (refine ldA (by repeat (first | exact List.Mem.head _ | refine List.Mem.tail _ ?_)) (tab_ok _ _ (by rfl)) (by rfl) (by rfl) ?_; conv => whnf)
    | (refine ldsA (by repeat (first | exact List.Mem.head _ | refine List.Mem.tail _ ?_)) (tab_ok _ _ (by rfl)) (by rfl) ?_; conv => whnf)
    | (refine stA (tab_ok _ _ (by rfl)) (by repeat (first | exact AtE.here | apply AtE.there)) ?_; conv => whnf)
    | (refine splitB.dec (fun hb => ?_) (fun hb => ?_) <;> first | (exfalso; omega) | (conv => whnf))
    | (refine splitB.ndec (fun hb => ?_) (fun hb => ?_) <;> first | (exfalso; omega) | (conv => whnf))
    | (refine splitB.eqI (fun hb => ?_) (fun hb => ?_) <;> first | (exfalso; omega) | (conv => whnf))
    | (refine splitB.neI (fun hb => ?_) (fun hb => ?_) <;> first | (exfalso; omega) | (conv => whnf))
    | (intro r bx; conv => whnf))
end
end Go.Proofs.YtgaopcbjhepklaaGreat
/- Rows of pairs that are the same; what a layout has. -/
namespace Go.Proofs.YtgaopcbjhepklaaGreat
open Go.RowKit
set_option linter.unusedSimpArgs false
set_option linter.unusedVariables false
set_option maxRecDepth 100000
def pairL (p : Int × Int) : List Value := [.int .i64 p.1, .int .i64 p.2]
theorem pairL_len (p : Int × Int) : (pairL p).length = 2 := rfl
/-- a row of pairs that was there -/
structure OldP (wA : World) (A : Option Addr) (n : Nat) (xs : List (Int × Int)) : Prop where
  rd : Rd wA wA.heap.size A (xs.flatMap pairL)
  len : n = xs.length
  sm : n ≤ 1000000
theorem InE.oldP {wA : World} {M : EL} {E : World} (h : InE wA M E) {A : Option Addr} {n : Nat} {xs : List (Int × Int)} (ho : OldP wA A n xs) : OldP E A n xs := ⟨h.rd ho.rd, ho.len, ho.sm⟩
theorem run_part3 {w : World} {cs : Array Value} {off : Nat} {v : Value} (h : cs[off]? = some v) : (part 3 cs off).run Tryz.prog w = .ok v w := by
  have h1 : ∀ w, (isAgg 3).run Tryz.prog w = .ok false w := fun w => (tab_ok 3 _ (by rfl)).run_isAgg
  simp [part, h1, h]
theorem run_eq2 {w : World} {d : Nat} {a b c e : Int} : (Op.equalIn (d + 2) 88 (.agg #[.int .i64 a, .int .i64 b]) (.agg #[.int .i64 c, .int .i64 e])).run Tryz.prog w = .ok (a == c && b == e) w := by
  have hu : Tryz.prog.underlying 88 = some (.array 2 3) := by kernel_rfl
  have hi : Tryz.prog.underlying 3 = some (.int .i64) := by kernel_rfl
  have hs : ∀ w, (sizeOf 3).run Tryz.prog w = .ok 1 w := fun w => (tab_ok 3 _ (by rfl)).run_size
  have p0 : ∀ (x y : Int) w, (part 3 #[.int .i64 x, .int .i64 y] 0).run Tryz.prog w = .ok (.int .i64 x) w := fun x y w => run_part3 rfl
  have p1 : ∀ (x y : Int) w, (part 3 #[.int .i64 x, .int .i64 y] 1).run Tryz.prog w = .ok (.int .i64 y) w := fun x y w => run_part3 rfl
  have e1 : ∀ (x y : Int) w, (Op.equalIn (d + 1) 3 (.int .i64 x) (.int .i64 y)).run Tryz.prog w = .ok (x == y) w := fun x y w => by simp [Op.equalIn, run_underlying hi]
  rw [Op.equalIn]
  simp only [Sem.run_bind, run_underlying hu, Result.andThen_ok, hs, Std.Legacy.Range.forIn_eq_forIn_range', Std.Legacy.Range.size, List.range', List.forIn_cons, List.forIn_nil, p0, p1, e1, Nat.mul_one]
  cases h1 : (a == c) <;> cases h2 : (b == e) <;> simp [h1, h2, p0, p1, e1, List.range']
theorem semNe2 {x y : Operand} {a b : Int} {C : Ctx} {K : Value → Ctx → Prop} (h : K (.bool false) C) : SemVC Tryz.prog C (do eqGuard .neq 88 x y (.agg #[.int .i64 a, .int .i64 b]) (.agg #[.int .i64 a, .int .i64 b]); binOp .neq 88 (.agg #[.int .i64 a, .int .i64 b]) (.agg #[.int .i64 a, .int .i64 b])) K := by
  have hm : Tryz.prog.eqGuardType Tryz.prog.depth 88 = false := by kernel_rfl
  refine semA (fun w => ?_) h
  have h2 : ∀ w, (Op.equalIn 10000 88 (.agg #[.int .i64 a, .int .i64 b]) (.agg #[.int .i64 a, .int .i64 b])).run Tryz.prog w = .ok (a == a && b == b) w := fun w => run_eq2 (d := 9998)
  simp [run_eqGuard_agg, hm, run_neq_struct, h2]
section
variable {wA w0 : World} {X : Nat → Prop} {M : EL} {K : Value → Ctx → Prop} {Z : PanK}
set_option maxHeartbeats 4000000 in
theorem gsame_vc {A : Option Addr} {n c1 c2 : Nat} {xs : List (Int × Int)} (h : OldP wA A n xs) (hk : K (.bool true) (CtxA wA w0 X M)) : CallVC Tryz.prog (CtxA wA w0 X M) 14 #[.slice A n c1, .slice A n c2] K Z := by
  have hl := h.len
  have hs := h.sm
  refine it14 (args := [.slice A n c1, .slice A n c2]) (by rfl) ?_
  intro w2 X2
  conv => whnf
  refine splitB.neI (fun hb => absurd rfl hb) (fun hb => ?_)
  conv => whnf
  refine LoopVC.on (X := Nat) (fun i => [(0, .v (.slice A n c1)), (1, .v (.slice A n c2)), (4, .v (.bool false)), (5, .v (.int .i64 (i : Int)))]) (fun _ => []) (fun _ => CtxA wA w2 X2 M) (fun i => i ≤ n) (fun i => n - i) 0 (Nat.zero_le _) ⟨rfl, rfl, rfl, rfl, trivial⟩ trivial ?_
  intro i r hi
  replace hi : i ≤ n := hi
  conv => whnf
  repeat' (first
    | (refine idxOG pairL 2 pairL_len (by omega) h.rd hl i rfl (by omega) (fun b' o' hA hcl => ?_); conv => whnf)
    | (refine ldsO (pairL _) (by assumption) (tab_ok _ _ (by rfl)) (by rfl) (by rfl) ?_; conv => whnf)
    | (refine semNe2 ?_; conv => whnf)
    | (exact rnd (X := Nat) (i + 1) (by show n - (i + 1) < n - i; omega) (by show i + 1 ≤ n; omega) ⟨rfl, rfl, rfl, ixw (by omega), trivial⟩ trivial)
    | (exact RetT.drop (K := K) M (List.Sublist.refl _) hk)
    | (refine opMkI (by rfl) (tab_ok _ _ (by rfl)) (by rfl) ?_; conv => whnf)
    | (refine opPan (by rfl) (by rfl) ?_; conv => whnf)
    | (refine JoinVC.go ?_; conv => whnf)
    | (refine RetA.go ?_; conv => whnf)
    | (refine PanA.go ?_; conv => whnf)
    | (refine And.intro ?_ ?_ <;> conv => whnf)
    | (refine ldA (by repeat (first | exact List.Mem.head _ | refine List.Mem.tail _ ?_)) (tab_ok _ _ (by rfl)) (by rfl) (by rfl) ?_; conv => whnf)
    | (refine ldsA (by repeat (first | exact List.Mem.head _ | refine List.Mem.tail _ ?_)) (tab_ok _ _ (by rfl)) (by rfl) ?_; conv => whnf)
    | (refine stA (tab_ok _ _ (by rfl)) (by repeat (first | exact AtE.here | apply AtE.there)) ?_; conv => whnf)
    | (refine splitB.dec (fun hb => ?_) (fun hb => ?_) <;> first | (exfalso; omega) | (conv => whnf))
    | (refine splitB.ndec (fun hb => ?_) (fun hb => ?_) <;> first | (exfalso; omega) | (conv => whnf))
    | (refine splitB.eqI (fun hb => ?_) (fun hb => ?_) <;> first | (exfalso; omega) | (conv => whnf))
    | (refine splitB.neI (fun hb => ?_) (fun hb => ?_) <;> first | (exfalso; omega) | (conv => whnf))
    | (intro r bx; conv => whnf))
set_option maxHeartbeats 4000000 in
theorem laid_n1 (hk : ∀ la : LaP, la.seats = 1 → K (.agg la.l.toArray) (CtxA wA w0 X M)) : CallVC Tryz.prog (CtxA wA w0 X M) 15 #[.int .i64 1] K Z := by
  refine it15 (args := [.int .i64 1]) (by rfl) ?_
  intro w2 X2
  conv => whnf
  repeat' (first
    | (refine JoinVC.go ?_; conv => whnf)
    | (refine RetA.go ?_; conv => whnf)
    | (refine LoopVC.unroll ?_; conv => whnf)
    | (refine And.intro ?_ ?_ <;> conv => whnf)
    | (refine ia31 (by rfl) ?_; intro w1 X1; conv => whnf)
    | (refine ia62 (by rfl) ?_; intro w1 X1; conv => whnf)
    | (refine ia51 (by rfl) ?_; intro w1 X1; conv => whnf)
    | (refine ia63 (by rfl) ?_; intro w1 X1; conv => whnf)
    | (refine ia64 (by rfl) ?_; intro w1 X1; conv => whnf))
  exact RetT.drop (K := K) M (List.Sublist.refl _) (hk ⟨_, _, _, _, _, _, _, _, _, _, _, _, _, _, _, _, _, _, _, _, _, _, _, _, _⟩ rfl)
set_option maxHeartbeats 4000000 in
theorem laid_n2 (hk : ∀ la : LaP, la.seats = 2 → K (.agg la.l.toArray) (CtxA wA w0 X M)) : CallVC Tryz.prog (CtxA wA w0 X M) 15 #[.int .i64 2] K Z := by
  refine it15 (args := [.int .i64 2]) (by rfl) ?_
  intro w2 X2
  conv => whnf
  repeat' (first
    | (refine JoinVC.go ?_; conv => whnf)
    | (refine RetA.go ?_; conv => whnf)
    | (refine LoopVC.unroll ?_; conv => whnf)
    | (refine And.intro ?_ ?_ <;> conv => whnf)
    | (refine ia31 (by rfl) ?_; intro w1 X1; conv => whnf)
    | (refine ia62 (by rfl) ?_; intro w1 X1; conv => whnf)
    | (refine ia51 (by rfl) ?_; intro w1 X1; conv => whnf)
    | (refine ia63 (by rfl) ?_; intro w1 X1; conv => whnf)
    | (refine ia64 (by rfl) ?_; intro w1 X1; conv => whnf))
  exact RetT.drop (K := K) M (List.Sublist.refl _) (hk ⟨_, _, _, _, _, _, _, _, _, _, _, _, _, _, _, _, _, _, _, _, _, _, _, _, _⟩ rfl)
set_option maxHeartbeats 4000000 in
theorem laid_n3 (hk : ∀ la : LaP, la.seats = 3 → K (.agg la.l.toArray) (CtxA wA w0 X M)) : CallVC Tryz.prog (CtxA wA w0 X M) 15 #[.int .i64 3] K Z := by
  refine it15 (args := [.int .i64 3]) (by rfl) ?_
  intro w2 X2
  conv => whnf
  repeat' (first
    | (refine JoinVC.go ?_; conv => whnf)
    | (refine RetA.go ?_; conv => whnf)
    | (refine LoopVC.unroll ?_; conv => whnf)
    | (refine And.intro ?_ ?_ <;> conv => whnf)
    | (refine ia31 (by rfl) ?_; intro w1 X1; conv => whnf)
    | (refine ia62 (by rfl) ?_; intro w1 X1; conv => whnf)
    | (refine ia51 (by rfl) ?_; intro w1 X1; conv => whnf)
    | (refine ia63 (by rfl) ?_; intro w1 X1; conv => whnf)
    | (refine ia64 (by rfl) ?_; intro w1 X1; conv => whnf))
  exact RetT.drop (K := K) M (List.Sublist.refl _) (hk ⟨_, _, _, _, _, _, _, _, _, _, _, _, _, _, _, _, _, _, _, _, _, _, _, _, _⟩ rfl)
set_option maxHeartbeats 4000000 in
theorem laid_n4 (hk : ∀ la : LaP, la.seats = 4 → K (.agg la.l.toArray) (CtxA wA w0 X M)) : CallVC Tryz.prog (CtxA wA w0 X M) 15 #[.int .i64 4] K Z := by
  refine it15 (args := [.int .i64 4]) (by rfl) ?_
  intro w2 X2
  conv => whnf
  repeat' (first
    | (refine JoinVC.go ?_; conv => whnf)
    | (refine RetA.go ?_; conv => whnf)
    | (refine LoopVC.unroll ?_; conv => whnf)
    | (refine And.intro ?_ ?_ <;> conv => whnf)
    | (refine ia31 (by rfl) ?_; intro w1 X1; conv => whnf)
    | (refine ia62 (by rfl) ?_; intro w1 X1; conv => whnf)
    | (refine ia51 (by rfl) ?_; intro w1 X1; conv => whnf)
    | (refine ia63 (by rfl) ?_; intro w1 X1; conv => whnf)
    | (refine ia64 (by rfl) ?_; intro w1 X1; conv => whnf))
  exact RetT.drop (K := K) M (List.Sublist.refl _) (hk ⟨_, _, _, _, _, _, _, _, _, _, _, _, _, _, _, _, _, _, _, _, _, _, _, _, _⟩ rfl)
set_option maxHeartbeats 4000000 in
theorem laid_n5 (hk : ∀ la : LaP, la.seats = 5 → K (.agg la.l.toArray) (CtxA wA w0 X M)) : CallVC Tryz.prog (CtxA wA w0 X M) 15 #[.int .i64 5] K Z := by
  refine it15 (args := [.int .i64 5]) (by rfl) ?_
  intro w2 X2
  conv => whnf
  repeat' (first
    | (refine JoinVC.go ?_; conv => whnf)
    | (refine RetA.go ?_; conv => whnf)
    | (refine LoopVC.unroll ?_; conv => whnf)
    | (refine And.intro ?_ ?_ <;> conv => whnf)
    | (refine ia31 (by rfl) ?_; intro w1 X1; conv => whnf)
    | (refine ia62 (by rfl) ?_; intro w1 X1; conv => whnf)
    | (refine ia51 (by rfl) ?_; intro w1 X1; conv => whnf)
    | (refine ia63 (by rfl) ?_; intro w1 X1; conv => whnf)
    | (refine ia64 (by rfl) ?_; intro w1 X1; conv => whnf))
  exact RetT.drop (K := K) M (List.Sublist.refl _) (hk ⟨_, _, _, _, _, _, _, _, _, _, _, _, _, _, _, _, _, _, _, _, _, _, _, _, _⟩ rfl)
set_option maxHeartbeats 4000000 in
theorem laid_n6 (hk : ∀ la : LaP, la.seats = 6 → K (.agg la.l.toArray) (CtxA wA w0 X M)) : CallVC Tryz.prog (CtxA wA w0 X M) 15 #[.int .i64 6] K Z := by
  refine it15 (args := [.int .i64 6]) (by rfl) ?_
  intro w2 X2
  conv => whnf
  repeat' (first
    | (refine JoinVC.go ?_; conv => whnf)
    | (refine RetA.go ?_; conv => whnf)
    | (refine LoopVC.unroll ?_; conv => whnf)
    | (refine And.intro ?_ ?_ <;> conv => whnf)
    | (refine ia31 (by rfl) ?_; intro w1 X1; conv => whnf)
    | (refine ia62 (by rfl) ?_; intro w1 X1; conv => whnf)
    | (refine ia51 (by rfl) ?_; intro w1 X1; conv => whnf)
    | (refine ia63 (by rfl) ?_; intro w1 X1; conv => whnf)
    | (refine ia64 (by rfl) ?_; intro w1 X1; conv => whnf))
  exact RetT.drop (K := K) M (List.Sublist.refl _) (hk ⟨_, _, _, _, _, _, _, _, _, _, _, _, _, _, _, _, _, _, _, _, _, _, _, _, _⟩ rfl)
set_option maxHeartbeats 4000000 in
theorem laid_n7 (hk : ∀ la : LaP, la.seats = 7 → K (.agg la.l.toArray) (CtxA wA w0 X M)) : CallVC Tryz.prog (CtxA wA w0 X M) 15 #[.int .i64 7] K Z := by
  refine it15 (args := [.int .i64 7]) (by rfl) ?_
  intro w2 X2
  conv => whnf
  repeat' (first
    | (refine JoinVC.go ?_; conv => whnf)
    | (refine RetA.go ?_; conv => whnf)
    | (refine LoopVC.unroll ?_; conv => whnf)
    | (refine And.intro ?_ ?_ <;> conv => whnf)
    | (refine ia31 (by rfl) ?_; intro w1 X1; conv => whnf)
    | (refine ia62 (by rfl) ?_; intro w1 X1; conv => whnf)
    | (refine ia51 (by rfl) ?_; intro w1 X1; conv => whnf)
    | (refine ia63 (by rfl) ?_; intro w1 X1; conv => whnf)
    | (refine ia64 (by rfl) ?_; intro w1 X1; conv => whnf))
  exact RetT.drop (K := K) M (List.Sublist.refl _) (hk ⟨_, _, _, _, _, _, _, _, _, _, _, _, _, _, _, _, _, _, _, _, _, _, _, _, _⟩ rfl)
set_option maxHeartbeats 4000000 in
theorem laid_n8 (hk : ∀ la : LaP, la.seats = 8 → K (.agg la.l.toArray) (CtxA wA w0 X M)) : CallVC Tryz.prog (CtxA wA w0 X M) 15 #[.int .i64 8] K Z := by
  refine it15 (args := [.int .i64 8]) (by rfl) ?_
  intro w2 X2
  conv => whnf
  repeat' (first
    | (refine JoinVC.go ?_; conv => whnf)
    | (refine RetA.go ?_; conv => whnf)
    | (refine LoopVC.unroll ?_; conv => whnf)
    | (refine And.intro ?_ ?_ <;> conv => whnf)
    | (refine ia31 (by rfl) ?_; intro w1 X1; conv => whnf)
    | (refine ia62 (by rfl) ?_; intro w1 X1; conv => whnf)
    | (refine ia51 (by rfl) ?_; intro w1 X1; conv => whnf)
    | (refine ia63 (by rfl) ?_; intro w1 X1; conv => whnf)
    | (refine ia64 (by rfl) ?_; intro w1 X1; conv => whnf))
  exact RetT.drop (K := K) M (List.Sublist.refl _) (hk ⟨_, _, _, _, _, _, _, _, _, _, _, _, _, _, _, _, _, _, _, _, _, _, _, _, _⟩ rfl)
theorem laidN_vc {n : Nat} (hn : 1 ≤ n ∧ n ≤ 8) (hk : ∀ la : LaP, la.seats = (n : Int) → K (.agg la.l.toArray) (CtxA wA w0 X M)) : CallVC Tryz.prog (CtxA wA w0 X M) 15 #[.int .i64 (n : Int)] K Z := by
  have h : n = 1 ∨ n = 2 ∨ n = 3 ∨ n = 4 ∨ n = 5 ∨ n = 6 ∨ n = 7 ∨ n = 8 := by omega
  rcases h with rfl | rfl | rfl | rfl | rfl | rfl | rfl | rfl
  · exact laid_n1 hk
  · exact laid_n2 hk
  · exact laid_n3 hk
  · exact laid_n4 hk
  · exact laid_n5 hk
  · exact laid_n6 hk
  · exact laid_n7 hk
  · exact laid_n8 hk
end
end Go.Proofs.YtgaopcbjhepklaaGreat
/- A code may be: its instructions. -/
namespace Go.Proofs.YtgaopcbjhepklaaGreat
open Go.RowKit
set_option linter.unusedSimpArgs false
set_option linter.unusedVariables false
set_option maxRecDepth 100000
def InsP.l (i : InsP) : List Value := [.int .i64 i.op, .int .i64 i.a, .int .i64 i.b, .int .i64 i.c]
theorem InsP.l_len (i : InsP) : i.l.length = 4 := rfl
theorem BodyP.l_len (b : BodyP) : b.l.length = 3 := rfl
theorem insL_flat : ∀ (l : List InsP), insL l = l.flatMap InsP.l
  | [] => rfl
  | x :: l => by rw [List.flatMap_cons, ← insL_flat l]; rfl
theorem ixw2 {i : Nat} (h : i < 9223372036854775807) : SV.v (.int .i64 (IntKind.i64.wrap ((i : Int) + 1))) = SV.v (.int .i64 ((i + 1 : Nat) : Int)) := by
  have : IntKind.i64.wrap ((i : Int) + 1) = (i : Int) + 1 := wrapI (by omega)
  rw [this]; rfl
/-- a code that may be read, of any size -/
structure CodeRd (wA : World) (c : CodeP) (cs : List Int) : Prop where
  nf : c.nf = c.funs.length
  mf : c.nf ≤ 9223372036854775807
  nc : c.nc = cs.length
  mc : c.nc ≤ 9223372036854775807
  cells : Rd wA wA.heap.size c.Ac (is cs)
  funs : Rd wA wA.heap.size c.Af (c.funs.flatMap BodyP.l)
  ins : ∀ i (h : i < c.funs.length), Rd wA wA.heap.size c.funs[i].Ai (c.funs[i].ins.flatMap InsP.l) ∧ c.funs[i].ni = c.funs[i].ins.length ∧ c.funs[i].ni ≤ 9223372036854775807
section
variable {wA w0 : World} {X : Nat → Prop} {M : EL} {K : Value → Ctx → Prop} {Z : PanK}
set_option maxHeartbeats 4000000 in
theorem takes_vc {i : InsP} (hk : ∀ x, K (.int .i64 x) (CtxA wA w0 X M)) : CallVC Tryz.prog (CtxA wA w0 X M) 40 #[.agg i.l.toArray] K Z := by
  refine it40 (args := [.agg i.l.toArray]) (by rfl) ?_
  intro w2 X2
  conv => whnf
  repeat' (first
    | (exact RetT.drop (K := K) M (List.Sublist.refl _) (hk _))
    | (refine JoinVC.go ?_; conv => whnf)
    | (refine RetA.go ?_; conv => whnf)
    | (refine And.intro ?_ ?_ <;> conv => whnf)
    | (refine splitB.dec (fun hb => ?_) (fun hb => ?_) <;> first | (exfalso; omega) | (conv => whnf))
    | (refine splitB.ndec (fun hb => ?_) (fun hb => ?_) <;> first | (exfalso; omega) | (conv => whnf))
    | (refine splitB.eqI (fun hb => ?_) (fun hb => ?_) <;> first | (exfalso; omega) | (conv => whnf))
    | (refine splitB.neI (fun hb => ?_) (fun hb => ?_) <;> first | (exfalso; omega) | (conv => whnf))
    | (intro r bx; conv => whnf))
set_option maxHeartbeats 4000000 in
theorem puts_vc {i : InsP} (hk : ∀ x, K (.int .i64 x) (CtxA wA w0 X M)) : CallVC Tryz.prog (CtxA wA w0 X M) 41 #[.agg i.l.toArray] K Z := by
  refine it41 (args := [.agg i.l.toArray]) (by rfl) ?_
  intro w2 X2
  conv => whnf
  repeat' (first
    | (exact RetT.drop (K := K) M (List.Sublist.refl _) (hk _))
    | (refine JoinVC.go ?_; conv => whnf)
    | (refine RetA.go ?_; conv => whnf)
    | (refine And.intro ?_ ?_ <;> conv => whnf)
    | (refine splitB.dec (fun hb => ?_) (fun hb => ?_) <;> first | (exfalso; omega) | (conv => whnf))
    | (refine splitB.ndec (fun hb => ?_) (fun hb => ?_) <;> first | (exfalso; omega) | (conv => whnf))
    | (refine splitB.eqI (fun hb => ?_) (fun hb => ?_) <;> first | (exfalso; omega) | (conv => whnf))
    | (refine splitB.neI (fun hb => ?_) (fun hb => ?_) <;> first | (exfalso; omega) | (conv => whnf))
    | (intro r bx; conv => whnf))
set_option maxHeartbeats 4000000 in
theorem on_vc {i : InsP} {at_ : Int} (hk : ∀ A n c xs, n = xs.length → n ≤ 2 → n ≤ c → (0 < c → ∃ b, A = some ⟨b, 0, none⟩) → K (.slice A n c) (CtxA wA w0 X ((.slice A n c, .row 3 1 (is xs)) :: M))) : CallVC Tryz.prog (CtxA wA w0 X M) 42 #[.agg i.l.toArray, .int .i64 at_] K Z := by
  refine it42 (args := [.agg i.l.toArray, .int .i64 at_]) (by rfl) ?_
  intro w2 X2
  conv => whnf
  repeat' (first
    | (refine bsA el23 (by rfl) ?_; (conv => whnf); refine ⟨by rfl, fun bl => ?_⟩; conv => whnf)
    | (exact RetT.imp (K := K) _ (Imp.nil _ none 3 1) (hk none 0 0 [] rfl (by decide) (Nat.le_refl _) (fun h => absurd h (by decide))))
    | (exact RetT.drop (K := K) _ (List.Sublist.refl _) (hk (some ⟨bl, 0, none⟩) 1 1 [_] rfl (by decide) (Nat.le_refl _) (fun _ => ⟨_, rfl⟩)))
    | (exact RetT.drop (K := K) _ (List.Sublist.refl _) (hk (some ⟨bl, 0, none⟩) 2 2 [_, _] rfl (by decide) (Nat.le_refl _) (fun _ => ⟨_, rfl⟩)))
    | (refine JoinVC.go ?_; conv => whnf)
    | (refine RetA.go ?_; conv => whnf)
    | (refine And.intro ?_ ?_ <;> conv => whnf)
    | (refine splitB.dec (fun hb => ?_) (fun hb => ?_) <;> first | (exfalso; omega) | (conv => whnf))
    | (refine splitB.ndec (fun hb => ?_) (fun hb => ?_) <;> first | (exfalso; omega) | (conv => whnf))
    | (refine splitB.eqI (fun hb => ?_) (fun hb => ?_) <;> first | (exfalso; omega) | (conv => whnf))
    | (refine splitB.neI (fun hb => ?_) (fun hb => ?_) <;> first | (exfalso; omega) | (conv => whnf))
    | (intro r bx; conv => whnf))
set_option maxHeartbeats 4000000 in
theorem objects_vc {n : Int} (hk : ∀ b, K (.bool b) (CtxA wA w0 X M)) : CallVC Tryz.prog (CtxA wA w0 X M) 18 #[.int .i64 n] K Z := by
  refine it18 (args := [.int .i64 n]) (by rfl) ?_
  intro w2 X2
  conv => whnf
  repeat' (first
    | (exact RetT.drop (K := K) M (List.Sublist.refl _) (hk _))
    | (refine JoinVC.go ?_; conv => whnf)
    | (refine RetA.go ?_; conv => whnf)
    | (refine And.intro ?_ ?_ <;> conv => whnf)
    | (refine splitB.dec (fun hb => ?_) (fun hb => ?_) <;> first | (exfalso; omega) | (conv => whnf))
    | (refine splitB.ndec (fun hb => ?_) (fun hb => ?_) <;> first | (exfalso; omega) | (conv => whnf))
    | (refine splitB.eqI (fun hb => ?_) (fun hb => ?_) <;> first | (exfalso; omega) | (conv => whnf))
    | (refine splitB.neI (fun hb => ?_) (fun hb => ?_) <;> first | (exfalso; omega) | (conv => whnf))
    | (intro r bx; conv => whnf))
set_option maxHeartbeats 4000000 in
theorem few_vc {c : CodeP} {cs : List Int} (hc : CodeRd wA c cs) (hk : ∀ b, K (.bool b) (CtxA wA w0 X M)) : CallVC Tryz.prog (CtxA wA w0 X M) 6 #[.agg c.l.toArray] K Z := by
  have hf := hc.nf
  have mf := hc.mf
  refine it6 (args := [.agg c.l.toArray]) (by rfl) ?_
  intro w2 X2
  conv => whnf
  refine LoopVC.on (X := Nat × Int) (fun x => [(1, .p 1 0), (2, .v (.bool false)), (3, .v (.int .i64 x.2)), (4, .v (.int .i64 (x.1 : Int)))]) (fun x => [(1, 25, c.l)]) (fun x => CtxA wA w2 X2 M) (fun x => x.1 ≤ c.nf) (fun x => c.nf - x.1) (0, 0) (Nat.zero_le _) ⟨rfl, rfl, rfl, rfl, trivial⟩ ⟨rfl, trivial⟩ ?_
  rintro ⟨i, s⟩ r hi
  replace hi : i ≤ c.nf := hi
  dsimp only
  conv => whnf
  repeat' (first
    | (refine idxOG BodyP.l 3 BodyP.l_len (by omega) hc.funs hf i rfl (by omega) (fun b' o' hA hcl => ?_); conv => whnf)
    | (refine ldO (hcl 2 _ rfl) (tab_ok _ _ (by rfl)) (by rfl) ?_; conv => whnf)
    | (exact rnd (X := Nat × Int) (i + 1, _) (by show c.nf - (i + 1) < c.nf - i; omega) (by show i + 1 ≤ c.nf; omega) ⟨rfl, rfl, rfl, ixw2 (by omega), trivial⟩ ⟨rfl, trivial⟩)
    | (exact RetT.drop (K := K) M (List.Sublist.refl _) (hk _))
    | (refine JoinVC.go ?_; conv => whnf)
    | (refine RetA.go ?_; conv => whnf)
    | (refine And.intro ?_ ?_ <;> conv => whnf)
    | (refine splitB.dec (fun hb => ?_) (fun hb => ?_) <;> first | (exfalso; omega) | (conv => whnf))
    | (refine splitB.ndec (fun hb => ?_) (fun hb => ?_) <;> first | (exfalso; omega) | (conv => whnf))
    | (refine splitB.eqI (fun hb => ?_) (fun hb => ?_) <;> first | (exfalso; omega) | (conv => whnf))
    | (refine splitB.neI (fun hb => ?_) (fun hb => ?_) <;> first | (exfalso; omega) | (conv => whnf))
    | (intro r bx; conv => whnf))
end
end Go.Proofs.YtgaopcbjhepklaaGreat
/- A code may be: heights; whether it is right. -/
namespace Go.Proofs.YtgaopcbjhepklaaGreat
open Go.RowKit
set_option linter.unusedSimpArgs false
set_option linter.unusedVariables false
set_option maxRecDepth 100000
section
variable {wA w0 : World} {X : Nat → Prop} {M : EL} {K : Value → Ctx → Prop} {Z : PanK}
set_option maxHeartbeats 4000000 in
theorem call07_vc {c : CodeP} {i : InsP} (hk : ∀ b, K (.bool b) (CtxA wA w0 X M)) : CallVC Tryz.prog (CtxA wA w0 X M) 43 #[.agg c.l.toArray, .agg i.l.toArray] K Z := by
  refine it43 (args := [.agg c.l.toArray, .agg i.l.toArray]) (by rfl) ?_
  intro w2 X2
  conv => whnf
  repeat' (first
    | (refine bsA el23 (by rfl) ?_; (conv => whnf); refine ⟨by rfl, fun bl => ?_⟩; conv => whnf)
    | (refine idxBN i.a.toNat (by omega) (by omega) ?_; conv => whnf)
    | (refine ldRI (xs := [0, c.maps, c.maps, c.maps, c.stacks, c.stacks, c.chans, c.chans]) i.a.toNat rfl (by repeat (first | exact List.Mem.head _ | refine List.Mem.tail _ ?_)) (Nat.mul_one _) (by show i.a.toNat < 8; omega) ?_; conv => whnf)
    | (refine ldRI (xs := [0, 1, 2, 1, 1, 0, 1, 0]) i.a.toNat rfl (by repeat (first | exact List.Mem.head _ | refine List.Mem.tail _ ?_)) (Nat.mul_one _) (by show i.a.toNat < 8; omega) ?_; conv => whnf)
    | (exact RetT.drop (K := K) M (by repeat (first | exact List.Sublist.refl _ | refine List.Sublist.cons_cons _ ?_ | refine List.Sublist.cons _ ?_)) (hk _))
    | (refine JoinVC.go ?_; conv => whnf)
    | (refine RetA.go ?_; conv => whnf)
    | (refine And.intro ?_ ?_ <;> conv => whnf)
    | (refine splitB.dec (fun hb => ?_) (fun hb => ?_) <;> first | (exfalso; omega) | (conv => whnf))
    | (refine splitB.ndec (fun hb => ?_) (fun hb => ?_) <;> first | (exfalso; omega) | (conv => whnf))
    | (refine splitB.eqI (fun hb => ?_) (fun hb => ?_) <;> first | (exfalso; omega) | (conv => whnf))
    | (refine splitB.neI (fun hb => ?_) (fun hb => ?_) <;> first | (exfalso; omega) | (conv => whnf))
    | (intro r bx; conv => whnf))
set_option maxHeartbeats 4000000 in
theorem may07_vc {c : CodeP} {cs : List Int} {b : BodyP} {i : InsP} (hc : CodeRd wA c cs) (hk : ∀ b, K (.bool b) (CtxA wA w0 X M)) : CallVC Tryz.prog (CtxA wA w0 X M) 20 #[.agg c.l.toArray, .agg b.l.toArray, .agg i.l.toArray] K Z := by
  have hf := hc.nf
  have mf := hc.mf
  refine it20 (args := [.agg c.l.toArray, .agg b.l.toArray, .agg i.l.toArray]) (by rfl) ?_
  intro w2 X2
  conv => whnf
  repeat' (first
    | (refine call07_vc (c := c) (i := i) (fun b => ?_); conv => whnf)
    | (refine idxOG BodyP.l 3 BodyP.l_len (by omega) hc.funs hf i.a.toNat (by omega) (by omega) (fun b' o' hA hcl => ?_); conv => whnf)
    | (refine ldO (hcl 0 _ rfl) (tab_ok _ _ (by rfl)) (by rfl) ?_; conv => whnf)
    | (exact RetT.drop (K := K) M (by repeat (first | exact List.Sublist.refl _ | refine List.Sublist.cons_cons _ ?_ | refine List.Sublist.cons _ ?_)) (hk _))
    | (refine JoinVC.go ?_; conv => whnf)
    | (refine RetA.go ?_; conv => whnf)
    | (refine And.intro ?_ ?_ <;> conv => whnf)
    | (refine splitB.dec (fun hb => ?_) (fun hb => ?_) <;> first | (exfalso; omega) | (conv => whnf))
    | (refine splitB.ndec (fun hb => ?_) (fun hb => ?_) <;> first | (exfalso; omega) | (conv => whnf))
    | (refine splitB.eqI (fun hb => ?_) (fun hb => ?_) <;> first | (exfalso; omega) | (conv => whnf))
    | (refine splitB.neI (fun hb => ?_) (fun hb => ?_) <;> first | (exfalso; omega) | (conv => whnf))
    | (intro r bx; conv => whnf))
theorem one1 (a : Int) : ∀ u ∈ [Value.int .i64 a], u.oneCell' = true := by
  intro u hu
  rw [List.mem_singleton] at hu
  subst hu; rfl
set_option maxHeartbeats 16000000 in
theorem heights_vc {c : CodeP} {cs : List Int} (hc : CodeRd wA c cs) (j : Nat) (hj : j < c.funs.length) (hn : c.funs[j].ni ≤ 400) (hk : ∀ A n cc, n ≤ 400 → K (.slice A n cc) (CtxA wA w0 X M)) : CallVC Tryz.prog (CtxA wA w0 X M) 19 #[.agg c.l.toArray, .int .i64 (j : Int)] K Z := by
  have hf := hc.nf
  have mf := hc.mf
  obtain ⟨hir, hil, him⟩ := hc.ins j hj
  generalize hb0 : c.funs[j] = b at *
  refine it19 (args := [.agg c.l.toArray, .int .i64 (j : Int)]) (by rfl) ?_
  intro w2 X2
  conv => whnf
  repeat' (first
    | (refine idxOG BodyP.l 3 BodyP.l_len (by omega) hc.funs hf j rfl hj (fun b' o' hA hcl => ?_); rw [hb0] at hcl; conv => whnf)
    | (refine SemVC.imp (Imp.nil _ none 3 1) (ldO (hcl 2 _ rfl) (tab_ok _ _ (by rfl)) (by rfl) ?_); conv => whnf)
    | (refine JoinVC.go ?_; conv => whnf)
    | (refine RetA.go ?_; conv => whnf)
    | (refine And.intro ?_ ?_ <;> conv => whnf)
    | (refine splitB.dec (fun hb => ?_) (fun hb => ?_) <;> first | (exfalso; omega) | (conv => whnf))
    | (refine splitB.ndec (fun hb => ?_) (fun hb => ?_) <;> first | (exfalso; omega) | (conv => whnf))
    | (refine splitB.eqI (fun hb => ?_) (fun hb => ?_) <;> first | (exfalso; omega) | (conv => whnf))
    | (refine splitB.neI (fun hb => ?_) (fun hb => ?_) <;> first | (exfalso; omega) | (conv => whnf))
    | (intro r bx; conv => whnf))
  refine LoopVC.on (X := Nat × Option Addr × Nat × List Int) (fun x => [(2, .p 2 0), (4, .v (.slice none 0 0)), (5, .v (.slice b.Ai b.ni b.ci)), (6, .v (.slice x.2.1 x.1 x.2.2.1)), (7, .v (.int .i64 (x.1 : Int)))]) (fun x => [(2, 25, c.l)]) (fun x => CtxA wA w2 X2 ((.slice x.2.1 x.1 x.2.2.1, .row 3 1 (is x.2.2.2)) :: M)) (fun x => x.1 ≤ b.ni ∧ x.2.2.2.length = x.1 ∧ x.1 ≤ x.2.2.1 ∧ (0 < x.2.2.1 → ∃ b, x.2.1 = some ⟨b, 0, none⟩)) (fun x => b.ni - x.1) (0, none, 0, []) ⟨Nat.zero_le _, rfl, Nat.le_refl _, fun h => absurd h (Nat.lt_irrefl 0)⟩ ⟨rfl, rfl, rfl, rfl, rfl, trivial⟩ ⟨rfl, trivial⟩ ?_
  rintro ⟨k, A', c', xs⟩ r ⟨hki, hxl, hkc, hA'⟩
  dsimp only at hki hxl hkc hA'
  dsimp only
  conv => whnf
  refine splitB.dec (fun hb => ?_) (fun hb => ?_)
  · conv => whnf
    repeat' (first
      | (refine idxOG InsP.l 4 InsP.l_len (by omega) hir hil k rfl (by omega) (fun b' o' hA hcl2 => ?_); conv => whnf)
      | (refine ldO (hcl2 0 _ rfl) (tab_ok _ _ (by rfl)) (by rfl) ?_; conv => whnf)
      | (refine bsA el23 (by rfl) ?_; (conv => whnf); refine ⟨by rfl, fun bl => ?_⟩; conv => whnf)
      | (refine appD el23 (SrcA.own (l := [.int .i64 (-1)]) el23 (by repeat (first | exact List.Mem.head _ | refine List.Mem.tail _ ?_)) (one1 _) 1) (by repeat (first | exact AtE.here | apply AtE.there)) (by omega) ?_; intro A2 c2 hc2 hA2; conv => whnf)
      | (exact RetT.drop (K := K) M (.cons _ (.refl _)) (hk none 0 0 (by omega)))
      | (refine JoinVC.go ?_; conv => whnf)
      | (refine RetA.go ?_; conv => whnf)
      | (refine And.intro ?_ ?_ <;> conv => whnf)
      | (refine splitB.dec (fun hb => ?_) (fun hb => ?_) <;> first | (exfalso; omega) | (conv => whnf))
      | (refine splitB.ndec (fun hb => ?_) (fun hb => ?_) <;> first | (exfalso; omega) | (conv => whnf))
      | (refine splitB.eqI (fun hb => ?_) (fun hb => ?_) <;> first | (exfalso; omega) | (conv => whnf))
      | (refine splitB.neI (fun hb => ?_) (fun hb => ?_) <;> first | (exfalso; omega) | (conv => whnf))
      | (intro r bx; conv => whnf))
    all_goals exact rnd (X := Nat × Option Addr × Nat × List Int) (k + 1, A2, c2, xs ++ [-1]) (by show b.ni - (k + 1) < b.ni - k; omega) ⟨by show k + 1 ≤ b.ni; omega, by show (xs ++ [-1]).length = k + 1; rw [List.length_append, hxl]; rfl, hc2, hA2⟩ ⟨rfl, rfl, rfl, rfl, ixw (by omega), trivial⟩ ⟨rfl, trivial⟩ (hC := by rw [is_append]; rfl)
  have hkn : k = b.ni := by omega
  conv => whnf
  repeat' (first
    | (exact RetT.drop (K := K) M (.cons _ (.refl _)) (hk none 0 0 (by omega)))
    | (refine idxI hA' hkc (by omega) (by omega) (fun b' hb' => ?_); conv => whnf)
    | (refine stRI 0 hb' (by repeat (first | exact AtE.here | apply AtE.there)) rfl (by omega) ?_; conv => whnf)
    | (refine JoinVC.go ?_; conv => whnf)
    | (refine RetA.go ?_; conv => whnf)
    | (refine And.intro ?_ ?_ <;> conv => whnf)
    | (refine splitB.dec (fun hb => ?_) (fun hb => ?_) <;> first | (exfalso; omega) | (conv => whnf))
    | (refine splitB.ndec (fun hb => ?_) (fun hb => ?_) <;> first | (exfalso; omega) | (conv => whnf))
    | (refine splitB.eqI (fun hb => ?_) (fun hb => ?_) <;> first | (exfalso; omega) | (conv => whnf))
    | (refine splitB.neI (fun hb => ?_) (fun hb => ?_) <;> first | (exfalso; omega) | (conv => whnf))
    | (intro r bx; conv => whnf))
  subst hkn
  have hx0 : (xs.set 0 0).length = b.ni := by rw [List.length_set]; exact hxl
  refine LoopVC.on (X := Nat × List Int × EL) (fun x => [(2, .p 2 0), (4, .v (.slice none 0 0)), (5, .v (.slice b.Ai b.ni b.ci)), (6, .v (.slice A' b.ni c')), (8, .v (.int .i64 (x.1 : Int)))]) (fun x => [(2, 25, c.l)]) (fun x => CtxA wA w2 X2 (x.2.2 ++ ((.slice A' b.ni c', .row 3 1 (is x.2.1)) :: M))) (fun x => x.1 ≤ b.ni + 1 ∧ x.2.1.length = b.ni) (fun x => b.ni + 1 - x.1) (0, xs.set 0 0, []) ⟨Nat.zero_le _, hx0⟩ ⟨rfl, rfl, rfl, rfl, rfl, trivial⟩ ⟨rfl, trivial⟩ ?_
  rintro ⟨ag, xs2, J2⟩ r2 ⟨hag, hx2⟩
  dsimp only at hag hx2
  dsimp only
  conv => whnf
  refine splitB.dec (fun hb => ?_) (fun hb => ?_)
  rotate_left
  · conv => whnf
    exact RetT.drop (K := K) M (List.Sublist.trans (.cons _ (.refl _)) (List.sublist_append_right J2 _)) (hk _ _ _ hn)
  conv => whnf
  refine LoopVC.on (X := Nat × List Int × EL) (fun x => [(2, .p 2 0), (4, .v (.slice none 0 0)), (5, .v (.slice b.Ai b.ni b.ci)), (6, .v (.slice A' b.ni c')), (8, .v (.int .i64 (ag : Int))), (9, .v (.int .i64 (x.1 : Int)))]) (fun x => [(2, 25, c.l)]) (fun x => CtxA wA w2 X2 (x.2.2 ++ ((.slice A' b.ni c', .row 3 1 (is x.2.1)) :: M))) (fun x => x.1 ≤ b.ni ∧ x.2.1.length = b.ni) (fun x => b.ni - x.1) (0, xs2, J2) ⟨Nat.zero_le _, hx2⟩ ⟨rfl, rfl, rfl, rfl, rfl, rfl, trivial⟩ ⟨rfl, trivial⟩ ?_
  rintro ⟨k, xs3, J3⟩ r3 ⟨hk3, hx3⟩
  dsimp only at hk3 hx3
  dsimp only
  conv => whnf
  refine splitB.dec (fun hb3 => ?_) (fun hb3 => ?_)
  rotate_left
  · conv => whnf
    exact rnd (X := Nat × List Int × EL) (ag + 1, xs3, J3) (by show b.ni + 1 - (ag + 1) < b.ni + 1 - ag; omega) ⟨by show ag + 1 ≤ b.ni + 1; omega, hx3⟩ ⟨rfl, rfl, rfl, rfl, ixw (by omega), trivial⟩ ⟨rfl, trivial⟩
  conv => whnf
  refine idxI hA' hkc (by omega) (by omega) (fun b' hb' => ?_)
  conv => whnf
  refine SemVC.imp (Imp.sub (List.sublist_append_right J3 _)) (ldRI (xs := xs3) k hb' (List.Mem.head _) rfl (by omega) ?_)
  conv => whnf
  refine splitB.dec (fun hb4 => ?_) (fun hb4 => ?_)
  · conv => whnf
    exact rnd (X := Nat × List Int × EL) (k + 1, xs3, []) (by show b.ni - (k + 1) < b.ni - k; omega) ⟨by show k + 1 ≤ b.ni; omega, hx3⟩ ⟨rfl, rfl, rfl, rfl, rfl, ixw (by omega), trivial⟩ ⟨rfl, trivial⟩
  conv => whnf
  refine JoinVC.on (X := Bool) (fun q => [(2, .p 2 0), (4, .v (.slice none 0 0)), (5, .v (.slice b.Ai b.ni b.ci)), (6, .v (.slice A' b.ni c')), (8, .v (.int .i64 (ag : Int))), (9, .v (.int .i64 (k : Int))), (90, .v (.bool q))]) (fun _ => [(2, 25, c.l)]) (fun _ => CtxA wA w2 X2 ((.slice A' b.ni c', .row 3 1 (is xs3)) :: M)) (fun _ => True) ?_ ?_
  · conv => whnf
    repeat' (first
      | (exact Wk.on (X := Bool) _ trivial ⟨rfl, rfl, rfl, rfl, rfl, rfl, rfl, trivial⟩ ⟨rfl, trivial⟩)
      | (refine idxOG InsP.l 4 InsP.l_len (by omega) hir hil k rfl (by omega) (fun b' o' hA hcl2 => ?_); conv => whnf)
      | (refine ldsO (InsP.l _) (by assumption) (tab_ok _ _ (by rfl)) (by rfl) (by rfl) ?_; conv => whnf)
      | (refine takes_vc (fun tk => ?_); conv => whnf)
      | (refine idxI hA' hkc (by omega) (by omega) (fun b' hb' => ?_); conv => whnf)
      | (refine ldRI (xs := xs3) k hb' (List.Mem.head _) rfl (by omega) ?_; conv => whnf)
      | (refine puts_vc (fun pt => ?_); conv => whnf)
      | (refine RetA.go ?_; conv => whnf)
      | (refine And.intro ?_ ?_ <;> conv => whnf)
      | (refine splitB.dec (fun hb => ?_) (fun hb => ?_) <;> first | (exfalso; omega) | (conv => whnf))
      | (refine splitB.ndec (fun hb => ?_) (fun hb => ?_) <;> first | (exfalso; omega) | (conv => whnf))
      | (refine splitB.eqI (fun hb => ?_) (fun hb => ?_) <;> first | (exfalso; omega) | (conv => whnf))
      | (refine splitB.neI (fun hb => ?_) (fun hb => ?_) <;> first | (exfalso; omega) | (conv => whnf)))
  intro q r4 _
  conv => whnf
  cases q with
  | true =>
    conv => whnf
    exact RetT.drop (K := K) M (.cons _ (.refl _)) (hk none 0 0 (by omega))
  | false =>
  conv => whnf
  refine JoinVC.on (X := Int) (fun h => [(2, .p 2 0), (4, .v (.slice none 0 0)), (5, .v (.slice b.Ai b.ni b.ci)), (6, .v (.slice A' b.ni c')), (8, .v (.int .i64 (ag : Int))), (9, .v (.int .i64 (k : Int))), (10, .v (.int .i64 h))]) (fun _ => [(2, 25, c.l)]) (fun _ => CtxA wA w2 X2 ((.slice A' b.ni c', .row 3 1 (is xs3)) :: M)) (fun _ => True) ?_ ?_
  · conv => whnf
    repeat' (first
      | (exact Wk.on (X := Int) _ trivial ⟨rfl, rfl, rfl, rfl, rfl, rfl, rfl, trivial⟩ ⟨rfl, trivial⟩)
      | (refine idxOG InsP.l 4 InsP.l_len (by omega) hir hil k rfl (by omega) (fun b' o' hA hcl2 => ?_); conv => whnf)
      | (refine ldsO (InsP.l _) (by assumption) (tab_ok _ _ (by rfl)) (by rfl) (by rfl) ?_; conv => whnf)
      | (refine takes_vc (fun tk => ?_); conv => whnf)
      | (refine idxI hA' hkc (by omega) (by omega) (fun b' hb' => ?_); conv => whnf)
      | (refine ldRI (xs := xs3) k hb' (List.Mem.head _) rfl (by omega) ?_; conv => whnf)
      | (refine puts_vc (fun pt => ?_); conv => whnf)
      | (refine RetA.go ?_; conv => whnf)
      | (refine And.intro ?_ ?_ <;> conv => whnf)
      | (refine splitB.dec (fun hb => ?_) (fun hb => ?_) <;> first | (exfalso; omega) | (conv => whnf))
      | (refine splitB.ndec (fun hb => ?_) (fun hb => ?_) <;> first | (exfalso; omega) | (conv => whnf))
      | (refine splitB.eqI (fun hb => ?_) (fun hb => ?_) <;> first | (exfalso; omega) | (conv => whnf))
      | (refine splitB.neI (fun hb => ?_) (fun hb => ?_) <;> first | (exfalso; omega) | (conv => whnf)))
  intro h r5 _
  conv => whnf
  repeat' (first
    | (refine idxOG InsP.l 4 InsP.l_len (by omega) hir hil k rfl (by omega) (fun b' o' hA hcl2 => ?_); conv => whnf)
    | (refine ldsO (InsP.l _) (by assumption) (tab_ok _ _ (by rfl)) (by rfl) (by rfl) ?_; conv => whnf)
    | (refine takes_vc (fun tk => ?_); conv => whnf)
    | (refine idxI hA' hkc (by omega) (by omega) (fun b' hb' => ?_); conv => whnf)
    | (refine ldRI (xs := xs3) k hb' (List.Mem.head _) rfl (by omega) ?_; conv => whnf)
    | (refine puts_vc (fun pt => ?_); conv => whnf)
    | (refine on_vc (fun At nt ct ts hts hnt hct hAt => ?_); conv => whnf)
    | (refine RetA.go ?_; conv => whnf)
    | (refine And.intro ?_ ?_ <;> conv => whnf)
    | (refine splitB.dec (fun hb => ?_) (fun hb => ?_) <;> first | (exfalso; omega) | (conv => whnf))
    | (refine splitB.ndec (fun hb => ?_) (fun hb => ?_) <;> first | (exfalso; omega) | (conv => whnf))
    | (refine splitB.eqI (fun hb => ?_) (fun hb => ?_) <;> first | (exfalso; omega) | (conv => whnf))
    | (refine splitB.neI (fun hb => ?_) (fun hb => ?_) <;> first | (exfalso; omega) | (conv => whnf)))
  refine LoopVC.on (X := Nat × List Int) (fun x => [(2, .p 2 0), (4, .v (.slice none 0 0)), (5, .v (.slice b.Ai b.ni b.ci)), (6, .v (.slice A' b.ni c')), (8, .v (.int .i64 (ag : Int))), (9, .v (.int .i64 (k : Int))), (10, .v (.int .i64 h)), (11, .v (.slice At nt ct)), (12, .v (.int .i64 (x.1 : Int)))]) (fun _ => [(2, 25, c.l)]) (fun x => CtxA wA w2 X2 ((.slice At nt ct, .row 3 1 (is ts)) :: ((.slice A' b.ni c', .row 3 1 (is x.2)) :: M))) (fun x => x.1 ≤ nt ∧ x.2.length = b.ni) (fun x => nt - x.1) (0, xs3) ⟨Nat.zero_le _, hx3⟩ ⟨rfl, rfl, rfl, rfl, rfl, rfl, rfl, rfl, rfl, trivial⟩ ⟨rfl, trivial⟩ ?_
  rintro ⟨i, xs4⟩ r6 ⟨hi4, hx4⟩
  dsimp only at hi4 hx4
  dsimp only
  conv => whnf
  refine splitB.dec (fun hb5 => ?_) (fun hb5 => ?_)
  rotate_left
  · conv => whnf
    exact rnd (X := Nat × List Int × EL) (k + 1, xs4, [(.slice At nt ct, .row 3 1 (is ts))]) (by show b.ni - (k + 1) < b.ni - k; omega) ⟨by show k + 1 ≤ b.ni; omega, hx4⟩ ⟨rfl, rfl, rfl, rfl, rfl, ixw (by omega), trivial⟩ ⟨rfl, trivial⟩
  conv => whnf
  repeat' (first
    | (refine JoinVC.go ?_; conv => whnf)
    | (refine idxI hAt hct (by omega) (by omega) (fun bt hbt => ?_); conv => whnf)
    | (refine idxI hA' hkc (by omega) (by omega) (fun b' hb' => ?_); conv => whnf)
    | (refine ldRI (xs := ts) i hbt (List.Mem.head _) rfl (by omega) ?_; conv => whnf)
    | (refine ldRI (ts.getD i 0).toNat hb' (List.Mem.tail _ (List.Mem.head _)) rfl (by first | omega | (simp only [List.length_set]; omega)) ?_; conv => whnf)
    | (refine stRI (xs := xs4) (ts.getD i 0).toNat hb' (.there .here) rfl (by omega) ?_; conv => whnf)
    | (exact RetT.drop (K := K) M (.cons _ (.cons _ (.refl _))) (hk none 0 0 (by omega)))
    | (exact rnd (X := Nat × List Int) (i + 1, xs4) (by show nt - (i + 1) < nt - i; omega) ⟨by show i + 1 ≤ nt; omega, by show (xs4).length = b.ni; exact hx4⟩ ⟨rfl, rfl, rfl, rfl, rfl, rfl, rfl, rfl, ixw (by omega), trivial⟩ ⟨rfl, trivial⟩)
    | (exact rnd (X := Nat × List Int) (i + 1, xs4.set (ts.getD i 0).toNat h) (by show nt - (i + 1) < nt - i; omega) ⟨by show i + 1 ≤ nt; omega, by show (xs4.set (ts.getD i 0).toNat h).length = b.ni; rw [List.length_set]; exact hx4⟩ ⟨rfl, rfl, rfl, rfl, rfl, rfl, rfl, rfl, ixw (by omega), trivial⟩ ⟨rfl, trivial⟩)
    | (refine RetA.go ?_; conv => whnf)
    | (refine And.intro ?_ ?_ <;> conv => whnf)
    | (refine splitB.dec (fun hb => ?_) (fun hb => ?_) <;> first | (exfalso; omega) | (conv => whnf))
    | (refine splitB.ndec (fun hb => ?_) (fun hb => ?_) <;> first | (exfalso; omega) | (conv => whnf))
    | (refine splitB.eqI (fun hb => ?_) (fun hb => ?_) <;> first | (exfalso; omega) | (conv => whnf))
    | (refine splitB.neI (fun hb => ?_) (fun hb => ?_) <;> first | (exfalso; omega) | (conv => whnf)))
end
end Go.Proofs.YtgaopcbjhepklaaGreat
/- Whether a code is right. -/
namespace Go.Proofs.YtgaopcbjhepklaaGreat
open Go.RowKit
set_option linter.unusedSimpArgs false
set_option linter.unusedVariables false
set_option maxRecDepth 100000
theorem splitB.any {b : Bool} {A B : Prop} (h1 : A) (h2 : B) : splitB b A B := splitB.intro (fun _ => h1) (fun _ => h2)
def i64L (x : Int) : List Value := [.int .i64 x]
theorem i64L_len (x : Int) : (i64L x).length = 1 := rfl
theorem is_flat : ∀ (l : List Int), is l = l.flatMap i64L
  | [] => rfl
  | x :: l => by rw [List.flatMap_cons, ← is_flat l]; rfl
section
variable {wA w0 : World} {X : Nat → Prop} {M : EL} {K : Value → Ctx → Prop} {Z : PanK}
set_option maxHeartbeats 16000000 in
theorem right07_vc {c : CodeP} {cs : List Int} (hc : CodeRd wA c cs) (hk : ∀ b, K (.bool b) (CtxA wA w0 X M)) : CallVC Tryz.prog (CtxA wA w0 X M) 7 #[.agg c.l.toArray] K Z := by
  have hf := hc.nf
  have mf := hc.mf
  have hnc := hc.nc
  have hcc := hc.cells
  rw [is_flat] at hcc
  refine it7 (args := [.agg c.l.toArray]) (by rfl) ?_
  intro w2 X2
  conv => whnf
  repeat' (first
    | (refine objects_vc (fun b => ?_); cases b <;> conv => whnf)
    | (exact RetT.drop (K := K) M (List.Sublist.refl _) (hk _))
    | (refine JoinVC.go ?_; conv => whnf)
    | (refine RetA.go ?_; conv => whnf)
    | (refine And.intro ?_ ?_ <;> conv => whnf)
    | (refine splitB.dec (fun hb => ?_) (fun hb => ?_) <;> first | (exfalso; omega) | (conv => whnf))
    | (refine splitB.ndec (fun hb => ?_) (fun hb => ?_) <;> first | (exfalso; omega) | (conv => whnf))
    | (refine splitB.eqI (fun hb => ?_) (fun hb => ?_) <;> first | (exfalso; omega) | (conv => whnf))
    | (refine splitB.neI (fun hb => ?_) (fun hb => ?_) <;> first | (exfalso; omega) | (conv => whnf))
    | (intro r bx; conv => whnf))
  refine LoopVC.on (X := Nat) (fun k => [(1, .p 1 0), (2, .v (.bool false)), (3, .v (.int .i64 (k : Int)))]) (fun _ => [(1, 25, c.l)]) (fun _ => CtxA wA w2 X2 M) (fun k => k ≤ c.nc) (fun k => c.nc - k) 0 (Nat.zero_le _) ⟨rfl, rfl, rfl, trivial⟩ ⟨rfl, trivial⟩ ?_
  intro k r hkc
  replace hkc : k ≤ c.nc := hkc
  conv => whnf
  refine splitB.dec (fun hb1 => ?_) (fun hb1 => ?_)
  · conv => whnf
    repeat' (first
      | (refine idxOG i64L 1 i64L_len (by omega) hcc hnc k rfl (by omega) (fun b' o' hA hcl => ?_); conv => whnf)
      | (refine ldO (hcl 0 _ rfl) (tab_ok _ _ (by rfl)) (by rfl) ?_; conv => whnf)
      | (exact rnd (X := Nat) (k + 1) (by show c.nc - (k + 1) < c.nc - k; omega) (by show k + 1 ≤ c.nc; omega) ⟨rfl, rfl, ixw2 (by omega), trivial⟩ ⟨rfl, trivial⟩)
      | (exact RetT.drop (K := K) M (List.Sublist.refl _) (hk _))
      | (refine JoinVC.go ?_; conv => whnf)
      | (refine RetA.go ?_; conv => whnf)
      | (refine And.intro ?_ ?_ <;> conv => whnf)
      | (refine splitB.dec (fun hb => ?_) (fun hb => ?_) <;> first | (exfalso; omega) | (conv => whnf))
      | (refine splitB.ndec (fun hb => ?_) (fun hb => ?_) <;> first | (exfalso; omega) | (conv => whnf))
      | (refine splitB.eqI (fun hb => ?_) (fun hb => ?_) <;> first | (exfalso; omega) | (conv => whnf))
      | (refine splitB.neI (fun hb => ?_) (fun hb => ?_) <;> first | (exfalso; omega) | (conv => whnf))
      | (intro r bx; conv => whnf))
  conv => whnf
  refine LoopVC.on (X := Nat) (fun k => [(1, .p 1 0), (2, .v (.bool false)), (4, .v (.int .i64 (k : Int)))]) (fun _ => [(1, 25, c.l)]) (fun _ => CtxA wA w2 X2 M) (fun k => k ≤ c.nf) (fun k => c.nf - k) 0 (Nat.zero_le _) ⟨rfl, rfl, rfl, trivial⟩ ⟨rfl, trivial⟩ ?_
  intro k2 r2 hk2
  replace hk2 : k2 ≤ c.nf := hk2
  conv => whnf
  refine splitB.dec (fun hb2 => ?_) (fun hb2 => ?_)
  rotate_left
  · conv => whnf
    repeat' (first
      | (refine idxOG BodyP.l 3 BodyP.l_len (by omega) hc.funs hf c.main.toNat (by omega) (by omega) (fun b' o' hA hcl => ?_); conv => whnf)
      | (refine ldO (hcl 0 _ rfl) (tab_ok _ _ (by rfl)) (by rfl) ?_; conv => whnf)
      | (exact RetT.drop (K := K) M (List.Sublist.refl _) (hk _))
      | (refine JoinVC.go ?_; conv => whnf)
      | (refine RetA.go ?_; conv => whnf)
      | (refine And.intro ?_ ?_ <;> conv => whnf)
      | (refine splitB.dec (fun hb => ?_) (fun hb => ?_) <;> first | (exfalso; omega) | (conv => whnf))
      | (refine splitB.ndec (fun hb => ?_) (fun hb => ?_) <;> first | (exfalso; omega) | (conv => whnf))
      | (refine splitB.eqI (fun hb => ?_) (fun hb => ?_) <;> first | (exfalso; omega) | (conv => whnf))
      | (refine splitB.neI (fun hb => ?_) (fun hb => ?_) <;> first | (exfalso; omega) | (conv => whnf))
      | (intro r bx; conv => whnf))
  have hj : k2 < c.funs.length := by omega
  obtain ⟨hir, hil, him⟩ := hc.ins k2 hj
  conv => whnf
  repeat' (first
    | (refine idxOG BodyP.l 3 BodyP.l_len (by omega) hc.funs hf k2 rfl (by omega) (fun b' o' hA hcl => ?_); conv => whnf)
    | (refine ldsO (BodyP.l _) (by assumption) (tab_ok _ _ (by rfl)) (by rfl) (by rfl) ?_; conv => whnf)
    | (refine heights_vc hc k2 hj (by omega) (fun A n cc hn => ?_); conv => whnf)
    | (exact RetT.drop (K := K) M (List.Sublist.refl _) (hk _))
    | (refine JoinVC.go ?_; conv => whnf)
    | (refine RetA.go ?_; conv => whnf)
    | (refine And.intro ?_ ?_ <;> conv => whnf)
    | (refine splitB.dec (fun hb => ?_) (fun hb => ?_) <;> first | (exfalso; omega) | (conv => whnf))
    | (refine splitB.ndec (fun hb => ?_) (fun hb => ?_) <;> first | (exfalso; omega) | (conv => whnf))
    | (refine splitB.eqI (fun hb => ?_) (fun hb => ?_) <;> first | (exfalso; omega) | (conv => whnf))
    | (refine splitB.neI (fun hb => ?_) (fun hb => ?_) <;> first | (exfalso; omega) | (conv => whnf))
    | (intro r bx; conv => whnf))
  refine LoopVC.on (X := Nat) (fun i => [(1, .p 1 0), (2, .v (.bool false)), (4, .v (.int .i64 (k2 : Int))), (5, .p 5 0), (6, .v (.int .i64 (i : Int)))]) (fun _ => [(1, 25, c.l), (5, 63, c.funs[k2].l)]) (fun _ => CtxA wA w2 X2 M) (fun i => i ≤ c.funs[k2].ni) (fun i => c.funs[k2].ni - i) 0 (Nat.zero_le _) ⟨rfl, rfl, rfl, rfl, rfl, trivial⟩ ⟨rfl, rfl, trivial⟩ ?_
  intro i r3 hi3
  replace hi3 : i ≤ c.funs[k2].ni := hi3
  conv => whnf
  refine splitB.dec (fun hb3 => ?_) (fun hb3 => ?_)
  rotate_left
  · conv => whnf
    exact rnd (X := Nat) (k2 + 1) (by show c.nf - (k2 + 1) < c.nf - k2; omega) (by show k2 + 1 ≤ c.nf; omega) ⟨rfl, rfl, ixw2 (by omega), trivial⟩ ⟨rfl, trivial⟩
  conv => whnf
  repeat' (first
    | (refine idxOG InsP.l 4 InsP.l_len (by omega) hir hil i rfl (by omega) (fun b' o' hA hcl => ?_); conv => whnf)
    | (refine ldsO (InsP.l _) (by assumption) (tab_ok _ _ (by rfl)) (by rfl) (by rfl) ?_; conv => whnf)
    | (refine may07_vc (c := c) (b := c.funs[k2]) hc (fun b => ?_); cases b <;> conv => whnf)
    | (exact rnd (X := Nat) (i + 1) (by show c.funs[k2].ni - (i + 1) < c.funs[k2].ni - i; omega) (by show i + 1 ≤ c.funs[k2].ni; omega) ⟨rfl, rfl, rfl, rfl, ixw2 (by omega), trivial⟩ ⟨rfl, rfl, trivial⟩)
    | (exact RetT.drop (K := K) M (List.Sublist.refl _) (hk _))
    | (refine JoinVC.go ?_; conv => whnf)
    | (refine RetA.go ?_; conv => whnf)
    | (refine And.intro ?_ ?_ <;> conv => whnf)
    | (refine splitB.dec (fun hb => ?_) (fun hb => ?_) <;> first | (exfalso; omega) | (conv => whnf))
    | (refine splitB.ndec (fun hb => ?_) (fun hb => ?_) <;> first | (exfalso; omega) | (conv => whnf))
    | (refine splitB.eqI (fun hb => ?_) (fun hb => ?_) <;> first | (exfalso; omega) | (conv => whnf))
    | (refine splitB.neI (fun hb => ?_) (fun hb => ?_) <;> first | (exfalso; omega) | (conv => whnf))
    | (intro r bx; conv => whnf))
end
end Go.Proofs.YtgaopcbjhepklaaGreat
/- Comparisons of what is the same. -/
namespace Go.Proofs.YtgaopcbjhepklaaGreat
open Go.RowKit
set_option linter.unusedSimpArgs false
set_option linter.unusedVariables false
set_option maxRecDepth 100000
theorem splitB.isFj {b : Bool} {A B : Prop} (h : b = false) (h2 : B) : splitB b A B := by subst h; exact h2
theorem splitB.isTj {b : Bool} {A B : Prop} (h : b = true) (h2 : A) : splitB b A B := by subst h; exact h2
def resL (p : Int × Bool) : List Value := [.int .i64 p.1, .bool p.2]
theorem resL_len (p : Int × Bool) : (resL p).length = 2 := rfl
structure OldR (wA : World) (A : Option Addr) (n : Nat) (xs : List (Int × Bool)) : Prop where
  rd : Rd wA wA.heap.size A (xs.flatMap resL)
  len : n = xs.length
  sm : n ≤ 1000000
theorem semNeB {x y : Operand} {b : Bool} {C : Ctx} {K : Value → Ctx → Prop} (h : K (.bool false) C) : SemVC Tryz.prog C (do eqGuard .neq 4 x y (.bool b) (.bool b); binOp .neq 4 (.bool b) (.bool b)) K := by
  have hu : Tryz.prog.underlying 4 = some .bool := by kernel_rfl
  have e : Op.maxDepth = (Op.maxDepth - 1) + 1 := rfl
  refine semA (fun w => ?_) h
  simp [eqGuard, binOp, Op.equal]
  rw [e]
  simp [Op.equalIn, run_underlying hu]
section
variable {wA w0 : World} {X : Nat → Prop} {M : EL} {K : Value → Ctx → Prop} {Z : PanK}
set_option maxHeartbeats 4000000 in
theorem ints30_vc {A1 A2 : Option Addr} {n1 n2 c1 c2 : Nat} {xs : List Int} (h1 : OldI wA A1 n1 c1 xs) (h2 : OldI wA A2 n2 c2 xs) (hk : K (.bool true) (CtxA wA w0 X M)) : CallVC Tryz.prog (CtxA wA w0 X M) 29 #[.slice A1 n1 c1, .slice A2 n2 c2] K Z := by
  have hl := h1.len
  have hl2 := h2.len
  have hs := h1.sm
  refine it29 (args := [.slice A1 n1 c1, .slice A2 n2 c2]) (by rfl) ?_
  intro w2 X2
  conv => whnf
  repeat' (first
    | (exact RetT.drop (K := K) M (List.Sublist.refl _) hk)
    | (refine JoinVC.go ?_; conv => whnf)
    | (refine RetA.go ?_; conv => whnf)
    | (refine And.intro ?_ ?_ <;> conv => whnf)
    | (refine splitB.dec (fun hb => ?_) (fun hb => ?_) <;> first | (exfalso; omega) | (conv => whnf))
    | (refine splitB.ndec (fun hb => ?_) (fun hb => ?_) <;> first | (exfalso; omega) | (conv => whnf))
    | (refine splitB.eqI (fun hb => ?_) (fun hb => ?_) <;> first | (exfalso; omega) | (conv => whnf))
    | (refine splitB.neI (fun hb => ?_) (fun hb => ?_) <;> first | (exfalso; omega) | (conv => whnf))
    | (intro r bx; conv => whnf))
  refine LoopVC.on (X := Nat) (fun i => [(0, .v (.slice A1 n1 c1)), (1, .v (.slice A2 n2 c2)), (4, .v (.bool false)), (5, .v (.int .i64 (i : Int)))]) (fun _ => []) (fun _ => CtxA wA w2 X2 M) (fun i => i ≤ n1) (fun i => n1 - i) 0 (Nat.zero_le _) ⟨rfl, rfl, rfl, rfl, trivial⟩ trivial ?_
  intro i r hi
  replace hi : i ≤ n1 := hi
  conv => whnf
  repeat' (first
    | (refine idxOI h1 i rfl (by omega) (fun b1' o1' hA1 hcl1 => ?_); conv => whnf)
    | (refine idxOI h2 i rfl (by omega) (fun b2' o2' hA2 hcl2 => ?_); conv => whnf)
    | (refine ldO (by assumption) (tab_ok _ _ (by rfl)) (by rfl) ?_; conv => whnf)
    | (refine splitB.isFj ?_ ?_; (focus (simp only [eqCells, beq_self_eq_true, Bool.and_self, Bool.not_true, bne_self_eq_false]; done)); conv => whnf)
    | (refine splitB.isTj ?_ ?_; (focus (simp only [eqCells, beq_self_eq_true, Bool.and_self]; done)); conv => whnf)
    | (exact rnd (X := Nat) (i + 1) (by show n1 - (i + 1) < n1 - i; omega) (by show i + 1 ≤ n1; omega) ⟨rfl, rfl, rfl, ixw (by omega), trivial⟩ trivial)
    | (exact RetT.drop (K := K) M (List.Sublist.refl _) hk)
    | (refine JoinVC.go ?_; conv => whnf)
    | (refine RetA.go ?_; conv => whnf)
    | (refine And.intro ?_ ?_ <;> conv => whnf)
    | (refine splitB.dec (fun hb => ?_) (fun hb => ?_) <;> first | (exfalso; omega) | (conv => whnf))
    | (refine splitB.ndec (fun hb => ?_) (fun hb => ?_) <;> first | (exfalso; omega) | (conv => whnf))
    | (refine splitB.eqI (fun hb => ?_) (fun hb => ?_) <;> first | (exfalso; omega) | (conv => whnf))
    | (refine splitB.neI (fun hb => ?_) (fun hb => ?_) <;> first | (exfalso; omega) | (conv => whnf))
    | (intro r bx; conv => whnf))
set_option maxHeartbeats 4000000 in
theorem ints08_vc {A1 A2 : Option Addr} {n1 n2 c1 c2 : Nat} {xs : List Int} (h1 : OldI wA A1 n1 c1 xs) (h2 : OldI wA A2 n2 c2 xs) (hk : K (.bool true) (CtxA wA w0 X M)) : CallVC Tryz.prog (CtxA wA w0 X M) 60 #[.slice A1 n1 c1, .slice A2 n2 c2] K Z := by
  have hl := h1.len
  have hl2 := h2.len
  have hs := h1.sm
  refine it60 (args := [.slice A1 n1 c1, .slice A2 n2 c2]) (by rfl) ?_
  intro w2 X2
  conv => whnf
  repeat' (first
    | (exact RetT.drop (K := K) M (List.Sublist.refl _) hk)
    | (refine JoinVC.go ?_; conv => whnf)
    | (refine RetA.go ?_; conv => whnf)
    | (refine And.intro ?_ ?_ <;> conv => whnf)
    | (refine splitB.dec (fun hb => ?_) (fun hb => ?_) <;> first | (exfalso; omega) | (conv => whnf))
    | (refine splitB.ndec (fun hb => ?_) (fun hb => ?_) <;> first | (exfalso; omega) | (conv => whnf))
    | (refine splitB.eqI (fun hb => ?_) (fun hb => ?_) <;> first | (exfalso; omega) | (conv => whnf))
    | (refine splitB.neI (fun hb => ?_) (fun hb => ?_) <;> first | (exfalso; omega) | (conv => whnf))
    | (intro r bx; conv => whnf))
  refine LoopVC.on (X := Nat) (fun i => [(0, .v (.slice A1 n1 c1)), (1, .v (.slice A2 n2 c2)), (4, .v (.bool false)), (5, .v (.int .i64 (i : Int)))]) (fun _ => []) (fun _ => CtxA wA w2 X2 M) (fun i => i ≤ n1) (fun i => n1 - i) 0 (Nat.zero_le _) ⟨rfl, rfl, rfl, rfl, trivial⟩ trivial ?_
  intro i r hi
  replace hi : i ≤ n1 := hi
  conv => whnf
  repeat' (first
    | (refine idxOI h1 i rfl (by omega) (fun b1' o1' hA1 hcl1 => ?_); conv => whnf)
    | (refine idxOI h2 i rfl (by omega) (fun b2' o2' hA2 hcl2 => ?_); conv => whnf)
    | (refine ldO (by assumption) (tab_ok _ _ (by rfl)) (by rfl) ?_; conv => whnf)
    | (refine splitB.isFj ?_ ?_; (focus (simp only [eqCells, beq_self_eq_true, Bool.and_self, Bool.not_true, bne_self_eq_false]; done)); conv => whnf)
    | (refine splitB.isTj ?_ ?_; (focus (simp only [eqCells, beq_self_eq_true, Bool.and_self]; done)); conv => whnf)
    | (exact rnd (X := Nat) (i + 1) (by show n1 - (i + 1) < n1 - i; omega) (by show i + 1 ≤ n1; omega) ⟨rfl, rfl, rfl, ixw (by omega), trivial⟩ trivial)
    | (exact RetT.drop (K := K) M (List.Sublist.refl _) hk)
    | (refine JoinVC.go ?_; conv => whnf)
    | (refine RetA.go ?_; conv => whnf)
    | (refine And.intro ?_ ?_ <;> conv => whnf)
    | (refine splitB.dec (fun hb => ?_) (fun hb => ?_) <;> first | (exfalso; omega) | (conv => whnf))
    | (refine splitB.ndec (fun hb => ?_) (fun hb => ?_) <;> first | (exfalso; omega) | (conv => whnf))
    | (refine splitB.eqI (fun hb => ?_) (fun hb => ?_) <;> first | (exfalso; omega) | (conv => whnf))
    | (refine splitB.neI (fun hb => ?_) (fun hb => ?_) <;> first | (exfalso; omega) | (conv => whnf))
    | (intro r bx; conv => whnf))
set_option maxHeartbeats 4000000 in
theorem kids08_vc {A1 A2 : Option Addr} {n1 n2 c1 c2 : Nat} {xs : List KidP} (h1 : OldK wA A1 n1 c1 xs) (h2 : OldK wA A2 n2 c2 xs) (hk : K (.bool true) (CtxA wA w0 X M)) : CallVC Tryz.prog (CtxA wA w0 X M) 61 #[.slice A1 n1 c1, .slice A2 n2 c2] K Z := by
  have hl := h1.len
  have hl2 := h2.len
  have hs := h1.sm
  refine it61 (args := [.slice A1 n1 c1, .slice A2 n2 c2]) (by rfl) ?_
  intro w2 X2
  conv => whnf
  repeat' (first
    | (exact RetT.drop (K := K) M (List.Sublist.refl _) hk)
    | (refine JoinVC.go ?_; conv => whnf)
    | (refine RetA.go ?_; conv => whnf)
    | (refine And.intro ?_ ?_ <;> conv => whnf)
    | (refine splitB.dec (fun hb => ?_) (fun hb => ?_) <;> first | (exfalso; omega) | (conv => whnf))
    | (refine splitB.ndec (fun hb => ?_) (fun hb => ?_) <;> first | (exfalso; omega) | (conv => whnf))
    | (refine splitB.eqI (fun hb => ?_) (fun hb => ?_) <;> first | (exfalso; omega) | (conv => whnf))
    | (refine splitB.neI (fun hb => ?_) (fun hb => ?_) <;> first | (exfalso; omega) | (conv => whnf))
    | (intro r bx; conv => whnf))
  refine LoopVC.on (X := Nat) (fun i => [(0, .v (.slice A1 n1 c1)), (1, .v (.slice A2 n2 c2)), (4, .v (.bool false)), (5, .v (.int .i64 (i : Int)))]) (fun _ => []) (fun _ => CtxA wA w2 X2 M) (fun i => i ≤ n1) (fun i => n1 - i) 0 (Nat.zero_le _) ⟨rfl, rfl, rfl, rfl, trivial⟩ trivial ?_
  intro i r hi
  replace hi : i ≤ n1 := hi
  conv => whnf
  repeat' (first
    | (refine idxOK h1 i rfl (by omega) (fun b1' o1' hA1 hcl1 => ?_); conv => whnf)
    | (refine idxOK h2 i rfl (by omega) (fun b2' o2' hA2 hcl2 => ?_); conv => whnf)
    | (refine ldsO [.int .i64 xs[i].task, .int .i64 xs[i].dst] (by assumption) (tab_ok _ _ (by rfl)) (by rfl) (by rfl) ?_; conv => whnf)
    | (refine splitB.isFj ?_ ?_; (focus (simp only [eqCells, beq_self_eq_true, Bool.and_self, Bool.not_true, bne_self_eq_false]; done)); conv => whnf)
    | (refine splitB.isTj ?_ ?_; (focus (simp only [eqCells, beq_self_eq_true, Bool.and_self]; done)); conv => whnf)
    | (exact rnd (X := Nat) (i + 1) (by show n1 - (i + 1) < n1 - i; omega) (by show i + 1 ≤ n1; omega) ⟨rfl, rfl, rfl, ixw (by omega), trivial⟩ trivial)
    | (exact RetT.drop (K := K) M (List.Sublist.refl _) hk)
    | (refine JoinVC.go ?_; conv => whnf)
    | (refine RetA.go ?_; conv => whnf)
    | (refine And.intro ?_ ?_ <;> conv => whnf)
    | (refine splitB.dec (fun hb => ?_) (fun hb => ?_) <;> first | (exfalso; omega) | (conv => whnf))
    | (refine splitB.ndec (fun hb => ?_) (fun hb => ?_) <;> first | (exfalso; omega) | (conv => whnf))
    | (refine splitB.eqI (fun hb => ?_) (fun hb => ?_) <;> first | (exfalso; omega) | (conv => whnf))
    | (refine splitB.neI (fun hb => ?_) (fun hb => ?_) <;> first | (exfalso; omega) | (conv => whnf))
    | (intro r bx; conv => whnf))
set_option maxHeartbeats 4000000 in
theorem results30_vc {A1 A2 : Option Addr} {n1 n2 c1 c2 : Nat} {xs : List (Int × Bool)} (h1 : OldR wA A1 n1 xs) (h2 : OldR wA A2 n2 xs) (hk : K (.bool true) (CtxA wA w0 X M)) : CallVC Tryz.prog (CtxA wA w0 X M) 28 #[.slice A1 n1 c1, .slice A2 n2 c2] K Z := by
  have hl := h1.len
  have hl2 := h2.len
  have hs := h1.sm
  refine it28 (args := [.slice A1 n1 c1, .slice A2 n2 c2]) (by rfl) ?_
  intro w2 X2
  conv => whnf
  repeat' (first
    | (exact RetT.drop (K := K) M (List.Sublist.refl _) hk)
    | (refine JoinVC.go ?_; conv => whnf)
    | (refine RetA.go ?_; conv => whnf)
    | (refine And.intro ?_ ?_ <;> conv => whnf)
    | (refine splitB.dec (fun hb => ?_) (fun hb => ?_) <;> first | (exfalso; omega) | (conv => whnf))
    | (refine splitB.ndec (fun hb => ?_) (fun hb => ?_) <;> first | (exfalso; omega) | (conv => whnf))
    | (refine splitB.eqI (fun hb => ?_) (fun hb => ?_) <;> first | (exfalso; omega) | (conv => whnf))
    | (refine splitB.neI (fun hb => ?_) (fun hb => ?_) <;> first | (exfalso; omega) | (conv => whnf))
    | (intro r bx; conv => whnf))
  refine LoopVC.on (X := Nat) (fun i => [(0, .v (.slice A1 n1 c1)), (1, .v (.slice A2 n2 c2)), (4, .v (.bool false)), (5, .v (.int .i64 (i : Int)))]) (fun _ => []) (fun _ => CtxA wA w2 X2 M) (fun i => i ≤ n1) (fun i => n1 - i) 0 (Nat.zero_le _) ⟨rfl, rfl, rfl, rfl, trivial⟩ trivial ?_
  intro i r hi
  replace hi : i ≤ n1 := hi
  conv => whnf
  repeat' (first
    | (refine idxOG resL 2 resL_len (by omega) h1.rd hl i rfl (by omega) (fun b1' o1' hA1 hcl1 => ?_); conv => whnf)
    | (refine idxOG resL 2 resL_len (by omega) h2.rd hl2 i rfl (by omega) (fun b2' o2' hA2 hcl2 => ?_); conv => whnf)
    | (refine ldsO [.int .i64 xs[i].1, .bool xs[i].2] (by assumption) (tab_ok _ _ (by rfl)) (by rfl) (by rfl) ?_; conv => whnf)
    | (refine splitB.isFj ?_ ?_; (focus (simp only [eqCells, beq_self_eq_true, Bool.and_self, Bool.not_true, bne_self_eq_false]; done)); conv => whnf)
    | (refine splitB.isTj ?_ ?_; (focus (simp only [eqCells, beq_self_eq_true, Bool.and_self]; done)); conv => whnf)
    | (exact rnd (X := Nat) (i + 1) (by show n1 - (i + 1) < n1 - i; omega) (by show i + 1 ≤ n1; omega) ⟨rfl, rfl, rfl, ixw (by omega), trivial⟩ trivial)
    | (exact RetT.drop (K := K) M (List.Sublist.refl _) hk)
    | (refine JoinVC.go ?_; conv => whnf)
    | (refine RetA.go ?_; conv => whnf)
    | (refine And.intro ?_ ?_ <;> conv => whnf)
    | (refine splitB.dec (fun hb => ?_) (fun hb => ?_) <;> first | (exfalso; omega) | (conv => whnf))
    | (refine splitB.ndec (fun hb => ?_) (fun hb => ?_) <;> first | (exfalso; omega) | (conv => whnf))
    | (refine splitB.eqI (fun hb => ?_) (fun hb => ?_) <;> first | (exfalso; omega) | (conv => whnf))
    | (refine splitB.neI (fun hb => ?_) (fun hb => ?_) <;> first | (exfalso; omega) | (conv => whnf))
    | (intro r bx; conv => whnf))
set_option maxHeartbeats 4000000 in
theorem asks_vc {k a b p0 p1 p2 p3 : Int} {A1 A2 : Option Addr} {n1 n2 c1 c2 : Nat} {xs : List Int} (h1 : OldI wA A1 n1 c1 xs) (h2 : OldI wA A2 n2 c2 xs) (hk : K (.bool true) (CtxA wA w0 X M)) : CallVC Tryz.prog (CtxA wA w0 X M) 27 #[.agg #[.int .i64 k, .int .i64 a, .int .i64 b, .int .i64 p0, .int .i64 p1, .int .i64 p2, .int .i64 p3, .slice A1 n1 c1], .agg #[.int .i64 k, .int .i64 a, .int .i64 b, .int .i64 p0, .int .i64 p1, .int .i64 p2, .int .i64 p3, .slice A2 n2 c2]] K Z := by
  refine it27 (args := [.agg #[.int .i64 k, .int .i64 a, .int .i64 b, .int .i64 p0, .int .i64 p1, .int .i64 p2, .int .i64 p3, .slice A1 n1 c1], .agg #[.int .i64 k, .int .i64 a, .int .i64 b, .int .i64 p0, .int .i64 p1, .int .i64 p2, .int .i64 p3, .slice A2 n2 c2]]) (by rfl) ?_
  intro w2 X2
  conv => whnf
  repeat' (first
    | (refine ints08_vc h1 h2 ?_; conv => whnf)
    | (refine splitB.isFj ?_ ?_; (focus (simp only [eqCells, beq_self_eq_true, Bool.and_self, Bool.not_true, bne_self_eq_false]; done)); conv => whnf)
    | (refine splitB.isTj ?_ ?_; (focus (simp only [eqCells, beq_self_eq_true, Bool.and_self]; done)); conv => whnf)
    | (exact RetT.drop (K := K) M (List.Sublist.refl _) hk)
    | (refine JoinVC.go ?_; conv => whnf)
    | (refine RetA.go ?_; conv => whnf)
    | (refine And.intro ?_ ?_ <;> conv => whnf)
    | (refine splitB.dec (fun hb => ?_) (fun hb => ?_) <;> first | (exfalso; omega) | (conv => whnf))
    | (refine splitB.ndec (fun hb => ?_) (fun hb => ?_) <;> first | (exfalso; omega) | (conv => whnf))
    | (refine splitB.eqI (fun hb => ?_) (fun hb => ?_) <;> first | (exfalso; omega) | (conv => whnf))
    | (refine splitB.neI (fun hb => ?_) (fun hb => ?_) <;> first | (exfalso; omega) | (conv => whnf))
    | (intro r bx; conv => whnf))
set_option maxHeartbeats 4000000 in
theorem same30_vc {s : SeP} {A2 : Option Addr} {n2 c2 : Nat} {xs ys : List Int} {rs : List (Int × Bool)} {gs : List (Int × Int)} (h1 : OldI wA s.Aq s.nq s.cq xs) (h2 : OldI wA A2 n2 c2 xs) (h3 : OldR wA s.Al s.nl rs) (h4 : OldI wA s.As s.ns s.cs ys) (h5 : OldP wA s.Ag s.ng gs) (hk : K (.bool true) (CtxA wA w0 X M)) : CallVC Tryz.prog (CtxA wA w0 X M) 12 #[.agg s.l.toArray, .agg ({ s with Aq := A2, nq := n2, cq := c2 } : SeP).l.toArray] K Z := by
  obtain ⟨phase, at_, task, qk, qa, qb, p0, p1, p2, p3, Aq, nq, cq, o0, o1, o2, o3, Al, nl, cl, As, ns, cs, Ag, ng, cg, hold⟩ := s
  dsimp only at h1 h3 h4 h5
  dsimp only [SeP.l]
  refine it12 (args := [_, _]) (by rfl) ?_
  intro w2 X2
  conv => whnf
  repeat' (first
    | (refine asks_vc h1 h2 ?_; conv => whnf)
    | (refine results30_vc h3 h3 ?_; conv => whnf)
    | (refine ints30_vc h4 h4 ?_; conv => whnf)
    | (refine gsame_vc h5 ?_; conv => whnf)
    | (refine splitB.isFj ?_ ?_; (focus (simp only [eqCells, beq_self_eq_true, Bool.and_self, Bool.not_true, bne_self_eq_false]; done)); conv => whnf)
    | (refine splitB.isTj ?_ ?_; (focus (simp only [eqCells, beq_self_eq_true, Bool.and_self]; done)); conv => whnf)
    | (exact RetT.drop (K := K) M (List.Sublist.refl _) hk)
    | (refine JoinVC.go ?_; conv => whnf)
    | (refine RetA.go ?_; conv => whnf)
    | (refine And.intro ?_ ?_ <;> conv => whnf)
    | (refine splitB.dec (fun hb => ?_) (fun hb => ?_) <;> first | (exfalso; omega) | (conv => whnf))
    | (refine splitB.ndec (fun hb => ?_) (fun hb => ?_) <;> first | (exfalso; omega) | (conv => whnf))
    | (refine splitB.eqI (fun hb => ?_) (fun hb => ?_) <;> first | (exfalso; omega) | (conv => whnf))
    | (refine splitB.neI (fun hb => ?_) (fun hb => ?_) <;> first | (exfalso; omega) | (conv => whnf))
    | (intro r bx; conv => whnf))
  all_goals exact RetT.drop (K := K) M (List.Sublist.refl _) (castB (by simp) hk)
set_option maxHeartbeats 4000000 in
theorem same08_vc {g1 g2 : FrP} (h1 : FrOk wA g1) (h2 : FrOk wA g2) (e1 : g1.task = g2.task) (e2 : g1.path = g2.path) (e3 : g1.fn = g2.fn) (e4 : g1.pc = g2.pc) (e5 : g1.loc = g2.loc) (e6 : g1.stk = g2.stk) (e7 : g1.kids = g2.kids) (e8 : g1.many = g2.many) (e9 : g1.spent = g2.spent) (e10 : g1.fail = g2.fail) (hk : K (.bool true) (CtxA wA w0 X M)) : CallVC Tryz.prog (CtxA wA w0 X M) 30 #[.agg g1.l.toArray, .agg g2.l.toArray] K Z := by
  obtain ⟨task, Ap, np, cp, path, fn, pc, Al, nl, cl, loc, As, ns, cs, stk, Ak, nk, ck, kids, many, spent, fail⟩ := g1
  obtain ⟨task2, Ap2, np2, cp2, path2, fn2, pc2, Al2, nl2, cl2, loc2, As2, ns2, cs2, stk2, Ak2, nk2, ck2, kids2, many2, spent2, fail2⟩ := g2
  dsimp only at e1 e2 e3 e4 e5 e6 e7 e8 e9 e10
  subst e1 e2 e3 e4 e5 e6 e7 e8 e9 e10
  obtain ⟨p1, p2, p3, p4⟩ := h1
  obtain ⟨q1, q2, q3, q4⟩ := h2
  dsimp only at p1 p2 p3 p4 q1 q2 q3 q4
  dsimp only [FrP.l]
  refine it30 (args := [_, _]) (by rfl) ?_
  intro w2 X2
  conv => whnf
  cases fail
  all_goals conv => whnf
  all_goals skip
  repeat' (first
    | (refine ints08_vc p1 q1 ?_; conv => whnf)
    | (refine ints08_vc p2 q2 ?_; conv => whnf)
    | (refine ints08_vc p3 q3 ?_; conv => whnf)
    | (refine kids08_vc p4 q4 ?_; conv => whnf)
    | (refine semNeB ?_; conv => whnf)
    | (refine splitB.isFj ?_ ?_; (focus (simp only [eqCells, beq_self_eq_true, Bool.and_self, Bool.not_true, bne_self_eq_false]; done)); conv => whnf)
    | (refine splitB.isTj ?_ ?_; (focus (simp only [eqCells, beq_self_eq_true, Bool.and_self]; done)); conv => whnf)
    | (exact RetT.drop (K := K) M (List.Sublist.refl _) hk)
    | (refine JoinVC.go ?_; conv => whnf)
    | (refine RetA.go ?_; conv => whnf)
    | (refine And.intro ?_ ?_ <;> conv => whnf)
    | (refine splitB.dec (fun hb => ?_) (fun hb => ?_) <;> first | (exfalso; omega) | (conv => whnf))
    | (refine splitB.ndec (fun hb => ?_) (fun hb => ?_) <;> first | (exfalso; omega) | (conv => whnf))
    | (refine splitB.eqI (fun hb => ?_) (fun hb => ?_) <;> first | (exfalso; omega) | (conv => whnf))
    | (refine splitB.neI (fun hb => ?_) (fun hb => ?_) <;> first | (exfalso; omega) | (conv => whnf))
    | (intro r bx; conv => whnf))
end
end Go.Proofs.YtgaopcbjhepklaaGreat
/- The document's frames: whether one is right. -/
namespace Go.Proofs.YtgaopcbjhepklaaGreat
open Go.RowKit
set_option linter.unusedSimpArgs false
set_option linter.unusedVariables false
set_option maxRecDepth 100000
theorem rightB_of {c : CodeP} {f : FrP} (R : RightP c f) : rightB c f = true := by
  obtain ⟨a1, a2, a3, a4, a5, a6, a7, a8, a9, b1, b2⟩ := R
  unfold rightB
  rw [if_neg (by omega), if_neg (by omega), if_neg (by rw [a7]; decide), a8, a9]
  simp only [Bool.true_and, Bool.and_eq_true, decide_eq_true_eq]
  omega
theorem rightB_no {c : CodeP} {f : FrP} (h : RightP c f → False) : rightB c f = false := by
  cases e : rightB c f with
  | false => rfl
  | true => exact (h (rightB_spec e)).elim
theorem bodyAt_eq {c : CodeP} {fn : Int} (h : fn.toNat < c.funs.length) : bodyAt c fn = c.funs[fn.toNat] := by
  unfold bodyAt
  simp [List.getD, h]
section
variable {wA w0 : World} {X : Nat → Prop} {M : EL} {K : Value → Ctx → Prop} {Z : PanK}
theorem idxF {c : CodeP} (hc : CodeOk wA c) {fn : Int} (h0 : 0 ≤ fn) (h1 : fn < c.nf) {K : Value → Prop} (hk : ∀ b o, (∀ q v, (bodyAt c fn).l[q]? = some v → wA.cell? ⟨b, o + q, none⟩ = some v) → K (.pointer (some ⟨b, o, none⟩))) : IdxVC c.Af c.nf fn 3 K := by
  have hnf := hc.nf
  have hlt : fn.toNat < c.funs.length := by omega
  obtain ⟨b, o, hA, hcl⟩ := hc.body _ hlt
  refine idxO b o hA h0 (by omega) (hk b (o + fn.toNat * 3) fun q v hv => ?_)
  rw [bodyAt_eq hlt] at hv
  exact hcl q v hv
set_option maxHeartbeats 4000000 in
theorem is08_vc {x : Int} (h1 : valB x = true → K (.bool true) (CtxA wA w0 X M)) (h2 : valB x = false → K (.bool false) (CtxA wA w0 X M)) : CallVC Tryz.prog (CtxA wA w0 X M) 146 #[.int .i64 x] K Z := by
  have key : ∀ b : Bool, (b = true ↔ (0 ≤ x ∧ x < 4294967296)) → K (.bool b) (CtxA wA w0 X M) := fun b hb => by
    cases b with
    | true => exact h1 (valB_t (hb.1 rfl))
    | false => exact h2 (valB_f fun h => by cases hb.2 h)
  refine it146 (args := [.int .i64 x]) (by rfl) ?_
  intro w2 X2
  conv => whnf
  repeat' (first
    | (exact RetT.drop (K := K) M (List.Sublist.refl _) (key _ (by simp; omega)))
    | (refine JoinVC.go ?_; conv => whnf)
    | (refine RetA.go ?_; conv => whnf)
    | (refine And.intro ?_ ?_ <;> conv => whnf)
    | (refine splitB.dec (fun hb => ?_) (fun hb => ?_) <;> first | (exfalso; omega) | (conv => whnf))
    | (refine splitB.ndec (fun hb => ?_) (fun hb => ?_) <;> first | (exfalso; omega) | (conv => whnf))
    | (refine splitB.eqI (fun hb => ?_) (fun hb => ?_) <;> first | (exfalso; omega) | (conv => whnf))
    | (refine splitB.neI (fun hb => ?_) (fun hb => ?_) <;> first | (exfalso; omega) | (conv => whnf))
    | (intro r bx; conv => whnf))
set_option maxHeartbeats 4000000 in
theorem all08_vc {A : Option Addr} {n c : Nat} {xs : List Int} (h : OldI wA A n c xs) (h1 : valsB xs = true → K (.bool true) (CtxA wA w0 X M)) (h2 : valsB xs = false → K (.bool false) (CtxA wA w0 X M)) : CallVC Tryz.prog (CtxA wA w0 X M) 113 #[.slice A n c] K Z := by
  have hl := h.len
  have hs := h.sm
  refine it113 (args := [.slice A n c]) (by rfl) ?_
  intro w2 X2
  conv => whnf
  refine LoopVC.on (X := Nat) (fun i => [(0, .v (.slice A n c)), (2, .v (.bool false)), (3, .v (.int .i64 (i : Int)))]) (fun _ => []) (fun _ => CtxA wA w2 X2 M) (fun i => i ≤ n ∧ valsB (xs.take i) = true) (fun i => n - i) 0 ⟨Nat.zero_le _, rfl⟩ ⟨rfl, rfl, rfl, trivial⟩ trivial ?_
  intro i r hi
  obtain ⟨hi, hv⟩ := hi
  replace hi : i ≤ n := hi
  replace hv : valsB (xs.take i) = true := hv
  conv => whnf
  refine splitB.dec (fun hb => ?_) (fun hb => ?_)
  · have hlt : i < xs.length := by omega
    have hgd : xs.getD i 0 = xs[i] := by simp [List.getD, hlt]
    have hst : valsB (xs.take (i + 1)) = (valsB (xs.take i) && valB (xs.getD i 0)) := by
      rw [hgd]
      exact all_take valB xs i hlt
    conv => whnf
    repeat' (first
      | (refine idxOI h i rfl (by omega) (fun b1' o1' hA1 hcl1 => ?_); conv => whnf)
      | (refine ldO (by assumption) (tab_ok _ _ (by rfl)) (by rfl) ?_; conv => whnf)
      | (refine is08_vc (fun hx => ?_) (fun hx => ?_) <;> conv => whnf)
      | (exact rnd (X := Nat) (i + 1) (by show n - (i + 1) < n - i; omega) ⟨by show i + 1 ≤ n; omega, by show valsB (xs.take (i + 1)) = true; rw [hst, hv, hx]; rfl⟩ ⟨rfl, rfl, ixw (by omega), trivial⟩ trivial)
      | (exact RetT.drop (K := K) M (List.Sublist.refl _) (h2 (all_not valB xs i hlt (by rw [← hgd]; exact hx))))
      | (refine JoinVC.go ?_; conv => whnf)
      | (refine RetA.go ?_; conv => whnf)
      | (refine And.intro ?_ ?_ <;> conv => whnf)
      | (refine splitB.dec (fun hb => ?_) (fun hb => ?_) <;> first | (exfalso; omega) | (conv => whnf))
      | (refine splitB.ndec (fun hb => ?_) (fun hb => ?_) <;> first | (exfalso; omega) | (conv => whnf))
      | (refine splitB.eqI (fun hb => ?_) (fun hb => ?_) <;> first | (exfalso; omega) | (conv => whnf))
      | (refine splitB.neI (fun hb => ?_) (fun hb => ?_) <;> first | (exfalso; omega) | (conv => whnf))
      | (intro r bx; conv => whnf))
  · conv => whnf
    have hfull : xs.take i = xs := List.take_of_length_le (by omega)
    rw [hfull] at hv
    repeat' (first
      | (exact RetT.drop (K := K) M (List.Sublist.refl _) (h1 hv))
      | (refine JoinVC.go ?_; conv => whnf)
      | (refine RetA.go ?_; conv => whnf)
      | (refine And.intro ?_ ?_ <;> conv => whnf)
      | (refine splitB.dec (fun hb => ?_) (fun hb => ?_) <;> first | (exfalso; omega) | (conv => whnf))
      | (refine splitB.ndec (fun hb => ?_) (fun hb => ?_) <;> first | (exfalso; omega) | (conv => whnf))
      | (refine splitB.eqI (fun hb => ?_) (fun hb => ?_) <;> first | (exfalso; omega) | (conv => whnf))
      | (refine splitB.neI (fun hb => ?_) (fun hb => ?_) <;> first | (exfalso; omega) | (conv => whnf))
      | (intro r bx; conv => whnf))
set_option maxHeartbeats 8000000 in
theorem right08_vc {c : CodeP} {f : FrP} (hc : CodeOk wA c) (hf : FrOk wA f) (h1 : rightB c f = true → K (.bool true) (CtxA wA w0 X M)) (h2 : rightB c f = false → K (.bool false) (CtxA wA w0 X M)) : CallVC Tryz.prog (CtxA wA w0 X M) 58 #[.agg c.l.toArray, .agg f.l.toArray] K Z := by
  have no : (RightP c f → False) → K (.bool false) (CtxA wA w0 X M) := fun h => h2 (rightB_no h)
  have hkl := hf.kids.len
  have hks := hf.kids.sm
  refine it58 (args := [.agg c.l.toArray, .agg f.l.toArray]) (by rfl) ?_
  intro w2 X2
  conv => whnf
  repeat' (first
    | (refine idxF hc (by omega) (by omega) (fun b' o' hcl => ?_); conv => whnf)
    | (refine ldsO (BodyP.l _) (by assumption) (tab_ok _ _ (by rfl)) (by rfl) (by rfl) ?_; conv => whnf)
    | (refine all08_vc hf.loc (fun hv1 => ?_) (fun hv1 => ?_) <;> conv => whnf)
    | (refine all08_vc hf.stk (fun hv2 => ?_) (fun hv2 => ?_) <;> conv => whnf)
    | (exact RetT.drop (K := K) M (List.Sublist.refl _) (no fun R => by have a1 := R.task; have a2 := R.f0; have a3 := R.f1; have a4 := R.pc; have a5 := R.nl; have a6 := R.ns; have a7 := R.many; have a8 := R.spent; have a9 := R.loc; have b1 := R.stk; first | omega | exact Bool.noConfusion (a9.symm.trans hv1) | exact Bool.noConfusion (b1.symm.trans hv2)))
    | (refine JoinVC.go ?_; conv => whnf)
    | (refine RetA.go ?_; conv => whnf)
    | (refine And.intro ?_ ?_ <;> conv => whnf)
    | (refine splitB.dec (fun hb => ?_) (fun hb => ?_) <;> first | (exfalso; omega) | (conv => whnf))
    | (refine splitB.ndec (fun hb => ?_) (fun hb => ?_) <;> first | (exfalso; omega) | (conv => whnf))
    | (refine splitB.eqI (fun hb => ?_) (fun hb => ?_) <;> first | (exfalso; omega) | (conv => whnf))
    | (refine splitB.neI (fun hb => ?_) (fun hb => ?_) <;> first | (exfalso; omega) | (conv => whnf))
    | (intro r bx; conv => whnf))
  refine LoopVC.on (X := Nat) (fun i => [(2, .p 2 0), (3, .p 3 0), (4, .v (.bool false)), (5, .p 5 0), (8, .v (.int .i64 (i : Int)))]) (fun _ => [(2, 25, c.l), (3, 36, f.l), (5, 63, (bodyAt c f.fn).l)]) (fun _ => CtxA wA w2 X2 M) (fun i => i ≤ f.nk ∧ (f.kids.take i).all (kidB (bodyAt c f.fn).locals) = true) (fun i => f.nk - i) 0 ⟨Nat.zero_le _, rfl⟩ ⟨rfl, rfl, rfl, rfl, rfl, trivial⟩ ⟨rfl, rfl, rfl, trivial⟩ ?_
  intro i r hi
  obtain ⟨hi, hv⟩ := hi
  replace hi : i ≤ f.nk := hi
  replace hv : (f.kids.take i).all (kidB (bodyAt c f.fn).locals) = true := hv
  conv => whnf
  refine splitB.dec (fun hb => ?_) (fun hb => ?_)
  · have hlt : i < f.kids.length := by omega
    have hst := all_take (kidB (bodyAt c f.fn).locals) f.kids i hlt
    have nok : kidB (bodyAt c f.fn).locals f.kids[i] = false → K (.bool false) (CtxA wA w0 X M) := fun h => no fun R => Bool.noConfusion (R.kids.symm.trans (all_not _ _ i hlt h))
    conv => whnf
    repeat' (first
      | (refine idxOK hf.kids i rfl (by omega) (fun b1' o1' hA1 hcl1 => ?_); conv => whnf)
      | (refine ldO (hcl1 0 _ rfl) (tab_ok _ _ (by rfl)) (by rfl) ?_; conv => whnf)
      | (refine ldO (hcl1 1 _ rfl) (tab_ok _ _ (by rfl)) (by rfl) ?_; conv => whnf)
      | (refine JoinVC.go ?_; conv => whnf)
      | (refine RetA.go ?_; conv => whnf)
      | (refine And.intro ?_ ?_ <;> conv => whnf)
      | (refine splitB.dec (fun hb => ?_) (fun hb => ?_) <;> first | (exfalso; omega) | (conv => whnf))
      | (refine splitB.ndec (fun hb => ?_) (fun hb => ?_) <;> first | (exfalso; omega) | (conv => whnf))
      | (refine splitB.eqI (fun hb => ?_) (fun hb => ?_) <;> first | (exfalso; omega) | (conv => whnf))
      | (refine splitB.neI (fun hb => ?_) (fun hb => ?_) <;> first | (exfalso; omega) | (conv => whnf))
      | (intro r bx; conv => whnf))
    all_goals first
      | exact RetT.drop (K := K) M (List.Sublist.refl _) (nok (kidB_f (by omega)))
      | exact rnd (X := Nat) (i + 1) (by show f.nk - (i + 1) < f.nk - i; omega) ⟨by show i + 1 ≤ f.nk; omega, by show (f.kids.take (i + 1)).all (kidB (bodyAt c f.fn).locals) = true; rw [hst, hv, kidB_t (by omega) (by omega)]; rfl⟩ ⟨rfl, rfl, rfl, rfl, ixw (by omega), trivial⟩ ⟨rfl, rfl, rfl, trivial⟩
  · conv => whnf
    have hfull : f.kids.take i = f.kids := List.take_of_length_le (by omega)
    rw [hfull] at hv
    repeat' (first
      | (exact RetT.drop (K := K) M (List.Sublist.refl _) (h1 (rightB_of ⟨by omega, by omega, by omega, by omega, by omega, by omega, hv, by assumption, by assumption, by omega, by omega⟩)))
      | (refine JoinVC.go ?_; conv => whnf)
      | (refine RetA.go ?_; conv => whnf)
      | (refine And.intro ?_ ?_ <;> conv => whnf)
      | (refine splitB.dec (fun hb => ?_) (fun hb => ?_) <;> first | (exfalso; omega) | (conv => whnf))
      | (refine splitB.ndec (fun hb => ?_) (fun hb => ?_) <;> first | (exfalso; omega) | (conv => whnf))
      | (refine splitB.eqI (fun hb => ?_) (fun hb => ?_) <;> first | (exfalso; omega) | (conv => whnf))
      | (refine splitB.neI (fun hb => ?_) (fun hb => ?_) <;> first | (exfalso; omega) | (conv => whnf))
      | (intro r bx; conv => whnf))
end
end Go.Proofs.YtgaopcbjhepklaaGreat
/- The document's frames: small functions. -/
namespace Go.Proofs.YtgaopcbjhepklaaGreat
open Go.RowKit
set_option linter.unusedSimpArgs false
set_option linter.unusedVariables false
set_option maxRecDepth 100000
def pairP (op a b : Int) : Int :=
  if op = 6 then IntKind.i64.wrap (a + b) % 4294967296 else if op = 7 then IntKind.i64.wrap (a - b) % 4294967296 else if op = 8 then IntKind.i64.wrap (a * b) % 4294967296
  else if op = 9 then (if a < b then 1 else 0) else if op = 10 then (if a = b then 1 else 0) else IntKind.i64.wrap ((IntKind.i64.wrap (a + b)).tdiv 2)
theorem wrapM (x : Int) : IntKind.i64.wrap x % 4294967296 = x % 4294967296 := by
  simp [IntKind.wrap, IntKind.bits, IntKind.signed]
  split <;> omega
theorem mod_up {x : Int} : (if x.tmod 4294967296 < 0 then IntKind.i64.wrap (x.tmod 4294967296 + 4294967296) else x.tmod 4294967296) = x % 4294967296 := by
  have h1 := Int.tmod_def x 4294967296
  have h2 : -4294967296 < x.tmod 4294967296 ∧ x.tmod 4294967296 < 4294967296 := by
    rcases Int.le_total 0 x with h | h
    · rw [Int.tmod_eq_emod_of_nonneg h]; omega
    · have : x.tmod 4294967296 = -((-x).tmod 4294967296) := by rw [Int.neg_tmod]; omega
      rw [this, Int.tmod_eq_emod_of_nonneg (by omega)]; omega
  have h3 : x % 4294967296 = x.tmod 4294967296 ∨ x % 4294967296 = x.tmod 4294967296 + 4294967296 := by
    rcases Int.le_total 0 x with h | h
    · left; rw [Int.tmod_eq_emod_of_nonneg h]
    · have : x.tmod 4294967296 = -((-x) % 4294967296) := by
        have : x.tmod 4294967296 = -((-x).tmod 4294967296) := by rw [Int.neg_tmod]; omega
        rw [this, Int.tmod_eq_emod_of_nonneg (by omega)]
      omega
  split
  · rw [wrapI (by omega)]; omega
  · omega
theorem key_up {x : Int} : (if x.tmod 65536 < 0 then IntKind.i64.wrap (x.tmod 65536 + 65536) else x.tmod 65536) = x % 65536 := by
  have h2 : -65536 < x.tmod 65536 ∧ x.tmod 65536 < 65536 := by
    rcases Int.le_total 0 x with h | h
    · rw [Int.tmod_eq_emod_of_nonneg h]; omega
    · have : x.tmod 65536 = -((-x).tmod 65536) := by rw [Int.neg_tmod]; omega
      rw [this, Int.tmod_eq_emod_of_nonneg (by omega)]; omega
  have h3 : x % 65536 = x.tmod 65536 ∨ x % 65536 = x.tmod 65536 + 65536 := by
    rcases Int.le_total 0 x with h | h
    · left; rw [Int.tmod_eq_emod_of_nonneg h]
    · have : x.tmod 65536 = -((-x) % 65536) := by
        have : x.tmod 65536 = -((-x).tmod 65536) := by rw [Int.neg_tmod]; omega
        rw [this, Int.tmod_eq_emod_of_nonneg (by omega)]
      omega
  split
  · rw [wrapI (by omega)]; omega
  · omega
section
variable {wA w0 : World} {X : Nat → Prop} {M : EL} {K : Value → Ctx → Prop} {Z : PanK}
theorem castI {C : Ctx} {a b : Int} (h : a = b) (hk : K (.int .i64 b) C) : K (.int .i64 a) C := by subst h; exact hk
set_option maxHeartbeats 4000000 in
theorem wrap08_vc {x : Int} (hk : K (.int .i64 (x % 4294967296)) (CtxA wA w0 X M)) : CallVC Tryz.prog (CtxA wA w0 X M) 148 #[.int .i64 x] K Z := by
  rw [← mod_up] at hk
  refine it148 (args := [.int .i64 x]) (by rfl) ?_
  intro w2 X2
  conv => whnf
  refine And.intro (by decide) ?_
  conv => whnf
  refine splitB.dec (fun hb => ?_) (fun hb => ?_)
  · rw [if_pos hb] at hk
    conv => whnf
    exact RetT.drop (K := K) M (List.Sublist.refl _) hk
  · rw [if_neg hb] at hk
    conv => whnf
    exact RetT.drop (K := K) M (List.Sublist.refl _) hk
set_option maxHeartbeats 4000000 in
theorem key08_vc {x : Int} (hk : K (.int .i64 (x % 65536)) (CtxA wA w0 X M)) : CallVC Tryz.prog (CtxA wA w0 X M) 118 #[.int .i64 x] K Z := by
  rw [← key_up] at hk
  refine it118 (args := [.int .i64 x]) (by rfl) ?_
  intro w2 X2
  conv => whnf
  refine And.intro (by decide) ?_
  conv => whnf
  refine splitB.dec (fun hb => ?_) (fun hb => ?_)
  · rw [if_pos hb] at hk
    conv => whnf
    exact RetT.drop (K := K) M (List.Sublist.refl _) hk
  · rw [if_neg hb] at hk
    conv => whnf
    exact RetT.drop (K := K) M (List.Sublist.refl _) hk
theorem times_eq {a b : Int} (ha : 0 ≤ a ∧ a < 4294967296) (hb : 0 ≤ b ∧ b < 4294967296) : IntKind.i64.wrap (IntKind.i64.wrap (a * b.tmod 65536) + IntKind.i64.wrap ((IntKind.i64.wrap (a * IntKind.i64.wrap (b.tdiv 65536))).tmod 65536 * 65536) % 4294967296) % 4294967296 = IntKind.i64.wrap (a * b) % 4294967296 := by
  have e1 : b.tmod 65536 = b % 65536 := Int.tmod_eq_emod_of_nonneg hb.1
  have e2 : IntKind.i64.wrap (b.tdiv 65536) = b / 65536 := by rw [Int.tdiv_eq_ediv_of_nonneg hb.1]; exact wrapI (by omega)
  rw [e1, e2]
  have hlo : 0 ≤ b % 65536 ∧ b % 65536 < 65536 := by omega
  have hhi : 0 ≤ b / 65536 ∧ b / 65536 < 65536 := by omega
  have hbe : b = b / 65536 * 65536 + b % 65536 := by omega
  generalize b % 65536 = lo at hlo hbe ⊢
  generalize b / 65536 = hi at hhi hbe ⊢
  have m1 : 0 ≤ a * lo := Int.mul_nonneg ha.1 hlo.1
  have m2 : 0 ≤ a * hi := Int.mul_nonneg ha.1 hhi.1
  have m3 : a * lo ≤ 4294967296 * 65536 := Int.mul_le_mul (by omega) (by omega) hlo.1 (by omega)
  have m4 : a * hi ≤ 4294967296 * 65536 := Int.mul_le_mul (by omega) (by omega) hhi.1 (by omega)
  have e3 : a * b = a * hi * 65536 + a * lo := by rw [hbe, Int.mul_add, Int.mul_assoc]
  rw [e3, wrapM, wrapM]
  generalize a * lo = p at m1 m3 ⊢
  generalize a * hi = q at m2 m4 ⊢
  rw [wrapI (x := p) (by omega), wrapI (x := q) (by omega), Int.tmod_eq_emod_of_nonneg m2, wrapM]
  omega
set_option maxHeartbeats 4000000 in
theorem times08_vc {a b : Int} (ha : 0 ≤ a ∧ a < 4294967296) (hb : 0 ≤ b ∧ b < 4294967296) (hk : K (.int .i64 (IntKind.i64.wrap (a * b) % 4294967296)) (CtxA wA w0 X M)) : CallVC Tryz.prog (CtxA wA w0 X M) 149 #[.int .i64 a, .int .i64 b] K Z := by
  rw [← times_eq ha hb] at hk
  refine it149 (args := [.int .i64 a, .int .i64 b]) (by rfl) ?_
  intro w2 X2
  conv => whnf
  repeat' (first
    | (refine wrap08_vc ?_; conv => whnf)
    | exact RetT.drop (K := K) M (List.Sublist.refl _) hk
    | (focus decide)
    | (refine And.intro ?_ ?_ <;> conv => whnf))
set_option maxHeartbeats 4000000 in
theorem awaits08_vc {f : FrP} {a : Int} (hf : OldK wA f.Ak f.nk f.ck f.kids) (h1 : awaits f.kids a = true → K (.bool true) (CtxA wA w0 X M)) (h2 : awaits f.kids a = false → K (.bool false) (CtxA wA w0 X M)) : CallVC Tryz.prog (CtxA wA w0 X M) 115 #[.agg f.l.toArray, .int .i64 a] K Z := by
  have hkl := hf.len
  have hks := hf.sm
  refine it115 (args := [.agg f.l.toArray, .int .i64 a]) (by rfl) ?_
  intro w2 X2
  conv => whnf
  refine LoopVC.on (X := Nat) (fun i => [(1, .v (.int .i64 a)), (2, .p 2 0), (4, .v (.bool false)), (5, .v (.int .i64 (i : Int)))]) (fun _ => [(2, 36, f.l)]) (fun _ => CtxA wA w2 X2 M) (fun i => i ≤ f.nk ∧ (f.kids.take i).all (fun k => !(k.dst == a)) = true) (fun i => f.nk - i) 0 ⟨Nat.zero_le _, rfl⟩ ⟨rfl, rfl, rfl, rfl, trivial⟩ ⟨rfl, trivial⟩ ?_
  intro i r hi
  obtain ⟨hi, hv⟩ := hi
  replace hi : i ≤ f.nk := hi
  replace hv : (f.kids.take i).all (fun k => !(k.dst == a)) = true := hv
  conv => whnf
  refine splitB.dec (fun hb => ?_) (fun hb => ?_)
  · have hlt : i < f.kids.length := by omega
    have hst := all_take (fun k : KidP => !(k.dst == a)) f.kids i hlt
    conv => whnf
    repeat' (first
      | (refine idxOK hf i rfl (by omega) (fun b1' o1' hA1 hcl1 => ?_); conv => whnf)
      | (refine ldO (hcl1 1 _ rfl) (tab_ok _ _ (by rfl)) (by rfl) ?_; conv => whnf)
      | (refine JoinVC.go ?_; conv => whnf)
      | (refine RetA.go ?_; conv => whnf)
      | (refine And.intro ?_ ?_ <;> conv => whnf)
      | (refine splitB.dec (fun hb => ?_) (fun hb => ?_) <;> first | (exfalso; omega) | (conv => whnf))
      | (refine splitB.ndec (fun hb => ?_) (fun hb => ?_) <;> first | (exfalso; omega) | (conv => whnf))
      | (refine splitB.eqI (fun hb => ?_) (fun hb => ?_) <;> first | (exfalso; omega) | (conv => whnf))
      | (refine splitB.neI (fun hb => ?_) (fun hb => ?_) <;> first | (exfalso; omega) | (conv => whnf))
      | (intro r bx; conv => whnf))
    all_goals first
      | exact RetT.drop (K := K) M (List.Sublist.refl _) (h1 (List.any_eq_true.2 ⟨f.kids[i], List.getElem_mem hlt, by simpa using hb⟩))
      | exact rnd (X := Nat) (i + 1) (by show f.nk - (i + 1) < f.nk - i; omega) ⟨by show i + 1 ≤ f.nk; omega, by show (f.kids.take (i + 1)).all (fun k => !(k.dst == a)) = true; rw [hst, hv]; simpa using hb⟩ ⟨rfl, rfl, rfl, ixw (by omega), trivial⟩ ⟨rfl, trivial⟩
  · conv => whnf
    have hfull : f.kids.take i = f.kids := List.take_of_length_le (by omega)
    rw [hfull] at hv
    have hno : awaits f.kids a = false := by
      unfold awaits
      rw [List.any_eq_false]
      intro k hk
      have := List.all_eq_true.1 hv k hk
      simpa using this
    exact RetT.drop (K := K) M (List.Sublist.refl _) (h2 hno)
set_option maxHeartbeats 4000000 in
theorem pair08_vc {op a b : Int} (hop : op = 6 ∨ op = 7 ∨ op = 8 ∨ op = 9 ∨ op = 10 ∨ op = 19) (ha : 0 ≤ a ∧ a < 4294967296) (hb : 0 ≤ b ∧ b < 4294967296) (hk : K (.int .i64 (pairP op a b)) (CtxA wA w0 X M)) : CallVC Tryz.prog (CtxA wA w0 X M) 117 #[.int .i64 op, .int .i64 a, .int .i64 b] K Z := by
  have e19 : IntKind.i64.wrap (a + b) = a + b := wrapI (by omega)
  rcases hop with rfl | rfl | rfl | rfl | rfl | rfl
  all_goals refine it117 (args := [_, _, _]) (by rfl) ?_
  all_goals intro w2 X2
  all_goals conv => whnf
  all_goals skip
  repeat' (first
    | (refine wrap08_vc ?_; conv => whnf)
    | (refine times08_vc ha hb ?_; conv => whnf)
    | (focus decide)
    | (exact RetT.drop (K := K) M (List.Sublist.refl _) hk)
    | (refine JoinVC.go ?_; conv => whnf)
    | (refine RetA.go ?_; conv => whnf)
    | (refine And.intro ?_ ?_ <;> conv => whnf)
    | (refine splitB.dec (fun hb => ?_) (fun hb => ?_) <;> first | (exfalso; omega) | (conv => whnf))
    | (refine splitB.ndec (fun hb => ?_) (fun hb => ?_) <;> first | (exfalso; omega) | (conv => whnf))
    | (refine splitB.eqI (fun hb => ?_) (fun hb => ?_) <;> first | (exfalso; omega) | (conv => whnf))
    | (refine splitB.neI (fun hb => ?_) (fun hb => ?_) <;> first | (exfalso; omega) | (conv => whnf))
    | (intro r bx; conv => whnf))
  all_goals exact RetT.drop (K := K) M (List.Sublist.refl _) (castI (by simp [pairP]; omega) hk)
set_option maxHeartbeats 4000000 in
theorem passed08_vc {f : FrP} {m : Nat} {tk : Int} {Al : Option Addr} {nl cl : Nat} {ls : List Int} (hf : FrOk wA f) (htk : tk = (m : Int)) (hm : m ≤ f.ns) (hns : f.ns ≤ 100) (hl : OldI wA Al nl cl ls) (hll : nl ≤ 1) (hpc : -1000000 ≤ f.pc ∧ f.pc ≤ 1000000) (hsp : -1000000 ≤ f.spent ∧ f.spent ≤ 1000000)
    (hk : ∀ A' c', f.ns - m + nl ≤ c' → (0 < c' → ∃ b, A' = some ⟨b, 0, none⟩) → K (.agg ({ f with As := A', ns := f.ns - m + nl, cs := c', stk := f.stk.take (f.ns - m) ++ ls, pc := f.pc + 1, spent := f.spent + 1 } : FrP).l.toArray) (CtxA wA w0 X ((.slice A' (f.ns - m + nl) c', .row 3 1 (is (f.stk.take (f.ns - m) ++ ls))) :: M))) :
    CallVC Tryz.prog (CtxA wA w0 X M) 116 #[.agg f.l.toArray, .int .i64 tk, .slice Al nl cl] K Z := by
  subst htk
  have hsl := hf.stk.len
  have hsc := hf.stk.cap
  have hlen := hl.len
  have e1 : IntKind.i64.wrap ((f.ns : Int) - (m : Int)) = ((f.ns - m : Nat) : Int) := (wrapI (by omega)).trans (by omega)
  have e2 : IntKind.i64.wrap (f.pc + 1) = f.pc + 1 := wrapI (by omega)
  have e3 : IntKind.i64.wrap (f.spent + 1) = f.spent + 1 := wrapI (by omega)
  have hrd : Rd wA wA.heap.size f.As (is (f.stk.take (f.ns - m))) := by
    have h := hf.stk.rd.take (f.ns - m)
    have e : (is f.stk).take (f.ns - m) = is (f.stk.take (f.ns - m)) := by simp [is, List.map_take]
    rw [e] at h
    exact h
  refine it116 (args := [.agg f.l.toArray, .int .i64 (m : Int), .slice Al nl cl]) (by rfl) ?_
  intro w2 X2
  conv => whnf
  refine bsA el23 (by rfl) ?_
  conv => whnf
  refine ⟨by rfl, fun bl => ?_⟩
  conv => whnf
  refine cutHiN (f.ns - m) e1 (by omega) ?_
  conv => whnf
  refine app0I (f.stk.take (f.ns - m)) (SrcA.old el23 hrd (by simp; omega) (is_one _)) rfl (by omega) (fun A1 c1 hc1 hA1 => ?_)
  conv => whnf
  refine appI ls (SrcA.old el23 hl.rd (by simp; omega) (is_one _)) rfl AtE.here (by omega) ?_
  intro A2 c2 hc2 hA2
  conv => whnf
  have h2 := hk A2 c2 hc2 hA2
  rw [← e2, ← e3] at h2
  exact RetT.drop (K := K) _ (List.Sublist.cons_cons _ (List.Sublist.cons _ (List.Sublist.refl _))) h2
end
end Go.Proofs.YtgaopcbjhepklaaGreat
